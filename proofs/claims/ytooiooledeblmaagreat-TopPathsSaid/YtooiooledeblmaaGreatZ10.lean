/- The expander: the other bytes behind a part's first one; any byte. The expander: made, fed, ended. The expander: ended; is it done? What Decode needs of a decoder. -/
import Derived.Test.YtooiooledeblmaaGreatZ9
import Derived.Deep.CutBlock
import Derived.Deep.DeepCutAuto
set_option linter.unusedVariables false
set_option linter.unusedSimpArgs false
namespace Go.Proofs.YtooiooledeblmaaGreat
namespace Dec
open Go.RowKit Win Stp Mach
set_option maxRecDepth 100000 in
set_option maxHeartbeats 4000000 in
theorem more_3 {w:World} {g gw rb:Nat} {v:Value} {b:B4} {l:List Int} {m:M} (x:Int) (h:DecAt w g gw rb v b l m) (hbeg:m.beg=3):
  Calls Tryz.prog 273 #[.pointer (some ⟨g,0,none⟩),.int .u8 x] w (NextPost w g gw rb v b l (Mach.more m x)):=by
 have h8:=h.c8;have f8:=h.fz 8;have h10:=h.c10;have f10:=h.fz 10;rw [hbeg] at h8;have hr:Mach.more m x=some ({m with first:=x,beg:=4},[]):=by unfold Mach.more;rw [if_neg (by rw [hbeg];decide),if_neg (by rw [hbeg];decide),if_pos hbeg]
 rw [hr]
 have H:=Lib.hid h;clear h hr hbeg;go_enter Tryz.func273,Tryz.ntmps273;go_wp2_with fail;go_ret;exact np_of ((H.out.set 10 (.int .u8 x) (b':=b) (m':={m with first:=x}) rfl rfl).set 8 (.int .i64 4) rfl rfl) ((chg_g 10 _).trans (chg_g 8 _))
set_option maxRecDepth 100000 in
set_option maxHeartbeats 4000000 in
theorem more_4 {w:World} {g gw rb:Nat} {v:Value} {b:B4} {l:List Int} {m:M} (x:Int) (h:DecAt w g gw rb v b l m) (hG:Mach.Good m) (x0:0≤x) (x1:x≤255) (hbeg:m.beg=4):
  Calls Tryz.prog 273 #[.pointer (some ⟨g,0,none⟩),.int .u8 x] w (NextPost w g gw rb v b l (Mach.more m x)):=by
 have h5:=h.c5;have h8:=h.c8;have h10:=h.c10;rw [hbeg] at h8;have hf:=hG.first
 have hr:Mach.more m x=some (({m with o:=m.o.set (m.first/32).toNat (65536+128*(m.first%32*256+x))}:M).activate (m.first/32),[]):=by unfold Mach.more;rw [if_neg (by rw [hbeg];decide),if_neg (by rw [hbeg];decide),if_neg (by rw [hbeg];decide),if_pos hbeg]
 rw [hr]
 have hx:=fun w=>extended_calls m.first x w hf.1 hf.2 x0 x1
 obtain ⟨n,hn⟩:∃n,n=m.first/32:=⟨_,rfl⟩
 obtain ⟨o,ho⟩:∃o,o=65536+128*(m.first%32*256+x):=⟨_,rfl⟩
 rw [←hn,←ho] at hx ⊢;have hn01:0≤n∧n<8:=by omega
 obtain ⟨n0,n1⟩:=hn01;have HX:=Lib.hid hx;have H:=Lib.hid h;have hset:∀w3:World,WinAt w3 gw m.o used0→Calls Tryz.prog 223 #[.pointer (some ⟨gw,0,none⟩),.int .i64 n,.int .u32 o] w3 fun e w'=>e= .returned (.tuple #[])∧WinAt w' gw (m.o.set n.toNat o) used0∧Chg (·=gw) w3 w':=by
  intro w3 hw3;have:=set_calls gw m.o used0 n o w3 hw3;rw [if_pos ⟨n0,n1⟩] at this;exact this
 have HSET:=Lib.hid hset;clear h hG hf hr hx hn ho hset hbeg;go_enter Tryz.func273,Tryz.ntmps273;go_wp2_with fail;refine (HX.out _).mono ?_;rintro e w2 ⟨rfl,rfl⟩
 go_wp2_with fail;refine (HSET.out _ H.out.win).mono ?_;rintro e w3 ⟨rfl,hw3,hc3⟩
 have hd3:=H.out.wins hw3 hc3;have HD3:=Lib.hid hd3;have HC3:=Lib.hid hc3;clear hw3 hc3 hd3;go_wp2_with (go_at_call 276;refine (activate_calls _ HD3.out).mono ?_;rintro e w4 ⟨rfl,rfl⟩)
 go_ret;exact np_of (at_act HD3.out n) ((chg_gw HC3.out).trans (((chg_g 7 _).trans (chg_g 6 _)).trans (chg_g 8 _)))
set_option maxRecDepth 100000 in
set_option maxHeartbeats 4000000 in
theorem more_5 {w:World} {g gw rb:Nat} {v:Value} {b:B4} {l:List Int} {m:M} (x:Int) (h:DecAt w g gw rb v b l m) (hbeg:m.beg=5):
  Calls Tryz.prog 273 #[.pointer (some ⟨g,0,none⟩),.int .u8 x] w (NextPost w g gw rb v b l (Mach.more m x)):=by
 have h8:=h.c8;have h10:=h.c10;have f10:=h.fz 10;rw [hbeg] at h8;have H:=Lib.hid h;have h10':=h.set 10 (.int .u8 x) (b':=b) (m':={m with first:=x}) rfl rfl;have hf:=fits_calls x h10';have H10:=Lib.hid h10';have e:({m with first:=x}:M).fits x=m.fits x:=rfl;rw [e] at hf;have hr:Mach.more m x=if m.fits x=true then some (({m with first:=x}:M).begin 6 0,[]) else none:=by unfold Mach.more;rw [if_neg (by rw [hbeg];decide),if_neg (by rw [hbeg];decide),if_neg (by rw [hbeg];decide),if_neg (by rw [hbeg];decide),if_pos hbeg]
 rw [hr]
 clear h h10' e hr hbeg
 cases hfx:m.fits x with
 |true=>
  rw [if_pos rfl]
  rw [hfx] at hf;clear hfx;go_enter Tryz.func273,Tryz.ntmps273;go_wp2_with (first|(go_at_call 278;refine hf.mono ?_;rintro e w1 ⟨rfl,rfl⟩)|(go_at_call 279;refine (begin_calls _ _ H10.out).mono ?_;rintro e w1 ⟨rfl,rfl⟩))
  go_ret;exact np_of (at_begin H10.out 6 0) (((chg_g 10 _).trans (chg_g 8 _)).trans (chg_g 9 _))
 |false=>
  rw [if_neg (by decide)]
  rw [hfx] at hf;clear hfx;go_enter Tryz.func273,Tryz.ntmps273;go_wp2_with (go_at_call 278;refine hf.mono ?_;rintro e w1 ⟨rfl,rfl⟩)
  go_ret;exact np_nof H10.out (chg_g 10 _)
set_option maxRecDepth 100000 in
set_option maxHeartbeats 4000000 in
theorem more_6 {w:World} {g gw rb:Nat} {v:Value} {b:B4} {l:List Int} {m:M} (x:Int) (h:DecAt w g gw rb v b l m) (hG:Mach.Good m) (x0:0≤x) (x1:x≤255) (hl:l.length≤1000000) (hbeg:m.beg=6):
  Calls Tryz.prog 273 #[.pointer (some ⟨g,0,none⟩),.int .u8 x] w (NextPost w g gw rb v b l (Mach.more m x)):=by
 have h8:=h.c8;have h10:=h.c10;rw [hbeg] at h8;have hf:=hG.first
 have hr:Mach.more m x=some (Mach.whole m (m.first*256+x)):=by unfold Mach.more;rw [if_neg (by rw [hbeg];decide),if_neg (by rw [hbeg];decide),if_neg (by rw [hbeg];decide),if_neg (by rw [hbeg];decide),if_neg (by rw [hbeg];decide)]
 rw [hr]
 have hw:=whole_calls (m.first*256+x) h hG (by omega) (by omega) hl;have HW:=Lib.hid hw;have or1:bits .or .u32 (m.first*256) x=m.first*256+x:=bits_join .u32 32 (by decide) wraps_u32 8 (m.first*256) x (by omega) (by omega) (by omega) (by omega) (by omega) (by omega)
 have HO:=Lib.hid or1;obtain ⟨p0,p1⟩:=hf;clear h hG hr hw or1 hbeg;go_enter Tryz.func273,Tryz.ntmps273;go_wp2_with fail;rw [HO.out]
 refine HW.out.mono ?_;rintro e w1 ⟨rfl,hd⟩
 have HD:=Lib.hid hd;clear hd;go_wp2_with fail;go_ret;exact ⟨rfl,HD.out⟩
theorem more_calls {w:World} {g gw rb:Nat} {v:Value} {b:B4} {l:List Int} {m:M} (x:Int) (h:DecAt w g gw rb v b l m) (hG:Mach.Good m) (x0:0≤x) (x1:x≤255) (hl:l.length≤1000000) (hbeg:m.beg≠0):
  Calls Tryz.prog 273 #[.pointer (some ⟨g,0,none⟩),.int .u8 x] w (NextPost w g gw rb v b l (Mach.more m x)):=by
 have hb:=hG.beg;have hcs:m.beg=1∨m.beg=2∨m.beg=3∨m.beg=4∨m.beg=5∨m.beg=6:=by omega
 rcases hcs with e|e|e|e|e|e
 ·exact more_1 x h hG x0 x1 hl e
 ·exact more_2 x h hG x0 x1 hl e
 ·exact more_3 x h e
 ·exact more_4 x h hG x0 x1 e
 ·exact more_5 x h e
 ·exact more_6 x h hG x0 x1 hl e
set_option maxHeartbeats 1000000 in
theorem next_calls {w:World} {g gw rb:Nat} {v:Value} {b:B4} {l:List Int} {m:M} (x:Int) (h:DecAt w g gw rb v b l m) (hG:Mach.Good m) (x0:0≤x) (x1:x≤255) (hl:l.length≤1000000):
  Calls Tryz.prog 272 #[.pointer (some ⟨g,0,none⟩),.int .u8 x] w (NextPost w g gw rb v b l (Mach.step m x)):=by
 have h8:=h.c8;have h6:=h.c6
 by_cases hbeg:m.beg=0
 ·have hb:(m.beg !=0)=false:=by simp [hbeg]
  have hr:Mach.step m x=if m.uni=true then Mach.double m x else Mach.single m x:=by unfold Mach.step;rw [if_neg (by simp [hbeg])]
  rw [hr]
  cases hu:m.uni with
  |true=>
   rw [if_pos rfl]
   have HD:=Lib.hid (double_calls x h x0 x1)
   rw [hu] at h6;clear h hG hbeg hr hu;go_enter Tryz.func272,Tryz.ntmps272;go_wp2_with fail;refine HD.out.mono ?_;intro e w' hp
   cases hm:Mach.double m x with
   |none=>
    rw [hm] at hp;obtain ⟨rfl,hq⟩:=hp;have HQ:=Lib.hid hq;have HM:=Lib.hid hm;clear hq hm;go_wp2_with fail;go_ret;rw [HM.out]
    exact ⟨rfl,HQ.out⟩
   |some r=>
    obtain ⟨m',em⟩:=r;rw [hm] at hp;obtain ⟨rfl,hq⟩:=hp;have HQ:=Lib.hid hq;have HM:=Lib.hid hm;clear hq hm;go_wp2_with fail;go_ret;rw [HM.out]
    exact ⟨rfl,HQ.out⟩
  |false=>
   rw [if_neg (by decide)]
   have HD:=Lib.hid (single_calls x h hG x0 x1 hl)
   rw [hu] at h6;clear h hG hbeg hr hu;go_enter Tryz.func272,Tryz.ntmps272;go_wp2_with fail;refine HD.out.mono ?_;intro e w' hp
   cases hm:Mach.single m x with
   |none=>
    rw [hm] at hp;obtain ⟨rfl,hq⟩:=hp;have HQ:=Lib.hid hq;have HM:=Lib.hid hm;clear hq hm;go_wp2_with fail;go_ret;rw [HM.out]
    exact ⟨rfl,HQ.out⟩
   |some r=>
    obtain ⟨m',em⟩:=r;rw [hm] at hp;obtain ⟨rfl,hq⟩:=hp;have HQ:=Lib.hid hq;have HM:=Lib.hid hm;clear hq hm;go_wp2_with fail;go_ret;rw [HM.out]
    exact ⟨rfl,HQ.out⟩
 ·have hb:(m.beg !=0)=true:=by simp [hbeg]
  have hr:Mach.step m x=Mach.more m x:=by unfold Mach.step;rw [if_pos hbeg]
  rw [hr]
  have HD:=Lib.hid (more_calls x h hG x0 x1 hl hbeg)
  clear h hG hbeg hr;go_enter Tryz.func272,Tryz.ntmps272;go_wp2_with fail;refine HD.out.mono ?_;intro e w' hp
  cases hm:Mach.more m x with
  |none=>
   rw [hm] at hp;obtain ⟨rfl,hq⟩:=hp;have HQ:=Lib.hid hq;have HM:=Lib.hid hm;clear hq hm;go_wp2_with fail;go_ret;rw [HM.out]
   exact ⟨rfl,HQ.out⟩
  |some r=>
   obtain ⟨m',em⟩:=r;rw [hm] at hp;obtain ⟨rfl,hq⟩:=hp;have HQ:=Lib.hid hq;have HM:=Lib.hid hm;clear hq hm;go_wp2_with fail;go_ret;rw [HM.out]
   exact ⟨rfl,HQ.out⟩
end Dec
namespace Dec
open Go.RowKit Win Stp Mach
abbrev nilS:Value:=.slice none 0 0
def b40:B4:={at_:=0,err:=0,pl:=0,fin:=false}
def m0:M:={o:=firsts,uni:=false,act:=0,beg:=0,n:=0,first:=0,upper:=0}
theorem good0:Mach.Good m0:=⟨rfl,by unfold m0;decide +kernel,by decide,by decide,by decide,.inl rfl,by decide⟩
theorem newDecoder_calls (w:World):Calls Tryz.prog 76 #[] w fun e w'=>e= .returned (.pointer (some ⟨w.heap.size+1,0,none⟩))∧DecAt w' (w.heap.size+1) w.heap.size 0 nilS b40 [] m0∧Below w.heap.size w w'∧w'.heap.size=w.heap.size+2:=by
 have hn:Calls Tryz.prog 107 #[] w fun e w'=>e= .returned (.pointer (some ⟨w.heap.size,0,none⟩))∧w'=w.alloc (.cells (winCells firsts used0).toArray 229):=by
  go_enter Tryz.func107,Tryz.ntmps107;go_wp2;go_ret;exact ⟨rfl,rfl⟩
 go_enter Tryz.func76,Tryz.ntmps76;go_wp2_with (go_at_call 107;refine hn.mono ?_;rintro e w1 ⟨rfl,rfl⟩)
 go_ret;have e1:(w.alloc (.cells (winCells firsts used0).toArray 229)).heap.size=w.heap.size+1:=by simp
 refine ⟨rfl,⟨?_,⟨?_,rfl,rfl⟩,World.ownsRow_nil _ _ _ _,fun _=>rfl,Nat.zero_le _⟩,((Below.refl _ _).alloc (Nat.le_refl _) _).alloc (by simp) _,by simp⟩
 ·rw [←e1];exact heap_alloc_new _ _
 ·rw [Below.heap_alloc _ _ _ (by simp)];exact heap_alloc_new _ _
def steps (m:M):List Int→Option (M×List Int)
 |[]=>some (m,[])
 |x::xs=>match Mach.step m x with
  |none=>none
  |some (m1,e)=>match steps m1 xs with
   |none=>none
   |some (m2,e2)=>some (m2,e++e2)
theorem steps_snoc {m m1 m2:M} {e e2:List Int} {x:Int}:∀{xs:List Int},steps m xs=some (m1,e)→Mach.step m1 x=some (m2,e2)→steps m (xs++[x])=some (m2,e++e2):=by
 intro xs
 induction xs generalizing m e with
 |nil=>
  intro h h2;simp [steps] at h;obtain ⟨rfl,rfl⟩:=h;simp [steps,h2]
 |cons y ys ih=>
  intro h h2;simp only [steps,List.cons_append] at h ⊢
  cases hy:Mach.step m y with
  |none=>rw [hy] at h;cases h
  |some r=>
   obtain ⟨m3,e3⟩:=r;rw [hy] at h;simp only at h ⊢
   cases hs:steps m3 ys with
   |none=>rw [hs] at h;cases h
   |some r=>
    obtain ⟨m4,e4⟩:=r;rw [hs] at h;simp only [Option.some.injEq,Prod.mk.injEq] at h;obtain ⟨rfl,rfl⟩:=h;rw [ih hs h2]
    simp
theorem step_one {m m':M} {x:Int} {e:List Int} (h:Mach.step m x=some (m',e)):e.length≤1:=by
 unfold Mach.step at h
 split at h
 ·unfold more whole at h
  repeat' split at h
  all_goals first
   |(cases h;done)
   |(simp only [Option.some.injEq,Prod.mk.injEq] at h;rw [←h.2];simp)
 ·split at h
  ·unfold double at h
   repeat' split at h
   all_goals first
    |(cases h;done)
    |(simp only [Option.some.injEq,Prod.mk.injEq] at h;rw [←h.2];simp)
  ·unfold single at h
   repeat' split at h
   all_goals first
    |(cases h;done)
    |(simp only [Option.some.injEq,Prod.mk.injEq] at h;rw [←h.2];simp)
def byt (s:ByteArray):List Int:=s.data.toList.map fun x=>(x.toNat:Int)
theorem byt_length (s:ByteArray):(byt s).length=s.size:=by unfold byt;rw [List.length_map,Array.length_toList];rfl
theorem byt_at (s:ByteArray) (k:Nat) (h:k<s.size):(byt s).getD k 0=(s[k].toNat:Int):=by
 unfold byt;rw [List.getD_eq_getElem?_getD,List.getElem?_map,List.getElem?_eq_getElem (by rw [Array.length_toList];exact h)]
 rfl
theorem byt_take (s:ByteArray) (k:Nat) (h:k<s.size):(byt s).take (k+1)=(byt s).take k++[(s[k].toNat:Int)]:=by
 rw [List.take_succ_eq_append_getElem (by rw [byt_length];exact h)]
 have:=byt_at s k h;rw [List.getD_eq_getElem?_getD,List.getElem?_eq_getElem (by rw [byt_length];exact h)] at this;rw [←this];rfl
structure Fed (b:B4) (m:M) (l:List Int) (room:Int) (k:Nat) (out:List Int) (b':B4) (m':M):Prop where
 le:k≤l.length
 fits:(out.length:Int)≤room∨out=[]
 go:k≠0→b.going=true
 way:(∃m1,steps m (l.take k)=some (m1,out)∧b.going=true∧k<l.length∧(out.length:Int)<room∧Mach.step m1 (l.getD k 0)=none∧b'={b with at_:=b.at_+k,err:=3,pl:=b.at_+k})∨
  (steps m (l.take k)=some (m',out)∧Mach.Good m'∧b'={b with at_:=b.at_+k}∧(k=l.length∨room≤(out.length:Int)∨b.going=false))
theorem DecAt.told {w w1:World} {g gw rb:Nat} {v:Value} {b:B4} {l:List Int} {m:M} (h:DecAt w g gw rb v b l m) (hb:Below w.heap.size w w1) (v1:Value):DecAt ((w1.setCell ⟨g,4,none⟩ v1).setCell ⟨g,4,none⟩ nilS) g gw 0 nilS b [] m:=by
 have hgb:w1.heap[g]? =some (.cells (decCells b v gw m) 208 (0,0)):=(hb.block g h.lt).trans h.blk;refine ⟨?_,?_,World.ownsRow_nil _ _ _ _,fun _=>rfl,Nat.zero_le _⟩
 ·have h1:=heap_setCell_same w1 g 4 _ _ v1 hgb
  rw [heap_setCell_same _ g 4 _ _ nilS h1];rfl
 ·exact ((h.win.keep (hb.block gw h.win.lt)).keep (Below.heap_setCell w1 _ _ gw h.ne_gw)).keep (Below.heap_setCell _ _ _ gw h.ne_gw)
theorem DecAt.rebase {w:World} {g gw rb:Nat} {b:B4} {m:M} (h:DecAt w g gw rb nilS b [] m) (rb':Nat) (hr:rb'≤w.heap.size):DecAt w g gw rb' nilS b [] m:=⟨h.blk,h.win,World.ownsRow_nil _ _ _ _,fun _=>rfl,hr⟩
theorem own_weaken {w:World} {base base':Nat} {e:TypeId} {size n:Nat} {v:Value} {xs:List Value} (h:w.ownsRow base e size v n xs) (hb:base'≤base):w.ownsRow base' e size v n xs:=by
 refine ⟨h.1,?_⟩
 rcases h.2 with h2|⟨g',cap,cur,hv,hg,r⟩
 ·exact .inl h2
 ·exact .inr ⟨g',cap,cur,hv,Nat.le_trans hb hg,r⟩
theorem fs_new {w w0:World} {g gw:Nat} {v:Value} {n:Nat} {xs:List Value} {e:TypeId} {size:Nat} (h:w.ownsRow w0.heap.size e size v n xs) {i:Nat} (hi:i<w0.heap.size) (hh:FS g gw v i):FS g gw nilS i:=by
 rcases hh with hh|hh|hh
 ·exact .inl hh
 ·exact .inr (.inl hh)
 ·have:=(h.lt i hh).1;omega
def FedMid (w:World) (g gw:Nat) (b:B4) (m:M) (s:ByteArray) (room:Int) (i:Value) (wx:World):Prop:=
 ∃(k:Nat) (v:Value) (out:List Int) (b':B4) (m':M),i= .int .i64 k∧DecAt wx g gw w.heap.size v b' out m'∧Chg (FS g gw nilS) w wx∧out.length≤100000∧Fed b m (byt s) room k out b' m'
def FeedRel (w:World) (g gw:Nat) (b:B4) (m:M) (s:ByteArray) (room:Int) (i:Value) (wx:World):Prop:=
 ∃(k:Nat) (v:Value) (out:List Int) (m':M),k≤s.size∧i= .int .i64 k∧DecAt wx g gw w.heap.size v {b with at_:=b.at_+k} out m'∧Mach.Good m'∧Chg (FS g gw nilS) w wx∧steps m ((byt s).take k)=some (m',out)∧((out.length:Int)≤room∨out=[])∧out.length≤k∧(k≠0→b.going=true)
def FeedPost (w:World) (g gw:Nat) (b:B4) (m:M) (s:ByteArray) (room:Int) (e:Ending) (w':World):Prop:=
 ∃(k:Nat) (A:Option Addr) (c:Nat) (out:List Int) (b':B4) (m':M),e= .returned (.tuple #[.int .i64 k,.slice A out.length c])∧DecAt w' g gw 0 nilS b' [] m'∧Chg (FS g gw nilS) w w'∧w'.ownsRow w.heap.size 31 1 (.slice A out.length c) out.length (u32s out)∧Fed b m (byt s) room k out b' m'
set_option maxRecDepth 100000 in
set_option maxHeartbeats 4000000 in
theorem feed_calls {w:World} {g gw:Nat} {b:B4} {m:M} (s:ByteArray) (room:Int) (h:DecAt w g gw 0 nilS b [] m) (hG:Mach.Good m) (hs:s.size≤100000) (hb0:0≤b.at_) (hb1:b.at_≤1000000):
  Calls Tryz.prog 271 #[.pointer (some ⟨g,0,none⟩),.string s,.int .i64 room] w (FeedPost w g gw b m s room):=by
 have H:=Lib.hid h;have HGd:=Lib.hid hG;clear h hG;go_enter Tryz.func271,Tryz.ntmps271;go_upto_block 0 with fail;go_cut [8] (fun i wx=>FedMid w g gw b m s room i wx)
 case first=>
  go_wp2_with fail;go_loopw [8] (fun i wr=>FeedRel w g gw b m s room i wr) (fun i _=>s.size-(intOf i).toNat)
  case atStart=>
   exact ⟨0,nilS,[],m,Nat.zero_le _,rfl,(by have:=H.out.rebase w.heap.size (Nat.le_refl _);simpa using this),HGd.out,Chg.refl _,rfl,.inr rfl,Nat.zero_le _,fun h=>absurd rfl h⟩
  case round=>
   obtain ⟨k,v,out,m',hk,rfl,hd,hg,hc,hst,hroom,hol,hgo⟩:=hrel;have HD:=Lib.hid hd;have HG':=Lib.hid hg;have HC:=Lib.hid hc;have HST:=Lib.hid hst;have HRm:=Lib.hid hroom;have HGo:=Lib.hid hgo;obtain ⟨A,c0,hv⟩:∃A c,v= .slice A out.length c:=by
    rcases hd.row.2 with ⟨h1,h2⟩|⟨g',cap,cur,h1,_⟩
    ·exact ⟨none,0,by rw [h1,h2]⟩
    ·exact ⟨_,_,h1⟩
   have h4:=hd.c4;rw [hv] at h4;have HV:=Lib.hid hv;have hheld:=held_calls g 4 A out.length c0 wr h4;have HH:=Lib.hid hheld;have hgoing:=going_calls g _ wr hd.base;have hge:(({b with at_:=b.at_+k}:B4)).going=b.going:=rfl;rw [hge] at hgoing;clear hd hg hc hst hroom hgo hv h4 hheld hge
   by_cases hlt:k<s.size
   ·by_cases hrm:(out.length:Int)<room
    ·cases hbg:b.going with
     |true=>
      rw [hbg] at hgoing;have HGg:=Lib.hid hgoing;have HBG:=Lib.hid hbg;have hnext:=next_calls (s[k].toNat:Int) HD.out HG'.out (by omega) (by have:=s[k].toNat_lt;omega) (by omega)
      have HN:=Lib.hid hnext;clear hgoing hbg hnext;go_wp2_with fail;refine HH.out.mono ?_;rintro e w1 ⟨rfl,rfl⟩
      go_wp2_with fail;refine HGg.out.mono ?_;rintro e w1 ⟨rfl,rfl⟩
      go_wp2_with fail;refine HN.out.mono ?_;intro e w2 hp
      cases hm:Mach.step m' (s[k].toNat:Int) with
      |none=>
       rw [hm] at hp;obtain ⟨rfl,m2,hd2,hc2⟩:=hp;have HM:=Lib.hid hm;have hstop:=stop_calls g _ 3 w2 hd2.base (show (({b with at_:=b.at_+k}:B4)).going=true from HBG.out) (by decide)
       have HSt:=Lib.hid hstop;have HD2:=Lib.hid hd2;have HC2:=Lib.hid hc2;clear hm hstop hd2 hc2;go_wp2_with fail;refine HSt.out.mono ?_;rintro e w3 ⟨rfl,rfl⟩
       go_wp2_with fail;go_meet;refine ⟨k,v,out,{b with at_:=b.at_+k,err:=3,pl:=b.at_+k},m2,rfl,?_,?_,by omega,?_⟩
       ·exact (HD2.out.set 1 (.int .i64 3) (b':={b with at_:=b.at_+k,err:=3}) (m':=m2) rfl rfl).set 2 (.int .i64 (b.at_+k)) rfl rfl
       ·exact chg_then HC.out ((HC2.out.trans (chg_g 1 _)).trans (chg_g 2 _)) (fun i hi hh=>fs_new HD.out.row hi hh)
       ·refine ⟨by rw [byt_length];exact hk,HRm.out,fun h=>HBG.out,.inl ⟨m',HST.out,HBG.out,by rw [byt_length];exact hlt,hrm,?_,rfl⟩⟩
        rw [byt_at s k hlt]
        exact HM.out
      |some r=>
       obtain ⟨m2,em⟩:=r;rw [hm] at hp;obtain ⟨rfl,v2,hd2,hc2⟩:=hp;have HM:=Lib.hid hm;have heat:=eat_calls g _ 1 w2 hd2.base (show (({b with at_:=b.at_+k}:B4)).going=true from HBG.out) (by decide) (by decide) (show 0≤b.at_+k by omega) (show b.at_+k≤1000000000 by omega)
       have HEt:=Lib.hid heat;have HD2:=Lib.hid hd2;have HC2:=Lib.hid hc2;clear hm heat hd2 hc2;go_wp2_with fail;refine HEt.out.mono ?_;rintro e w3 ⟨rfl,rfl⟩
       go_wp2_with fail;go_roundw
       case rel=>
        have h1:=step_one HM.out;refine ⟨k+1,v2,out++em,m2,by omega,by go_num,?_,good_step HG'.out (by omega) (by have:=s[k].toNat_lt;omega) HM.out,?_,?_,?_,?_,fun _=>HBG.out⟩
        ·have:=HD2.out.set 0 (.int .i64 (b.at_+k+1)) (b':={b with at_:=b.at_+k+1}) (m':=m2) rfl rfl
         have e2:b.at_+((k+1:Nat):Int)=b.at_+k+1:=by omega
         rw [e2]
         exact this
        ·exact chg_then HC.out (HC2.out.trans (chg_g 0 _)) (fun i hi hh=>fs_new HD.out.row hi hh)
        ·rw [byt_take s k hlt]
         exact steps_snoc HST.out HM.out
        ·left
         rw [List.length_append]
         omega
        ·rw [List.length_append];omega
       case measure=>simp [intOf];omega
     |false=>
      rw [hbg] at hgoing;have HGg:=Lib.hid hgoing;have HBG:=Lib.hid hbg;clear hgoing hbg;go_wp2_with fail;refine HH.out.mono ?_;rintro e w1 ⟨rfl,rfl⟩
      go_wp2_with fail;refine HGg.out.mono ?_;rintro e w1 ⟨rfl,rfl⟩
      go_wp2_with fail;go_meet;exact ⟨k,v,out,_,m',rfl,HD.out,HC.out,by omega,by rw [byt_length];exact hk,HRm.out,HGo.out,.inr ⟨HST.out,HG'.out,rfl,.inr (.inr HBG.out)⟩⟩
    ·clear hgoing
     go_wp2_with fail;refine HH.out.mono ?_;rintro e w1 ⟨rfl,rfl⟩
     go_wp2_with fail;go_meet;exact ⟨k,v,out,_,m',rfl,HD.out,HC.out,by omega,by rw [byt_length];exact hk,HRm.out,HGo.out,.inr ⟨HST.out,HG'.out,rfl,.inr (.inl (by omega))⟩⟩
   ·obtain rfl:k=s.size:=by omega
    clear hgoing hlt;go_wp2_with fail;go_meet;exact ⟨s.size,v,out,_,m',rfl,HD.out,HC.out,by omega,by rw [byt_length];exact Nat.le_refl _,HRm.out,HGo.out,.inr ⟨HST.out,HG'.out,rfl,.inl (by rw [byt_length])⟩⟩
 case rest=>
  obtain ⟨k,v,out,b',m',rfl,hd,hc,hol,hf⟩:=hcut;have HD:=Lib.hid hd;have HC:=Lib.hid hc;have HF:=Lib.hid hf;have h4:=hd.c4;have f4:=hd.fz 4;have hnil:=hd.nil
  by_cases ho:out=[]
  ·have hvn:=hnil ho
   rw [hvn] at h4;have ht:=tell_none g 4 room wc h4 f4;have HT:=Lib.hid ht;have HO:=Lib.hid ho;clear hd hc hf h4 f4 hnil ho hvn ht;go_wp2_with fail;refine HT.out.mono ?_;rintro e w1 ⟨rfl,rfl⟩
   go_wp2_with fail;go_ret2;obtain rfl:=HO.out;exact ⟨k,none,0,[],b',m',rfl,HD.out.told (Below.refl _ _) nilS,chg_then HC.out ((chg_g (gw:=gw) (v:=nilS) 4 _).trans (chg_g 4 _)) (fun i _ hi=>hi),World.ownsRow_nil _ _ _ _,HF.out⟩
  ·have hpos:0<out.length:=by
    rcases Nat.eq_zero_or_pos out.length with h|h
    ·exact absurd (List.eq_nil_of_length_eq_zero h) ho
    ·exact h
   obtain ⟨r,c,hv,_,_⟩:=hd.row.form hpos;have hrow:=hd.row;have hrg:=hd.row_g;rw [hv] at h4 hrow hrg;have hne:r≠g:=fun e=>hrg (by rw [e];rfl)
   have hrm:(out.length:Int)≤room:=by
    rcases hf.fits with h|h
    ·exact h
    ·exact absurd h ho
   have ht:=tell_all g 4 r w.heap.size c out room wc h4 f4 hrow hne hpos (by omega) hrm;have HT:=Lib.hid ht;clear hd hc hf h4 f4 hnil ho hv ht hrow hrg hne;go_wp2_with fail;refine HT.out.mono ?_;rintro e w1 ⟨r1,c1,w2,v1,rfl,rfl,hown,hb⟩
   have HOW:=Lib.hid hown;have HB:=Lib.hid hb;clear hown hb;go_wp2_with fail;go_ret2;have hlt:=HOW.out.lt r1 rfl;have hgl:=HD.out.lt;refine ⟨k,some ⟨r1,0,none⟩,c1,out,b',m',rfl,HD.out.told HB.out v1,?_,?_,HF.out⟩
   ·exact chg_then HC.out (((Chg.of_below HB.out).trans (chg_g (gw:=gw) (v:=nilS) 4 _)).trans (chg_g 4 _)) (fun i _ hi=>hi)
   ·have h1:=own_weaken HOW.out HC.out.size
    refine h1.kept (w':=_) (row:=some g) ⟨rfl,rfl,rfl,by simp [World.setCell],fun q hq hn=>?_⟩ (.inr (by simp [Value.ownBlock];omega))
    exact (Below.heap_setCell _ _ _ q (fun e=>hn (by rw [e]))).trans (Below.heap_setCell _ _ _ q (fun e=>hn (by rw [e])))
end Dec
namespace Dec
open Go.RowKit Win Stp Mach
def cutB (b:B4) (m:M):B4:=if (m.beg≠0∨m.upper≠0)∧b.going=true then {b with err:=4,pl:=b.at_} else b
def finB (b:B4):B4:=if b.going=true then {b with fin:=true} else b
def endB (b:B4) (m:M):B4:=finB (cutB b m)
theorem bend_dec {w:World} {g gw rb:Nat} {v:Value} {b:B4} {l:List Int} {m:M} (h:DecAt w g gw rb v b l m):
  Calls Tryz.prog 139 #[.pointer (some ⟨g,0,none⟩)] w fun e w'=>e= .returned (.tuple #[])∧DecAt w' g gw rb v (finB b) l m∧Chg (FS g gw v) w w':=by
 refine (bend_calls g b w h.base).mono ?_;rintro e w' ⟨rfl,rfl⟩
 unfold finB
 cases hg:b.going with
 |true=>rw [if_pos rfl,if_pos rfl];exact ⟨rfl,h.set 3 (.bool true) rfl rfl,chg_g 3 _⟩
 |false=>rw [if_neg (by decide),if_neg (by decide)];exact ⟨rfl,h,Chg.refl _⟩
theorem end_calls {w:World} {g gw:Nat} {b:B4} {m:M} (h:DecAt w g gw 0 nilS b [] m):
  Calls Tryz.prog 270 #[.pointer (some ⟨g,0,none⟩)] w fun e w'=>e= .returned (.tuple #[])∧DecAt w' g gw 0 nilS (endB b m) [] m∧Chg (FS g gw nilS) w w':=by
 have h8:=h.c8;have h11:=h.c11;have H:=Lib.hid h;have hcs:(∃x:Bool,(m.beg !=0)=x∧(m.upper !=0)=true∧(m.beg≠0∨m.upper≠0))∨((m.beg !=0)=true∧(m.upper !=0)=false∧(m.beg≠0∨m.upper≠0))∨((m.beg !=0)=false∧(m.upper !=0)=false∧¬(m.beg≠0∨m.upper≠0)):=by
  by_cases h1:m.beg=0 <;>by_cases h2:m.upper=0
  ·exact .inr (.inr ⟨by simp [h1],by simp [h2],by simp [h1,h2]⟩)
  ·exact .inl ⟨false,by simp [h1],by simp [h2],.inr h2⟩
  ·exact .inr (.inl ⟨by simp [h1],by simp [h2],.inl h1⟩)
  ·exact .inl ⟨true,by simp [h1],by simp [h2],.inl h1⟩
 have hst:(m.beg≠0∨m.upper≠0)→Calls Tryz.prog 145 #[.pointer (some ⟨g,0,none⟩),.int .i64 4] w fun x w'=>x= .returned (.tuple #[])∧DecAt w' g gw 0 nilS (cutB b m) [] m∧Chg (FS g gw nilS) w w':=by
  intro hc
  cases hg:b.going with
  |true=>
   refine (stop_calls g b 4 w h.base hg (by decide)).mono ?_;rintro e w' ⟨rfl,rfl⟩
   unfold cutB;rw [if_pos ⟨hc,hg⟩]
   exact ⟨rfl,(h.set 1 (.int .i64 4) (b':={b with err:=4}) (m':=m) rfl rfl).set 2 (.int .i64 b.at_) rfl rfl,(chg_g 1 _).trans (chg_g 2 _)⟩
  |false=>
   refine (stop_not g b 4 w h.base hg).mono ?_;rintro e w' ⟨rfl,rfl⟩
   unfold cutB;rw [if_neg (by rw [hg];simp)]
   exact ⟨rfl,h,Chg.refl _⟩
 clear h;rcases hcs with ⟨x,e1,e2,hc⟩|⟨e1,e2,hc⟩|⟨e1,e2,hc⟩
 ·have HS:=Lib.hid (hst hc)
  clear hst hc
  cases x
  all_goals
   go_enter Tryz.func270,Tryz.ntmps270;go_wp2_with fail;refine HS.out.mono ?_;rintro e w1 ⟨rfl,hd,hcg⟩
   have HD:=Lib.hid hd;have HC:=Lib.hid hcg;clear hd hcg;go_wp2_with fail;refine (bend_dec HD.out).mono ?_;rintro e w2 ⟨rfl,hd,hcg⟩
   have HD2:=Lib.hid hd;have HC2:=Lib.hid hcg;clear hd hcg;go_wp2_with fail;go_end0;exact ⟨rfl,HD2.out,HC.out.trans HC2.out⟩
 ·have HS:=Lib.hid (hst hc)
  clear hst hc;go_enter Tryz.func270,Tryz.ntmps270;go_wp2_with fail;refine HS.out.mono ?_;rintro e w1 ⟨rfl,hd,hcg⟩
  have HD:=Lib.hid hd;have HC:=Lib.hid hcg;clear hd hcg;go_wp2_with fail;refine (bend_dec HD.out).mono ?_;rintro e w2 ⟨rfl,hd,hcg⟩
  have HD2:=Lib.hid hd;have HC2:=Lib.hid hcg;clear hd hcg;go_wp2_with fail;go_end0;exact ⟨rfl,HD2.out,HC.out.trans HC2.out⟩
 ·have he:endB b m=finB b:=by
   unfold endB cutB;rw [if_neg (fun h=>hc h.1)]
  rw [he]
  clear hst hc he;go_enter Tryz.func270,Tryz.ntmps270;go_wp2_with fail;refine (bend_dec H.out).mono ?_;rintro e w2 ⟨rfl,hd,hcg⟩
  have HD2:=Lib.hid hd;have HC2:=Lib.hid hcg;clear hd hcg;go_wp2_with fail;go_end0;exact ⟨rfl,HD2.out,HC2.out⟩
theorem done_calls {w:World} {g gw:Nat} {b:B4} {m:M} (h:DecAt w g gw 0 nilS b [] m):
  Calls Tryz.prog 228 #[.pointer (some ⟨g,0,none⟩)] w fun e w'=>e= .returned (.bool (!b.going))∧w=w':=by
 have hg:=going_calls g b w h.base;have hh:=held_calls g 4 none 0 0 w h.c4
 cases hb:b.going with
 |true=>
  rw [hb] at hg;clear h hb;go_enter Tryz.func228,Tryz.ntmps228;go_wp2_with (go_at_call 143;refine hg.mono ?_;rintro e w1 ⟨rfl,rfl⟩)
  go_ret;exact ⟨rfl,rfl⟩
 |false=>
  rw [hb] at hg;clear h hb;go_enter Tryz.func228,Tryz.ntmps228;go_wp2_with (first|(go_at_call 143;refine hg.mono ?_;rintro e w1 ⟨rfl,rfl⟩)|(go_at_call 231;refine hh.mono ?_;rintro e w1 ⟨rfl,rfl⟩))
  go_ret;exact ⟨rfl,rfl⟩
end Dec
namespace Dcd
open Go.RowKit Win Stp Mach Dec Go.Proofs.YtooiooledeblmaaGreatW.PrintMore
def DoneD (g:Nat) (w:World):Prop:=Calls Tryz.prog 228 #[.pointer (some ⟨g,0,none⟩)] w (fun e w'=>e= .returned (.bool true)∧w=w')∧∃b,BaseAt w g b∧b.err=0∧b.pl=0
def FedD (E:Nat) (own:Nat→Prop) (g:Nat) (w2:World):Prop:=∀w3,Below w2.heap.size w2 w3→Calls Tryz.prog E #[.pointer (some ⟨g,0,none⟩)] w3 (fun e w4=>e= .returned (.tuple #[])∧Chg own w3 w4∧DoneD g w4)
def RdyD (F E:Nat) (own:Nat→Prop) (g:Nat) (s:ByteArray) (out:List Int) (w1:World):Prop:=∀wy,Below w1.heap.size w1 wy→Calls Tryz.prog F #[.pointer (some ⟨g,0,none⟩),.string s,.int .i64 4096] wy
 (fun e w2=>∃A c,e= .returned (.tuple #[.int .i64 s.size,.slice A out.length c])∧Chg own wy w2∧w2.ownsRow wy.heap.size 31 1 (.slice A out.length c) out.length (u32s out)∧FedD E own g w2)
def NewDPost (PT:TypeId) (F E:Nat) (s:ByteArray) (out:List Int) (w:World) (e:Ending) (w':World):Prop:=
 ∃g own,(∀i,own i→w.heap.size≤i∧i<w'.heap.size)∧w.heap.size≤g∧e= .returned (.tuple #[.iface PT (.pointer (some ⟨g,0,none⟩)),.int .i64 0])∧Below w.heap.size w w'∧RdyD F E own g s out w'
def DecPost (w:World) (out:List Int) (e:Ending) (w':World):Prop:=
 ∃r c,e= .returned (.tuple #[.slice (some ⟨r,0,none⟩) out.length c,.agg #[.int .i64 0,.int .i64 0]])∧w'.ownsRow w.heap.size 31 1 (.slice (some ⟨r,0,none⟩) out.length c) out.length (u32s out)∧Below w.heap.size w w'
theorem own_chg {S:Nat→Prop} {w w':World} {base:Nat} {e:TypeId} {size n:Nat} {v:Value} {xs:List Value} (h:w.ownsRow base e size v n xs) (hc:Chg S w w') (hs:∀i,S i→i<base):w'.ownsRow base e size v n xs:=by
 refine ⟨h.1,?_⟩
 rcases h.2 with h2|⟨g',cap,cur,hv,hg,hb,r⟩
 ·exact .inl h2
 ·exact .inr ⟨g',cap,cur,hv,hg,(hc.block g' (Array.getElem?_eq_some_iff.1 hb).1 (fun hh=>by have:=hs _ hh;omega)).trans hb,r⟩
end Dcd
namespace Dcd
open Go.RowKit Win Stp Mach Dec Go.Proofs.YtooiooledeblmaaGreatW.PrintMore
def inCells (b:B4) (v:Value) (rs:List Value):Array Value:=(.int .i64 b.at_:: .int .i64 b.err:: .int .i64 b.pl:: .bool b.fin::v::rs).toArray
structure InAt (T:TypeId) (w:World) (g rb:Nat) (v:Value) (b:B4) (l:List Int) (rs:List Value):Prop where
 blk:w.heap[g]? =some (.cells (inCells b v rs) T (0,0))
 row:w.ownsRow rb 31 1 v l.length (u32s l)
 nil:l=[]→v= .slice none 0 0
 rbl:rb≤w.heap.size
 ne:31≠T
section
variable {T:TypeId} {w:World} {g rb:Nat} {v:Value} {b:B4} {l:List Int} {rs:List Value}
theorem InAt.base (h:InAt T w g rb v b l rs):BaseAt w g b:=⟨by rw [cell_of h.blk];rfl,by rw [cell_of h.blk];rfl,by rw [cell_of h.blk];rfl,by rw [cell_of h.blk];rfl,frozen_of h.blk⟩
theorem InAt.fz (h:InAt T w g rb v b l rs):∀j,w.frozen? ⟨g,j,none⟩=false:=frozen_of h.blk
theorem InAt.c4 (h:InAt T w g rb v b l rs):w.cell? ⟨g,4,none⟩=some v:=by rw [cell_of h.blk];rfl
theorem InAt.cell (h:InAt T w g rb v b l rs) (j:Nat):w.cell? ⟨g,5+j,none⟩=rs[j]? :=by
 rw [cell_of h.blk]
 simp only [inCells]
 rw [show 5+j=j+5 by omega]
 simp
theorem InAt.lt (h:InAt T w g rb v b l rs):g<w.heap.size:=(Array.getElem?_eq_some_iff.1 h.blk).1
theorem InAt.row_g (h:InAt T w g rb v b l rs):v.ownBlock≠some g:=own_ne_blk h.row h.blk h.ne
theorem InAt.set (h:InAt T w g rb v b l rs) (j:Nat) (u:Value) {b':B4} {rs':List Value} (he:(inCells b v rs).setIfInBounds j u=inCells b' v rs'):InAt T (w.setCell ⟨g,j,none⟩ u) g rb v b' l rs':=by
 refine ⟨?_,?_,h.nil,?_,h.ne⟩
 ·rw [heap_setCell_same w g j _ _ _ h.blk,he]
 ·refine h.row.kept (w':=w.setCell ⟨g,j,none⟩ u) (row:=some g) ⟨rfl,rfl,rfl,by simp [World.setCell],fun k hk hn=>Below.heap_setCell w _ _ k (fun e=>hn (by rw [e]))⟩ (.inr h.row_g)
 ·have:=h.rbl;simpa [World.setCell] using this
theorem InAt.keep {w':World} (h:InAt T w g rb v b l rs) (hs:w.heap.size≤w'.heap.size) (h0:w'.heap[g]? =w.heap[g]?) (h2:∀k,v.ownBlock=some k→w'.heap[k]? =w.heap[k]?):InAt T w' g rb v b l rs:=by
 refine ⟨h0.trans h.blk,?_,h.nil,Nat.le_trans h.rbl hs,h.ne⟩
 obtain ⟨a1,a2⟩:=h.row;refine ⟨a1,?_⟩
 rcases a2 with a2|⟨g',cap,cur,hv,hb,hh,r⟩
 ·exact .inl a2
 ·exact .inr ⟨g',cap,cur,hv,hb,(h2 g' (by rw [hv];rfl)).trans hh,r⟩
theorem InAt.alloc (h:InAt T w g rb v b l rs) (o:Obj):InAt T (w.alloc o) g rb v b l rs:=
 h.keep (by simp) (Below.heap_alloc w o g h.lt) (fun k hk=>Below.heap_alloc w o k (h.row.lt k hk).2)
theorem InAt.drewN (h:InAt T w g rb v b l rs) (n:Nat):InAt T (w.drewN n) g rb v b l rs:=h.keep (Nat.le_refl _) rfl (fun _ _=>rfl)
theorem InAt.rebase (h:InAt T w g rb nilS b [] rs) (rb':Nat) (hr:rb'≤w.heap.size):InAt T w g rb' nilS b [] rs:=⟨h.blk,World.ownsRow_nil _ _ _ _,fun _=>rfl,hr,h.ne⟩
theorem InAt.told {w1:World} (h:InAt T w g rb v b l rs) (hb:Below w.heap.size w w1) (v1:Value):InAt T ((w1.setCell ⟨g,4,none⟩ v1).setCell ⟨g,4,none⟩ nilS) g 0 nilS b [] rs:=by
 have hgb:w1.heap[g]? =some (.cells (inCells b v rs) T (0,0)):=(hb.block g h.lt).trans h.blk;refine ⟨?_,World.ownsRow_nil _ _ _ _,fun _=>rfl,Nat.zero_le _,h.ne⟩
 have h1:=heap_setCell_same w1 g 4 _ _ v1 hgb;rw [heap_setCell_same _ g 4 _ _ nilS h1];rfl
end
def IS (g:Nat) (v:Value):Nat→Prop:=fun i=>i=g∨v.ownBlock=some i
theorem is_g {g:Nat} {v:Value} {w:World} (j:Nat) (u:Value):Chg (IS g v) w (w.setCell ⟨g,j,none⟩ u):=Chg.set (S:=IS g v) w (.inl rfl) j u
theorem is_new {w w0:World} {g:Nat} {v:Value} {n:Nat} {xs:List Value} {e:TypeId} {size:Nat} (h:w.ownsRow w0.heap.size e size v n xs) {i:Nat} (hi:i<w0.heap.size) (hh:IS g v i):IS g nilS i:=by
 rcases hh with hh|hh
 ·exact .inl hh
 ·have:=(h.lt i hh).1;omega
theorem InAt.hold {T:TypeId} {w w1:World} {g rb:Nat} {v:Value} {b:B4} {l:List Int} {rs:List Value} (h:InAt T w g rb v b l rs) (x:Int) {r c:Nat} (hown:w1.ownsRow rb 31 1 (.slice (some ⟨r,0,none⟩) (l.length+1) c) (l++[x]).length (u32s (l++[x]))) (hg:w.grownBy w1 v.ownBlock) (hr:r≠g):
  InAt T (w1.setCell ⟨g,4,none⟩ (.slice (some ⟨r,0,none⟩) (l.length+1) c)) g rb (.slice (some ⟨r,0,none⟩) (l.length+1) c) b (l++[x]) rs∧Chg (IS g v) w (w1.setCell ⟨g,4,none⟩ (.slice (some ⟨r,0,none⟩) (l.length+1) c)):=by
 have hgb:w1.heap[g]? =some (.cells (inCells b v rs) T (0,0)):=(hg.block g h.lt (fun e=>h.row_g e.symm)).trans h.blk;refine ⟨⟨?_,?_,fun e=>by simp at e,?_,h.ne⟩,?_⟩
 ·rw [heap_setCell_same w1 g 4 _ _ _ hgb];rfl
 ·exact hown.kept (w':=w1.setCell ⟨g,4,none⟩ _) (row:=some g) ⟨rfl,rfl,rfl,by simp [World.setCell],fun k hk hn=>Below.heap_setCell w1 _ _ k (fun e=>hn (by rw [e]))⟩ (.inr (by simp [Value.ownBlock];exact hr))
 ·have:=Nat.le_trans h.rbl hg.size;simpa [World.setCell] using this
 ·exact chg_then (Chg.mono (chg_grown hg) (fun i hi=> .inr hi)) (Chg.set (S:=IS g v) w1 (.inl rfl) 4 _) (fun i _ hi=>hi)
def stepsR {R:Type} (N:R→Int→Option (R×List Int)) (r:R):List Int→Option (R×List Int)
 |[]=>some (r,[])
 |x::xs=>match N r x with
  |none=>none
  |some (r1,e)=>match stepsR N r1 xs with
   |none=>none
   |some (r2,e2)=>some (r2,e++e2)
theorem stepsR_cons {R:Type} {N:R→Int→Option (R×List Int)} {r rE:R} {x:Int} {xs oE:List Int} (h:stepsR N r (x::xs)=some (rE,oE)):∃r1 e e2,N r x=some (r1,e)∧stepsR N r1 xs=some (rE,e2)∧oE=e++e2:=by
 simp only [stepsR] at h
 cases hs:N r x with
 |none=>rw [hs] at h;cases h
 |some q=>
  obtain ⟨r1,e⟩:=q;rw [hs] at h;simp only at h
  cases ht:stepsR N r1 xs with
  |none=>rw [ht] at h;cases h
  |some q=>
   obtain ⟨r2,e2⟩:=q;rw [ht] at h;simp only [Option.some.injEq,Prod.mk.injEq] at h;obtain ⟨rfl,rfl⟩:=h;exact ⟨r1,e,e2,rfl,ht,rfl⟩
theorem bend_in {T:TypeId} {w:World} {g rb:Nat} {v:Value} {b:B4} {l:List Int} {rs:List Value} (h:InAt T w g rb v b l rs) (hg:b.going=true):
  Calls Tryz.prog 139 #[.pointer (some ⟨g,0,none⟩)] w fun e w'=>e= .returned (.tuple #[])∧InAt T w' g rb v {b with fin:=true} l rs∧Chg (IS g v) w w':=by
 refine (bend_calls g b w h.base).mono ?_;rintro e w' ⟨rfl,rfl⟩
 rw [if_pos hg]
 exact ⟨rfl,h.set 3 (.bool true) rfl,is_g 3 _⟩
theorem done_in {T:TypeId} {w:World} {g:Nat} {b:B4} {rs:List Value} (h:InAt T w g 0 nilS b [] rs) (hb:b.going=false):
  Calls Tryz.prog 228 #[.pointer (some ⟨g,0,none⟩)] w fun e w'=>e= .returned (.bool true)∧w=w':=by
 have hg:=going_calls g b w h.base;have hh:=held_calls g 4 none 0 0 w h.c4;rw [hb] at hg;clear h hb;go_enter Tryz.func228,Tryz.ntmps228;go_wp2_with (first|(go_at_call 143;refine hg.mono ?_;rintro e w1 ⟨rfl,rfl⟩)|(go_at_call 231;refine hh.mono ?_;rintro e w1 ⟨rfl,rfl⟩))
 go_ret;exact ⟨rfl,rfl⟩
def NextPost {R:Type} (T:TypeId) (rest:R→List Value) (g rb:Nat) (v:Value) (b:B4) (l:List Int) (w:World) (r2:R) (em:List Int) (e:Ending) (w2:World):Prop:=
 e= .returned (.bool true)∧∃v2,InAt T w2 g rb v2 b (l++em) (rest r2)∧Chg (IS g v) w w2
def InFed {R:Type} (T:TypeId) (rest:R→List Value) (g:Nat) (n:Nat) (rE:R) (oE:List Int) (w:World) (e:Ending) (w':World):Prop:=
 ∃A c,e= .returned (.tuple #[.int .i64 n,.slice A oE.length c])∧InAt T w' g 0 nilS {b40 with at_:=(n:Int)} [] (rest rE)∧Chg (IS g nilS) w w'∧w'.ownsRow w.heap.size 31 1 (.slice A oE.length c) oE.length (u32s oE)
def InRel {R:Type} (T:TypeId) (rest:R→List Value) (N:R→Int→Option (R×List Int)) (I:R→Prop) (g:Nat) (s:ByteArray) (rE:R) (oE:List Int) (w:World) (i:Value) (wx:World):Prop:=
 ∃(k:Nat) (v:Value) (r:R) (o o2:List Int),k≤s.size∧i= .int .i64 k∧InAt T wx g w.heap.size v {b40 with at_:=(k:Int)} o (rest r)∧I r∧Chg (IS g nilS) w wx∧stepsR N r ((byt s).drop k)=some (rE,o2)∧oE=o++o2∧o.length≤k
def InMid {R:Type} (T:TypeId) (rest:R→List Value) (g:Nat) (n:Nat) (rE:R) (oE:List Int) (w:World) (i:Value) (wx:World):Prop:=
 ∃v,i= .int .i64 n∧InAt T wx g w.heap.size v {b40 with at_:=(n:Int)} oE (rest rE)∧Chg (IS g nilS) w wx
end Dcd
namespace Dcd
open Go.RowKit Win Stp Mach Dec Go.Proofs.YtooiooledeblmaaGreatW.PrintMore
set_option maxRecDepth 100000 in
set_option maxHeartbeats 8000000 in
theorem dfeed_uni8 {T:TypeId} {R:Type} {rest:R→List Value} {N:R→Int→Option (R×List Int)} {I:R→Prop} {r0 rE:R} {oE:List Int} {w:World} {g:Nat} (s:ByteArray) (room:Int) (h:InAt T w g 0 nilS b40 [] (rest r0)) (hI:I r0)
  (hnx:∀(r r2:R) (x:Int) (em:List Int) (w:World) (rb:Nat) (v:Value) (b:B4) (l:List Int),I r→InAt T w g rb v b l (rest r)→0≤x→x≤255→l.length≤100000→N r x=some (r2,em)→
   Calls Tryz.prog 232 #[.pointer (some ⟨g,0,none⟩),.int .u8 x] w (NextPost T rest g rb v b l w r2 em))
  (hIN:∀(r r2:R) (x:Int) (em:List Int),I r→0≤x→x≤255→N r x=some (r2,em)→I r2∧em.length≤1)
  (hst:stepsR N r0 (byt s)=some (rE,oE)) (hs:s.size≤4000) (hr:room=4096):
  Calls Tryz.prog 230 #[.pointer (some ⟨g,0,none⟩),.string s,.int .i64 room] w (InFed T rest g s.size rE oE w):=by
 have hrm:4096≤room:=by omega
 clear hr;have H:=Lib.hid h;have HI:=Lib.hid hI;have HNx:=Lib.hid hnx;have HIN:=Lib.hid hIN;have HST:=Lib.hid hst;clear h hI hnx hIN hst;go_enter Tryz.func230,Tryz.ntmps230;go_upto_block 0 with fail;go_cut [8] (fun i wx=>InMid T rest g s.size rE oE w i wx∧oE.length≤4000)
 case first=>
  go_wp2_with fail;go_loopw [8] (fun i wr=>InRel T rest N I g s rE oE w i wr) (fun i _=>s.size-(intOf i).toNat)
  case atStart=>
   exact ⟨0,nilS,r0,[],oE,Nat.zero_le _,rfl,H.out.rebase w.heap.size (Nat.le_refl _),HI.out,Chg.refl _,HST.out,rfl,Nat.zero_le _⟩
  case round=>
   obtain ⟨k,v,r,o,o2,hk,rfl,hd,hi,hc,hst,hoe,hol⟩:=hrel;have HD:=Lib.hid hd;have HI':=Lib.hid hi;have HC:=Lib.hid hc;have HST':=Lib.hid hst;have HOe:=Lib.hid hoe;obtain ⟨A,c0,hv⟩:∃A c,v= .slice A o.length c:=by
    rcases hd.row.2 with ⟨h1,h2⟩|⟨g',cap,cur,h1,_⟩
    ·exact ⟨none,0,by rw [h1,h2]⟩
    ·exact ⟨_,_,h1⟩
   have h4:=hd.c4;rw [hv] at h4;have HV:=Lib.hid hv;have hheld:=held_calls g 4 A o.length c0 wr h4;have HH:=Lib.hid hheld;have hgoing:=going_calls g _ wr hd.base;have hge:({b40 with at_:=(k:Int)}:B4).going=true:=rfl;rw [hge] at hgoing;have HGg:=Lib.hid hgoing;clear hd hi hc hst hoe hv h4 hheld hge hgoing
   by_cases hlt:k<s.size
   ·have hdc:(byt s).drop k=(s[k].toNat:Int)::(byt s).drop (k+1):=by
     rw [List.drop_eq_getElem_cons (by rw [byt_length];exact hlt)]
     have:=byt_at s k hlt;rw [List.getD_eq_getElem?_getD,List.getElem?_eq_getElem (by rw [byt_length];exact hlt)] at this;rw [←this];rfl
    have hst2:=HST'.out;rw [hdc] at hst2;obtain ⟨r2,em,e2,q1,q2,q3⟩:=stepsR_cons hst2;obtain ⟨hi2,hem⟩:=HIN.out r r2 _ em HI'.out (by omega) (by have:=s[k].toNat_lt;omega) q1;have HN:=Lib.hid (HNx.out r r2 (s[k].toNat:Int) em wr w.heap.size v _ o HI'.out HD.out (by omega) (by have:=s[k].toNat_lt;omega) (by omega) q1)
    have HQ:=Lib.hid (And.intro q2 q3)
    have HI2:=Lib.hid hi2;clear hdc hst2 q1 q2 q3 hi2;have hrm2:(o.length:Int)<room:=by omega
    go_wp2_with fail;refine HH.out.mono ?_;rintro e w1 ⟨rfl,rfl⟩
    go_wp2_with fail;refine HGg.out.mono ?_;rintro e w1 ⟨rfl,rfl⟩
    go_wp2_with fail;refine HN.out.mono ?_;rintro e w2 ⟨rfl,v2,hd2,hc2⟩
    have heat:=eat_calls g _ 1 w2 hd2.base rfl (by decide) (by decide) (show (0:Int)≤(k:Int) by omega) (show (k:Int)≤1000000000 by omega)
    have HEt:=Lib.hid heat;have HD2:=Lib.hid hd2;have HC2:=Lib.hid hc2;clear heat hd2 hc2;go_wp2_with fail;refine HEt.out.mono ?_;rintro e w3 ⟨rfl,rfl⟩
    go_wp2_with fail;go_roundw
    case rel=>
     refine ⟨k+1,v2,r2,o++em,e2,by omega,by go_num,?_,HI2.out,?_,HQ.out.1,?_,?_⟩
     ·have:=HD2.out.set 0 (.int .i64 ((k:Int)+1)) (b':={b40 with at_:=((k+1:Nat):Int)}) (rs':=rest r2) (by simp [inCells])
      exact this
     ·exact chg_then HC.out (HC2.out.trans (is_g 0 _)) (fun i hi hh=>is_new HD.out.row hi hh)
     ·rw [HOe.out,HQ.out.2,List.append_assoc]
     ·rw [List.length_append];omega
    case measure=>simp [intOf];omega
   ·obtain rfl:k=s.size:=by omega
    clear hlt;have hdn:(byt s).drop s.size=[]:=by rw [←byt_length,List.drop_length]
    have hst2:=HST'.out;rw [hdn] at hst2;simp only [stepsR,Option.some.injEq,Prod.mk.injEq] at hst2;obtain ⟨rfl,rfl⟩:=hst2;have ho:=HOe.out;rw [List.append_nil] at ho;subst ho;clear hdn;go_wp2_with fail;go_meet;exact ⟨⟨v,rfl,HD.out,HC.out⟩,by omega⟩
 case rest=>
  obtain ⟨⟨v,rfl,hd,hc⟩,hol⟩:=hcut;have HD:=Lib.hid hd;have HC:=Lib.hid hc;have h4:=hd.c4;have f4:=hd.fz 4;have hnil:=hd.nil
  by_cases ho:oE=[]
  ·have hvn:=hnil ho
   rw [hvn] at h4;have ht:=tell_none g 4 room wc h4 f4;have HT:=Lib.hid ht;have HO:=Lib.hid ho;clear hd hc h4 f4 hnil ho hvn ht;go_wp2_with fail;refine HT.out.mono ?_;rintro e w1 ⟨rfl,rfl⟩
   go_wp2_with fail;go_ret2;obtain rfl:=HO.out;exact ⟨none,0,rfl,HD.out.told (Below.refl _ _) nilS,chg_then HC.out ((is_g (v:=nilS) 4 _).trans (is_g 4 _)) (fun i _ hi=>hi),World.ownsRow_nil _ _ _ _⟩
  ·have hpos:0<oE.length:=by
    rcases Nat.eq_zero_or_pos oE.length with h|h
    ·exact absurd (List.eq_nil_of_length_eq_zero h) ho
    ·exact h
   obtain ⟨r,c,hv,_,_⟩:=hd.row.form hpos;have hrow:=hd.row;have hrg:=hd.row_g;rw [hv] at h4 hrow hrg;have hne:r≠g:=fun e=>hrg (by rw [e];rfl)
   have ht:=tell_all g 4 r w.heap.size c oE room wc h4 f4 hrow hne hpos (by omega) (by omega)
   have HT:=Lib.hid ht;clear hd hc h4 f4 hnil ho hv ht hrow hrg hne;go_wp2_with fail;refine HT.out.mono ?_;rintro e w1 ⟨r1,c1,w2,v1,rfl,rfl,hown,hb⟩
   have HOW:=Lib.hid hown;have HB:=Lib.hid hb;clear hown hb;go_wp2_with fail;go_ret2;have hlt:=HOW.out.lt r1 rfl;have hgl:=HD.out.lt;refine ⟨some ⟨r1,0,none⟩,c1,rfl,HD.out.told HB.out v1,?_,?_⟩
   ·exact chg_then HC.out (((Chg.of_below HB.out).trans (is_g (v:=nilS) 4 _)).trans (is_g 4 _)) (fun i _ hi=>hi)
   ·have h1:=own_weaken HOW.out HC.out.size
    refine h1.kept (w':=_) (row:=some g) ⟨rfl,rfl,rfl,by simp [World.setCell],fun q hq hn=>?_⟩ (.inr (by simp [Value.ownBlock];omega))
    exact (Below.heap_setCell _ _ _ q (fun e=>hn (by rw [e]))).trans (Below.heap_setCell _ _ _ q (fun e=>hn (by rw [e])))
end Dcd
namespace Dcd
open Go.RowKit Win Stp Mach Dec Go.Proofs.YtooiooledeblmaaGreatW.PrintMore
theorem mkd_uni8 (v:Value) (w:World):(Instr.makeInterface 126 v).run Tryz.prog w= .ok (.iface 126 v) w:=run_makeInterface w 126 v (by kernel_rfl)
theorem feedd_uni8 (g:Nat) (w:World):(method 407 126 (.pointer (some ⟨g,0,none⟩)) "Feed").run Tryz.prog w= .ok (230,.pointer (some ⟨g,0,none⟩)) w:=by kernel_rfl
theorem endd_uni8 (g:Nat) (w:World):(method 407 126 (.pointer (some ⟨g,0,none⟩)) "End").run Tryz.prog w= .ok (229,.pointer (some ⟨g,0,none⟩)) w:=by kernel_rfl
theorem doned_uni8 (g:Nat) (w:World):(method 407 126 (.pointer (some ⟨g,0,none⟩)) "Done").run Tryz.prog w= .ok (228,.pointer (some ⟨g,0,none⟩)) w:=by kernel_rfl
theorem faild_uni8 (g:Nat) (w:World):(method 407 126 (.pointer (some ⟨g,0,none⟩)) "Fail").run Tryz.prog w= .ok (140,.pointer (some ⟨g,0,none⟩)) w:=by kernel_rfl
attribute [local go_sem] mkd_uni8 feedd_uni8 endd_uni8 doned_uni8 faild_uni8
set_option maxRecDepth 100000 in
set_option maxHeartbeats 8000000 in
theorem decode_uni8 {c:Int} {s:ByteArray} {out:List Int} {w:World} (hnew:∀wx,Calls Tryz.prog 37 #[.int .i64 c] wx (NewDPost 126 230 229 s out wx)) (h0:0<out.length) (hl:out.length≤100000) (hs:s.size≤100000):
  Calls Tryz.prog 18 #[.int .i64 c,.string s] w (DecPost w out):=by
 have HNew:=Lib.hid hnew;clear hnew;obtain ⟨i0,hi,hz0,hz1,hz2⟩:=info_parts info_u32;have HN:Hid (i0.zero=some (.int .u32 0)∧i0.size=1∧i0.bytes=4∧Tryz.prog.info? 31=some i0):=⟨hz0,hz1,hz2,hi⟩
 clear hz0 hz1 hz2 hi;go_enter Tryz.func18,Tryz.ntmps18;go_wp2_with fail;refine (HNew.out _).mono ?_;rintro e w1 ⟨g,own,hown,hg,rfl,hb,hrd⟩
 obtain ⟨w0,hw0⟩:∃w0,w0=w.alloc (.cells #[.int .i64 0,.int .i64 0] 39):=⟨_,rfl⟩
 rw [←hw0] at hown hg hb;have hz0:w0.heap.size=w.heap.size+1:=by rw [hw0];simp
 have hr0:w0.heap[w.heap.size]? =some (.cells #[.int .i64 0,.int .i64 0] 39 (0,0)):=by rw [hw0];exact heap_alloc_new _ _
 have hb0:Below w.heap.size w w0:=by rw [hw0];exact (Below.refl _ _).alloc (Nat.le_refl _) _
 have HR1:=Lib.hid ((hb.block w.heap.size (by omega)).trans hr0)
 have HB1:=Lib.hid (hb0.trans (Below.mono hb (by omega)))
 have HOw:=Lib.hid (show ∀i,own i→w.heap.size<i∧i<w1.heap.size from fun i hi=>by have:=hown i hi;omega)
 have HRd:=Lib.hid hrd;have HG:=Lib.hid (show w.heap.size<g by omega)
 clear hrd hb hw0 hz0 hr0 hb0 hown hg;go_wp2_with fail;go_loopw [1,8] (fun v o wr=>v= .string s∧o= .slice none 0 0∧w1=wr) (fun _ _ _=>0)
 case atStart=>exact ⟨rfl,rfl,rfl⟩
 case round=>
  obtain ⟨rfl,rfl,rfl⟩:=hrel;have HFd:=Lib.hid (HRd.out w1 (Below.refl _ _))
  go_wp2_with fail;refine HFd.out.mono ?_;rintro e w2 ⟨A,c2,rfl,hc2,ho2,hfd⟩
  obtain ⟨r,rfl⟩:∃r,A=some ⟨r,0,none⟩:=by
   rcases ho2.2 with ⟨h1,h2⟩|⟨g',cap,cur,h1,_⟩
   ·omega
   ·injection h1 with h1
    exact ⟨_,h1⟩
  have hle:out.length≤c2:=by
   rcases ho2.2 with ⟨h1,_⟩|⟨g',cap,cur,h1,_,_,h4,_⟩
   ·cases h1
   ·injection h1 with _ _ h1;omega
  have hm:c2≤9223372036854775807:=by
   rcases ho2.2 with ⟨h1,_⟩|⟨g',cap,cur,h1,_,_,h4,h5,_⟩
   ·cases h1
   ·injection h1 with _ _ h1;unfold maxLen at h5;omega
  have HR2:=Lib.hid ((hc2.block w.heap.size (Array.getElem?_eq_some_iff.1 HR1.out).1 (fun h=>by have:=HOw.out _ h;omega)).trans HR1.out)
  have HB2:=Lib.hid (Chg.below HB1.out hc2 (fun i hi=>by have:=HOw.out i hi;omega))
  have HC2:=Lib.hid hc2.size;have HCE:=Lib.hid (ho2.cells (g:=r) rfl)
  have HFe:=Lib.hid hfd;clear hc2 ho2 hfd;go_wp2_with (at_builtin;(refine wpList_append_lies _ rfl (.tmp 28) (.tmp 29) 24 rfl w2.heap.size 31 i0 (.int .u32 0) 1 4 Tryz.underlying24 HN.out.2.2.2 HN.out.1 HN.out.2.1 HN.out.2.2.1 rfl (by decide) (.slice none 0 0) 0 [] rfl (World.ownsRow_nil _ _ _ _) ⟨r,0,none⟩ _ _ (u32s out) rfl ?c1 ?c2 ?c3 ?c4 ?c5 ?c6 (Nat.le_refl _) _ rfl ?_;(case c1=>rw [u32s_length];omega);(case c2=>exact HCE.out);(case c3=>intro u hu;unfold u32s at hu;rw [List.mem_map] at hu;obtain ⟨y,_,rfl⟩:=hu;rfl);(case c4=>omega);(case c5=>unfold maxLen;omega);(case c6=>omega);intro r1 c1 w3 hown3 hgrow3 hat3 hlt3;have HO3:=Lib.hid hown3;have HB23:=Lib.hid ((Below.refl _ w2).grown hgrow3 (Nat.le_refl _) (fun k hk=>by simp [Value.ownBlock] at hk));have HE:=Lib.hid (HFe.out w3 HB23.out);clear hown3 hgrow3 hat3 hlt3))
  refine HE.out.mono ?_;rintro e w4 ⟨rfl,hc4,hdn,b,hbs,hb1,hb2⟩
  have HR4:=Lib.hid ((hc4.block w.heap.size (by have:=HC2.out;have:=HB23.out.size;have:=(Array.getElem?_eq_some_iff.1 HR2.out).1;omega) (fun h=>by have:=HOw.out _ h;omega)).trans ((HB23.out.block _ (Array.getElem?_eq_some_iff.1 HR2.out).1).trans HR2.out))
  have HB4:=Lib.hid (Chg.below (HB2.out.trans (Below.mono HB23.out HB2.out.size)) hc4 (fun i hi=>by have:=HOw.out i hi;omega))
  have HO4:=Lib.hid (own_chg HO3.out hc4 (fun i hi=>by have:=HOw.out i hi;have:=HC2.out;omega))
  have HLt:=Lib.hid (show w.heap.size<w2.heap.size from (Array.getElem?_eq_some_iff.1 HR2.out).1)
  have HDn:=Lib.hid hdn;have HFl:=Lib.hid (fail_calls g b w4 hbs)
  have HBb:=Lib.hid (And.intro hb1 hb2)
  clear hc4 hdn hbs hb1 hb2;go_wp2_with fail;go_loopw [8] (fun o wr=>o= .slice (some ⟨r1,0,none⟩) out.length c1∧w4=wr) (fun _ _=>0)
  case atStart=>exact ⟨rfl,rfl⟩
  case round=>
   obtain ⟨rfl,rfl⟩:=hrel;go_wp2_with fail;refine HDn.out.mono ?_;rintro e w6 ⟨rfl,rfl⟩
   go_wp2_with fail;refine HFl.out.mono ?_;rintro e w7 ⟨rfl,rfl⟩
   obtain ⟨w7,hw7⟩:∃w7,w7=w4.alloc (.cells #[.int .i64 b.err,.int .i64 b.pl] 39):=⟨_,rfl⟩
   have hw7':w4.alloc (.cells #[.int .i64 b.err,.int .i64 b.pl] 39)=w7:=hw7.symm;have hr7:w7.heap[w.heap.size]? =some (.cells #[.int .i64 0,.int .i64 0] 39 (0,0)):=by rw [hw7,Below.heap_alloc _ _ _ (Array.getElem?_eq_some_iff.1 HR4.out).1];exact HR4.out
   have hb7:Below w.heap.size w w7:=by rw [hw7];exact HB4.out.alloc HB4.out.size _
   have ho7:=HO4.out.alloc (.cells #[.int .i64 b.err,.int .i64 b.pl] 39)
   rw [←hw7] at ho7;rw [hw7']
   have c0:w7.cell? ⟨w.heap.size,0,none⟩=some (.int .i64 0):=by rw [cell_of hr7];rfl
   have c1':w7.cell? ⟨w.heap.size,1,none⟩=some (.int .i64 0):=by rw [cell_of hr7];rfl
   have f0:=frozen_of hr7 0;have f1:=frozen_of hr7 1;have HB7:=Lib.hid hb7;have HO7:=Lib.hid ho7;clear hw7 hw7' hr7 hb7 ho7;go_wp2_with fail;have e0:((w7.setCell ⟨w.heap.size,0,none⟩ (.int .i64 b.err)).setCell ⟨w.heap.size,1,none⟩ (.int .i64 b.pl)).cell? ⟨w.heap.size,0,none⟩=some (.int .i64 0):=by
    rw [World.cell?_setCell_other _ _ _ _ (by simp),World.cell?_setCell_same _ _ _ c0,HBb.out.1]
   have e1:((w7.setCell ⟨w.heap.size,0,none⟩ (.int .i64 b.err)).setCell ⟨w.heap.size,1,none⟩ (.int .i64 b.pl)).cell? ⟨w.heap.size,1,none⟩=some (.int .i64 0):=by
    rw [World.cell?_setCell_same (u:=.int .i64 0) _ _ _ (by rw [World.cell?_setCell_other _ _ _ _ (by simp)];exact c1'),HBb.out.2]
   refine bodyPost_ret (v:=.tuple #[.slice (some ⟨r1,0,none⟩) out.length c1,.agg #[.int .i64 0,.int .i64 0]]) (by simp [results,Tryz.results18,go_sem,e0,e1]) rfl ⟨r1,c1,rfl,?_,(HB7.out.setCell (p:=⟨w.heap.size,0,none⟩) (Nat.le_refl _) _).setCell (p:=⟨w.heap.size,1,none⟩) (Nat.le_refl _) _⟩
   have ho:=ownsRow_setCell_below (ownsRow_setCell_below HO7.out (a:=⟨w.heap.size,0,none⟩) HLt.out (.int .i64 b.err)) (a:=⟨w.heap.size,1,none⟩) HLt.out (.int .i64 b.pl)
   simp only [Nat.zero_add,List.nil_append] at ho;exact own_weaken ho (Nat.le_of_lt HLt.out)
end Dcd
namespace Dcd
open Go.RowKit Win Stp Mach Dec Go.Proofs.YtooiooledeblmaaGreatW.PrintMore
def asR:Unit→List Value:=fun _=>[.int .i64 0,.int .u8 0,.int .u8 0,.int .u32 0]
def asN:Unit→Int→Option (Unit×List Int):=fun _ x=>if x<128 then some ((),[x]) else none
set_option maxHeartbeats 2000000 in
theorem next_ascii {w:World} {g rb:Nat} {v:Value} {b:B4} {l:List Int} (x:Int) (h:InAt 194 w g rb v b l (asR ())) (h0:0≤x) (h1:x<128) (hl:l.length≤100000):
  Calls Tryz.prog 232 #[.pointer (some ⟨g,0,none⟩),.int .u8 x] w (NextPost 194 asR g rb v b l w () [x]):=by
 have h5:w.cell? ⟨g,5,none⟩=some (.int .i64 0):=h.cell 0;have w1:IntKind.u32.wrap x=x:=by rw [IntKind.wrap_u32];omega
 have ha:=h.alloc (.cells #[.int .u32 x] 31)
 have hh:=hold_calls g 4 rb v l x w.heap.size (w.alloc (.cells #[.int .u32 x] 31)) ha.c4 (ha.fz 4) ha.row ha.rbl ha.row_g (by rw [cell_of (heap_alloc_new _ _)];rfl) (by omega)
 have HA:=Lib.hid ha;have HH:=Lib.hid hh;clear h ha hh;go_enter Tryz.func232,Tryz.ntmps232;go_wp2_with fail;refine HH.out.mono ?_;rintro e w' ⟨rfl,r,c,w2,rfl,hown,hg,hat,hr⟩
 obtain ⟨hd,hc⟩:=HA.out.hold x hown hg hr;have HD:=Lib.hid hd;have HC:=Lib.hid hc;clear hd hc hown hg hat hr;go_wp2_with fail;go_ret;exact ⟨rfl,_,HD.out,(Chg.alloc _ _).trans HC.out⟩
theorem mkd_u (v:Value) (w:World):(Instr.makeInterface 126 v).run Tryz.prog w= .ok (.iface 126 v) w:=run_makeInterface w 126 v (by kernel_rfl)
theorem dnew_u8 (w:World):Calls Tryz.prog 70 #[] w fun e w'=>e= .returned (.pointer (some ⟨w.heap.size,0,none⟩))∧InAt 194 w' w.heap.size 0 nilS b40 [] (asR ())∧Below w.heap.size w w':=by
 go_enter Tryz.func70,Tryz.ntmps70;go_wp2;go_ret;exact ⟨rfl,⟨heap_alloc_new _ _,World.ownsRow_nil _ _ _ _,fun _=>rfl,Nat.zero_le _,by decide⟩,(Below.refl _ _).alloc (Nat.le_refl _) _⟩
theorem dend_ascii {w:World} {g:Nat} {b:B4} (h:InAt 194 w g 0 nilS b [] (asR ())) (hb:b.going=true):
  Calls Tryz.prog 229 #[.pointer (some ⟨g,0,none⟩)] w fun e w'=>e= .returned (.tuple #[])∧InAt 194 w' g 0 nilS {b with fin:=true} [] (asR ())∧Chg (IS g nilS) w w':=by
 have h5:w.cell? ⟨g,5,none⟩=some (.int .i64 0):=h.cell 0;have HE:=Lib.hid (bend_in h hb)
 clear h hb;go_enter Tryz.func229,Tryz.ntmps229;go_wp2_with fail;refine HE.out.mono ?_;rintro e w1 ⟨rfl,hd,hc⟩
 have HD:=Lib.hid hd;have HC:=Lib.hid hc;clear hd hc;go_wp2_with fail;go_end0;exact ⟨rfl,HD.out,HC.out⟩
section
attribute [local go_sem] mkd_u
theorem dnew_1 {s:ByteArray} {out:List Int} (hs:s.size≤4000) (hst:stepsR asN () (byt s)=some ((),out)) (w:World):
  Calls Tryz.prog 37 #[.int .i64 1] w (NewDPost 126 230 229 s out w):=by
 go_enter Tryz.func37,Tryz.ntmps37;go_wp2_with fail;refine (dnew_u8 _).mono ?_;rintro e w1 ⟨rfl,hd,hb⟩
 go_wp2_with fail;go_ret2;refine ⟨w.heap.size,IS w.heap.size nilS,?_,Nat.le_refl _,rfl,hb,?_⟩
 ·intro i hi
  have:=hd.lt;rcases hi with hi|hi
  ·omega
  ·simp [Value.ownBlock] at hi
 ·intro wy hy
  have hdy:=hd.keep hy.size (hy.block _ hd.lt) (fun k hk=>by simp [Value.ownBlock] at hk)
  refine (dfeed_uni8 (rest:=asR) (N:=asN) (I:=fun _=>True) s 4096 hdy trivial ?_ ?_ hst hs rfl).mono ?_
  ·intro r r2 x em w rb v b l _ hh x0 x1 hl hn
   unfold asN at hn
   split at hn
   ·simp only [Option.some.injEq,Prod.mk.injEq] at hn
    obtain ⟨_,rfl⟩:=hn;exact next_ascii x hh x0 (by assumption) hl
   ·cases hn
  ·intro r r2 x em _ x0 x1 hn
   unfold asN at hn
   split at hn
   ·simp only [Option.some.injEq,Prod.mk.injEq] at hn
    obtain ⟨_,rfl⟩:=hn;exact ⟨trivial,by simp⟩
   ·cases hn
  rintro e w2 ⟨A,c,rfl,hd2,hc2,ho2⟩
  refine ⟨A,c,rfl,hc2,ho2,?_⟩
  intro w3 h3;have hd3:=hd2.keep h3.size (h3.block _ hd2.lt) (fun k hk=>by simp [Value.ownBlock] at hk)
  refine (dend_ascii hd3 rfl).mono ?_;rintro e w4 ⟨rfl,hd4,hc4⟩
  exact ⟨rfl,hc4,done_in hd4 rfl,_,hd4.base,rfl,rfl⟩
end
theorem decode_A (w:World):Calls Tryz.prog 18 #[.int .i64 1,.string (strOfNums [65])] w (DecPost w [65]):=
 decode_uni8 (dnew_1 (by decide) (by decide +kernel)) (by decide) (by decide) (by decide)
end Dcd
end Go.Proofs.YtooiooledeblmaaGreat
