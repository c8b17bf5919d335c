/- How an encoder is fed that tells each scalar's bytes at once. BOCU-1's encoder: a scalar's bytes; made; fed. codec.Encode by BOCU-1. What Encode needs of an encoder. A row of numbers appended; slices.Clone. -/
import Derived.Test.YtooiooledeblmaaGreatZ4
import Derived.Laws.OwnMore
import Derived.Sort.AssemblyPlain
import Derived.Sort.Row
import Derived.CellFam
import Derived.BigQuiet
set_option linter.unusedVariables false
set_option linter.unusedSimpArgs false
namespace Go.Proofs.YtooiooledeblmaaGreat
namespace Out
open Go.RowKit Win Stp Lst
def b40:B4:={at_:=0,err:=0,pl:=0,fin:=false}
section
variable {R:Type} (B:R→Int→List Int) (N:R→Int→R)
def told:R→List Int→List Int
 |_,[]=>[]
 |r,c::cs=>B r c++told (N r c) cs
def foldN:R→List Int→R
 |r,[]=>r
 |r,c::cs=>foldN (N r c) cs
theorem told_snoc (c:Int):∀(cs:List Int) (r:R),told B N r (cs++[c])=told B N r cs++B (foldN N r cs) c∧foldN N r (cs++[c])=N (foldN N r cs) c
 |[],r=>by simp [told,foldN]
 |x::cs,r=>by
  obtain ⟨h1,h2⟩:=told_snoc c cs (N r x)
  simp only [told,foldN,List.cons_append]
  rw [h1,h2]
  simp
end
theorem told_len {R:Type} {B:R→Int→List Int} (N:R→Int→R) (h:∀r c,(B r c).length≤5):∀(cs:List Int) (r:R),(told B N r cs).length≤5*cs.length
 |[],r=>by simp [told]
 |c::cs,r=>by
  have h1:=h r c;have h2:=told_len N h cs (N r c)
  simp only [told,List.length_append,List.length_cons]
  omega
theorem fold_inv {R:Type} {N:R→Int→R} {I:R→Prop} (h:∀r c,I r→0≤c→isB c=true→I (N r c)):∀(cs:List Int) (r:R),I r→(∀x∈cs,0≤x∧isB x=true)→I (foldN N r cs)
 |[],_,hr,_=>hr
 |c::cs,r,hr,ha=>fold_inv h cs (N r c) (h r c hr (ha c List.mem_cons_self).1 (ha c List.mem_cons_self).2) (fun x hx=>ha x (List.mem_cons_of_mem _ hx))
def FeedRel {R:Type} (T:TypeId) (rest:R→List Value) (B:R→Int→List Int) (N:R→Int→R) (r:R) (w:World) (g:Nat) (l:List Int) (vo i:Value) (wr:World):Prop:=
 ∃n:Nat,n≤l.length∧vo= .string (strOfNums (told B N r (l.take n)))∧i= .int .i64 n∧OutAt T wr g {b40 with at_:=(n:Int)} [] (rest (foldN N r (l.take n)))∧Chg (ES g) w wr
def FeedPost {R:Type} (T:TypeId) (rest:R→List Value) (B:R→Int→List Int) (N:R→Int→R) (r:R) (w:World) (g:Nat) (l:List Int) (e:Ending) (wr:World):Prop:=
 e= .returned (.tuple #[.int .i64 l.length,.string (strOfNums (told B N r l))])∧OutAt T wr g {b40 with at_:=(l.length:Int)} [] (rest (foldN N r l))∧Chg (ES g) w wr
set_option maxRecDepth 100000 in
set_option maxHeartbeats 8000000 in
theorem bocu_feed {T:TypeId} {R:Type} {rest:R→List Value} {B:R→Int→List Int} {N:R→Int→R} {I:R→Prop} {r:R} {w:World} {g:Nat} {l:List Int} {A:Option Addr} {cap:Nat} (room:Int) (h:OutAt T w g b40 [] (rest r))
  (hby:∀(r:R) (c:Int) (w':World) (b:B4) (l:List Int),I r→OutAt T w' g b l (rest r)→0≤c→isB c=true→l.length≤1000→Calls Tryz.prog 192 #[.pointer (some ⟨g,0,none⟩),.int .u32 c] w' fun e w2=>e= .returned (.string (strOfNums (B r c)))∧OutAt T w2 g b l (rest (N r c))∧Chg (ES g) w' w2)
  (hB:∀r c,(B r c).length≤5) (hI:I r) (hIN:∀r c,I r→0≤c→isB c=true→I (N r c))
  (hl:l.length≤600) (hA:∀wr,Chg (ES g) w wr→Lst wr .u32 A l) (hr:∀x∈l,0≤x∧isB x=true) (r1:4096≤room) (r2:room≤1000000):
  Calls Tryz.prog 191 #[.pointer (some ⟨g,0,none⟩),.slice A l.length cap,.int .i64 room] w (FeedPost T rest B N r w g l):=by
 have hgi:=give_calls room h (by decide) (by simp;omega)
 have H:=Lib.hid h;have HBy:=Lib.hid hby;have HA:=Lib.hid hA;have HR:=Lib.hid hr;have HI:=Lib.hid (fun n=>fold_inv hIN (l.take n) r hI (fun x hx=>hr x (List.mem_of_mem_take hx)))
 have HGi:=Lib.hid hgi;clear h hby hA hr hgi hI hIN;go_enter Tryz.func191,Tryz.ntmps191;go_wp2_with fail;refine HGi.out.mono ?_;rintro e w1 ⟨rfl,h1,hc1⟩
 have H1:=Lib.hid h1;have HC1:=Lib.hid hc1;clear h1 hc1;go_wp2_with fail;go_loopw [8,9] (fun vo i wr=>FeedRel T rest B N r w g l vo i wr) (fun _ i _=>l.length-(intOf i).toNat)
 case atStart=>exact ⟨0,Nat.zero_le _,rfl,rfl,H1.out,HC1.out⟩
 case round=>
  obtain ⟨n,hn,rfl,rfl,ho,hc⟩:=hrel;have hsl:=told_len N hB (l.take n) r;have hln:(l.take n).length=n:=by rw [List.length_take];omega
  rw [hln] at hsl;have HO:=Lib.hid ho;have HC:=Lib.hid hc;have HKe:=Lib.hid (kept_calls ho (by decide))
  have hgoing:=going_calls g _ wr ho.base;have hge:({b40 with at_:=(n:Int)}:B4).going=true:=rfl;rw [hge] at hgoing;have HGg:=Lib.hid hgoing;have hXs:=str_size (told B N r (l.take n))
  clear ho hc hgoing hge hln
  by_cases hlt:n<l.length
  ·obtain ⟨a,rfl,q⟩:=(HA.out wr HC.out) n hlt
   have hrx:=HR.out (l.getD n 0) (by rw [List.getD_eq_getElem?_getD,List.getElem?_eq_getElem hlt];exact List.getElem_mem _)
   have htk:l.take (n+1)=l.take n++[l.getD n 0]:=by rw [List.take_succ_eq_append_getElem hlt,List.getD_eq_getElem?_getD,List.getElem?_eq_getElem hlt];rfl
   obtain ⟨t1,t2⟩:=told_snoc B N (l.getD n 0) (l.take n) r;rw [←htk] at t1 t2;have hA2:=HA.out;obtain ⟨x,hx⟩:∃x,x=l.getD n 0:=⟨_,rfl⟩
   have hq2:∀w2,Chg (ES g) wr w2→w2.cell? (a.add n)=some (.int .u32 x):=fun w2 hc2=>by
    obtain ⟨a2,ha2,q2⟩:=(HA.out w2 (HC.out.trans hc2)) n hlt;injection ha2 with ha2
    rw [←ha2] at q2;rw [q2,hx]
   rw [←hx] at q hrx t1 t2;obtain ⟨x0,xb⟩:=hrx;have hisx:=sis_calls x;rw [xb] at hisx;obtain ⟨S,hS⟩:∃S,S=told B N r (l.take n):=⟨_,rfl⟩
   obtain ⟨rn,hrn⟩:∃q,q=foldN N r (l.take n):=⟨_,rfl⟩
   rw [←hS,←hrn] at t1;rw [←hrn] at t2;rw [←hrn] at HO;have HIn:=Lib.hid (show I rn by rw [hrn];exact HI.out n)
   rw [←hS] at hXs hsl;rw [←hS]
   have HIs:=Lib.hid hisx;have HXB:=Lib.hid xb;have HT:=Lib.hid (And.intro t1 t2)
   have hbx:=hB rn x;have HQ2:=Lib.hid hq2;clear hisx xb t1 t2 hx htk hA2 hS hrn hq2;go_wp2_with fail;refine HKe.out.mono ?_;rintro e w2 ⟨rfl,rfl⟩
   go_wp2_with fail;refine HGg.out.mono ?_;rintro e w2 ⟨rfl,rfl⟩
   go_wp2_with fail;refine (HIs.out _).mono ?_;rintro e w2 ⟨rfl,rfl⟩
   go_upto_region 6 with fail;go_cut [] from 16 to 74 (fun wx=>OutAt T wx g {b40 with at_:=(n:Int)} (B rn x) (rest (N rn x))∧Chg (ES g) wr wx)
   case first=>
    have hd0:=Lib.hid (HO.out.drewN 1)
    go_region_with (first|(go_at_call 192;refine (HBy.out rn x _ _ _ HIn.out hd0.out x0 HXB.out (by decide)).mono ?_;rintro e w2 ⟨rfl,ho2,hc2⟩;have HO2:=Lib.hid ho2;have HC2:=Lib.hid ((Chg.drew (S:=ES g) _).trans hc2);clear ho2 hc2)|(go_at_call 146;refine (keep_calls (B rn x) HO2.out (by decide) (by omega)).mono ?_;rintro e w3 ⟨rfl,ho3,hc3⟩;have HO3:=Lib.hid ho3;have HC3:=Lib.hid (HC2.out.trans hc3);clear ho3 hc3))
    all_goals
     go_wp2_with fail;go_meet;exact ⟨HO3.out,HC3.out⟩
   case rest=>
    obtain ⟨ho2,hc2⟩:=hcut;have hea:=eat_calls g _ 1 wc ho2.base rfl (by decide) (by decide) (show (0:Int)≤(n:Int) by omega) (show (n:Int)≤1000000000 by omega)
    have HO2:=Lib.hid ho2;have HC2:=Lib.hid hc2;have HEa:=Lib.hid hea;clear ho2 hc2 hea;go_wp2_with fail;refine HEa.out.mono ?_;rintro e w3 ⟨rfl,rfl⟩
    have ho3:=HO2.out.setAt ((n:Int)+1)
    obtain ⟨w3,hw3⟩:∃w3,w3=wc.setCell ⟨g,0,none⟩ (.int .i64 ((n:Int)+1)):=⟨_,rfl⟩
    have hw3':wc.setCell ⟨g,0,none⟩ (.int .i64 (({b40 with at_:=(n:Int)}:B4).at_+1))=w3:=hw3.symm;have HC3:=Lib.hid (show Chg (ES g) wr w3 by rw [hw3];exact HC2.out.trans (es_g 0 _))
    rw [←hw3] at ho3;rw [hw3']
    have hgv:=give_calls (room-(S.length:Int)) ho3 (by omega) (by omega)
    have HGv:=Lib.hid hgv;clear hw3 hw3' ho3 hgv;go_wp2_with fail;refine HGv.out.mono ?_;rintro e w4 ⟨rfl,ho4,hc4⟩
    have HO4:=Lib.hid ho4;have HC4:=Lib.hid (HC3.out.trans hc4)
    have hT:=str_size (B rn x)
    have happ:=str_append S (B rn x)
    have HAp:=Lib.hid happ;clear ho4 hc4;go_wp2_with fail;go_roundw
    case rel=>
     refine ⟨n+1,hlt,by rw [HT.out.1],by go_num,?_,HC.out.trans HC4.out⟩
     rw [HT.out.2]
     have:=HO4.out;simpa using this
    case measure=>simp [intOf];omega
  ·obtain rfl:n=l.length:=by omega
   obtain ⟨S,hS⟩:∃S,S=told B N r (l.take l.length):=⟨_,rfl⟩
   rw [←hS]
   have HS:=Lib.hid hS;clear hS;go_wp2_with fail;go_ret2;have hS:=HS.out;have hO:=HO.out;rw [List.take_length] at hS hO;exact ⟨by rw [←hS];rfl,hO,HC.out⟩
end Out
namespace Out
open Go.RowKit Win Stp Lst
theorem conv_new (w:World) (l:List Int) (n:Nat) (hn:l.length=n):(convert 68 9 (.slice (some ⟨w.heap.size,0,none⟩) n n)).run Tryz.prog (w.alloc (.cells (u8s l).toArray 5))= .ok (.string (strOfNums l)) (w.alloc (.cells (u8s l).toArray 5)):=by
 subst hn;exact bytes_of (heap_alloc_new _ _)
def bocuR (r:Int):List Value:=[.int .u32 r]
def bocuB (r c:Int):List Int:=if c≤32 then [c] else packC (c-r)
def bocuN (r c:Int):Int:=if c≤32 then (if c<32 then 64 else r) else prevC c
def bocuI (r:Int):Prop:=0≤r∧r≤1114111
theorem prevC_rng {c:Int} (h0:0≤c) (h1:c≤1114111):0≤prevC c∧prevC c≤1114111:=by unfold prevC;repeat' split <;>omega
theorem place_three (d:Int):(placeC d).2.2≤3:=by
 unfold placeC
 repeat' split
 all_goals (simp only;omega)
theorem bocuB_len (r c:Int):(bocuB r c).length≤5:=by
 unfold bocuB
 split
 ·simp
 ·have:=place_three (c-r)
  unfold packC;rw [List.length_cons,digs_length]
  omega
theorem bocuN_inv (r c:Int) (h:bocuI r) (h0:0≤c) (hb:isB c=true):bocuI (bocuN r c):=by
 rw [isB_iff] at hb;unfold bocuN
 split
 ·split
  ·exact ⟨by decide,by decide⟩
  ·exact h
 ·exact prevC_rng h0 hb.1
set_option maxRecDepth 100000 in
set_option maxHeartbeats 2000000 in
theorem bocu_bytes (g:Nat) (r c:Int) (w:World) (b:B4) (l:List Int) (hI:bocuI r) (h:OutAt 182 w g b l (bocuR r)) (h0:0≤c) (hb:isB c=true) (hl:l.length≤1000):
  Calls Tryz.prog 192 #[.pointer (some ⟨g,0,none⟩),.int .u32 c] w fun e w2=>e= .returned (.string (strOfNums (bocuB r c)))∧OutAt 182 w2 g b l (bocuR (bocuN r c))∧Chg (ES g) w w2:=by
 have hb1:=(isB_iff.1 hb).1;have c5:w.cell? ⟨g,5,none⟩=some (.int .u32 r):=OutAt.c5 (rs:=[]) h;have f5:=h.fz 5;unfold bocuB bocuN;obtain ⟨r0,r1⟩:=hI
 by_cases hc:c≤32
 ·rw [if_pos hc,if_pos hc]
  by_cases hc2:c<32
  ·have hs:OutAt 182 (w.setCell ⟨g,5,none⟩ (.int .u32 64)) g b l (bocuR 64):=OutAt.set5 (rs:=[]) h (.int .u32 64)
   have HS:=Lib.hid hs;have hcv:=conv_new (w.setCell ⟨g,5,none⟩ (.int .u32 64)) [c] 1 rfl;have hcv2:(convert 68 9 (.slice (some ⟨w.heap.size,0,none⟩) 1 1)).run Tryz.prog ((w.setCell ⟨g,5,none⟩ (.int .u32 64)).alloc (.cells #[.int .u8 c] 5))= .ok (.string (strOfNums [c])) ((w.setCell ⟨g,5,none⟩ (.int .u32 64)).alloc (.cells #[.int .u8 c] 5)):=by
    have e:(w.setCell ⟨g,5,none⟩ (.int .u32 64)).heap.size=w.heap.size:=by simp [World.setCell]
    rw [e] at hcv;exact hcv
   rw [if_pos hc2]
   clear h hs hcv;go_enter Tryz.func192,Tryz.ntmps192;go_wp2;go_ret;exact ⟨rfl,HS.out.alloc _,(es_g 5 _).trans (Chg.alloc _ _)⟩
  ·have HS:=Lib.hid h
   have hcv:(convert 68 9 (.slice (some ⟨w.heap.size,0,none⟩) 1 1)).run Tryz.prog (w.alloc (.cells #[.int .u8 c] 5))= .ok (.string (strOfNums [c])) (w.alloc (.cells #[.int .u8 c] 5)):=conv_new w [c] 1 rfl;rw [if_neg hc2]
   clear h;go_enter Tryz.func192,Tryz.ntmps192;go_wp2;go_ret;exact ⟨rfl,HS.out.alloc _,Chg.alloc _ _⟩
 ·rw [if_neg hc,if_neg hc]
  have HPk:=Lib.hid (pack_calls (c-r) w (by omega) (by omega))
  have HPr:=Lib.hid (fun w=>prev_calls c w h0 hb1)
  have H:=Lib.hid h;clear h;go_enter Tryz.func192,Tryz.ntmps192;go_wp2_with fail;refine HPk.out.mono ?_;rintro e w1 ⟨rfl,hb1⟩
  have h1:=H.out.below hb1;have c51:w1.cell? ⟨g,5,none⟩=some (.int .u32 r):=OutAt.c5 (rs:=[]) h1;have f51:=h1.fz 5;have hs:OutAt 182 (w1.setCell ⟨g,5,none⟩ (.int .u32 (prevC c))) g b l (bocuR (prevC c)):=OutAt.set5 (rs:=[]) h1 _;have HS:=Lib.hid hs;have HC:=Lib.hid (Chg.of_below (S:=ES g) hb1)
  clear h1 hs hb1;go_wp2_with fail;refine (HPr.out _).mono ?_;rintro e w2 ⟨rfl,rfl⟩
  go_wp2_with fail;go_ret;exact ⟨rfl,HS.out,HC.out.trans (es_g 5 _)⟩
theorem bocu_new (w:World):Calls Tryz.prog 67 #[] w fun e w'=>e= .returned (.pointer (some ⟨w.heap.size,0,none⟩))∧OutAt 182 w' w.heap.size b40 [] (bocuR 64)∧Below w.heap.size w w'∧w'.heap.size=w.heap.size+1:=by
 go_enter Tryz.func67,Tryz.ntmps67;go_wp2;go_ret;exact ⟨rfl,⟨heap_alloc_new _ _⟩,(Below.refl _ _).alloc (Nat.le_refl _) _,by simp⟩
end Out
namespace Out
open Go.RowKit Win Stp Lst
theorem mk_bocu (v:Value) (w:World):(Instr.makeInterface 121 v).run Tryz.prog w= .ok (.iface 121 v) w:=run_makeInterface w 121 v (by kernel_rfl)
theorem feed_bocu (g:Nat) (w:World):(method 407 121 (.pointer (some ⟨g,0,none⟩)) "Feed").run Tryz.prog w= .ok (191,.pointer (some ⟨g,0,none⟩)) w:=by kernel_rfl
theorem end_bocu (g:Nat) (w:World):(method 407 121 (.pointer (some ⟨g,0,none⟩)) "End").run Tryz.prog w= .ok (139,.pointer (some ⟨g,0,none⟩)) w:=by kernel_rfl
theorem done_bocu (g:Nat) (w:World):(method 407 121 (.pointer (some ⟨g,0,none⟩)) "Done").run Tryz.prog w= .ok (138,.pointer (some ⟨g,0,none⟩)) w:=by kernel_rfl
theorem fail_bocu (g:Nat) (w:World):(method 407 121 (.pointer (some ⟨g,0,none⟩)) "Fail").run Tryz.prog w= .ok (140,.pointer (some ⟨g,0,none⟩)) w:=by kernel_rfl
attribute [local go_sem] mk_bocu feed_bocu end_bocu done_bocu fail_bocu
theorem cnew_bocu (w:World):Calls Tryz.prog 34 #[.int .i64 8] w fun e w'=>e= .returned (.tuple #[.iface 121 (.pointer (some ⟨w.heap.size,0,none⟩)),.int .i64 0])∧OutAt 182 w' w.heap.size b40 [] (bocuR 64)∧Below w.heap.size w w'∧w'.heap.size=w.heap.size+1:=by
 go_enter Tryz.func34,Tryz.ntmps34;go_wp2_with fail;refine (bocu_new _).mono ?_;rintro e w1 ⟨rfl,h1,h2,h3⟩
 go_wp2_with fail;go_ret2;exact ⟨rfl,h1,h2,h3⟩
def EncPost (w:World) (bs:List Int) (e:Ending) (w':World):Prop:=e= .returned (.tuple #[.string (strOfNums bs),.agg #[.int .i64 0,.int .i64 0]])∧Below w.heap.size w w'
set_option maxRecDepth 100000 in
set_option maxHeartbeats 8000000 in
theorem encode_bocu {w:World} {A:Option Addr} {cap:Nat} {l:List Int} (hL:∀wx,Below w.heap.size w wx→Lst wx .u32 A l) (hr:∀x∈l,0≤x∧isB x=true) (hl:l.length≤600) (hcap:l.length≤cap):
  Calls Tryz.prog 17 #[.int .i64 8,.slice A l.length cap] w (EncPost w (told bocuB bocuN 64 l)):=by
 have HL:=Lib.hid hL;have HR:=Lib.hid hr;clear hL hr;go_enter Tryz.func17,Tryz.ntmps17;go_wp2_with fail;refine (cnew_bocu _).mono ?_;rintro e w1 ⟨rfl,ho,hb,hz⟩
 obtain ⟨w0,hw0⟩:∃w0,w0=w.alloc (.cells #[.int .i64 0,.int .i64 0] 39):=⟨_,rfl⟩
 rw [←hw0] at ho hb hz ⊢;have hz0:w0.heap.size=w.heap.size+1:=by rw [hw0];simp
 have hr0:w0.heap[w.heap.size]? =some (.cells #[.int .i64 0,.int .i64 0] 39 (0,0)):=by rw [hw0];exact heap_alloc_new _ _
 have hb0:Below w.heap.size w w0:=by rw [hw0];exact (Below.refl _ _).alloc (Nat.le_refl _) _
 obtain ⟨g,hg⟩:∃g,g=w0.heap.size:=⟨_,rfl⟩
 rw [←hg] at ho hz ⊢;have hr1:=(hb.block w.heap.size (by omega)).trans hr0;have hb1:=hb0.trans (Below.mono hb (by omega))
 have HO:=Lib.hid ho;have HR1:=Lib.hid hr1;have HB1:=Lib.hid hb1;have HG:=Lib.hid (show w.heap.size<g∧w1.heap.size=g+1 by omega)
 clear ho hb hz hw0 hz0 hr0 hb0 hg hr1 hb1;go_upto_block 0 with fail;obtain ⟨b,hbd⟩:∃b,b=w1.heap.size:=⟨_,rfl⟩
 obtain ⟨w2,hw2⟩:∃w2,w2=w1.alloc (.cells #[.pointer none,.slice none 0 0] 70):=⟨_,rfl⟩
 have hbg:g<b∧w.heap.size<g:=by have:=HG.out;omega
 have HBl:=Lib.hid (show BldAt w.heap.size b ByteArray.empty w2 by rw [hw2,hbd];exact bld_new _ _ (by omega))
 have HO2:=Lib.hid (show OutAt 182 w2 g b40 [] (bocuR 64) by rw [hw2];exact HO.out.alloc _)
 have HR2:=Lib.hid (show w2.heap[w.heap.size]? =some (.cells #[.int .i64 0,.int .i64 0] 39 (0,0)) by rw [hw2,Below.heap_alloc _ _ _ (by omega)];exact HR1.out)
 have HB2:=Lib.hid (show Below w.heap.size w w2 by rw [hw2];exact HB1.out.alloc HB1.out.size _)
 have HBG:=Lib.hid hbg;rw [←hw2,←hbd]
 clear hbd hw2 hbg HO HR1 HB1 HG;go_wp2_with fail;go_loopw [1] (fun v wr=>v= .slice A l.length cap∧w2=wr) (fun _ _=>0)
 case atStart=>exact ⟨rfl,rfl⟩
 case round=>
  obtain ⟨rfl,rfl⟩:=hrel;have hfs:∀i,ES g i→w.heap.size≤i:=by intro i hi;have:i=g:=hi;have:=HBG.out;omega
  have hfd:=bocu_feed (cap:=cap) (l:=l) 4096 HO2.out (fun r c w' b l hI h h0 hb hl=>bocu_bytes g r c w' b l hI h h0 hb hl) bocuB_len ⟨by decide,by decide⟩ bocuN_inv hl (fun wr hc=>HL.out wr (Chg.below HB2.out hc hfs)) HR.out (by decide) (by decide)
  have hlen:=told_len bocuN bocuB_len l 64;obtain ⟨S,hS⟩:∃S,S=told bocuB bocuN 64 l:=⟨_,rfl⟩
  unfold FeedPost at hfd;rw [←hS] at hfd hlen;obtain ⟨rn,hrn⟩:∃q,q=foldN bocuN 64 l:=⟨_,rfl⟩
  rw [←hrn] at hfd;have hsz:=str_size S;have HFd:=Lib.hid hfd;have HS:=Lib.hid hS;have HFs:=Lib.hid hfs;clear hfd hS hrn hfs;go_wp2_with fail;refine HFd.out.mono ?_;rintro e w3 ⟨rfl,ho3,hc3⟩
  have hb3:BldAt w.heap.size b ByteArray.empty w3:=bld_chg HBl.out hc3 (by intro h;have:b=g:=h;have:=HBG.out;omega) (by
   intro i cs fz h hh;have:i=g:=hh;subst this;have:=h.symm.trans HO2.out.blk;simp at this)
  have hr3:=(hc3.block w.heap.size (Array.getElem?_eq_some_iff.1 HR2.out).1 (by intro h;have:w.heap.size=g:=h;have:=HBG.out;omega)).trans HR2.out;have hbw3:=Chg.below HB2.out hc3 HFs.out;have hwr:=bld_write (strOfNums S) hb3 (by decide) (by omega) hbw3.size;have HWr:=Lib.hid hwr;have HO3:=Lib.hid ho3;have HR3:=Lib.hid hr3;have HB3:=Lib.hid hbw3;clear ho3 hc3 hb3 hr3 hbw3 hwr;go_wp2_with fail;refine HWr.out.mono ?_;rintro e w4 ⟨rfl,hb4,hbe4,hot4⟩
  rw [ByteArray.empty_append] at hb4;have ho4:OutAt 182 w4 g {b40 with at_:=(l.length:Int)} [] (bocuR rn):=⟨hot4 g _ HO3.out.blk (by intro h;injection h with h;have:=HBG.out;omega) (by intro c fz h;cases h)⟩
  have hr4:=hot4 w.heap.size _ HR3.out (by intro h;injection h with h;have:=HBG.out;omega) (by intro c fz h;cases h)
  have HEnd:=Lib.hid (oend_calls ho4 rfl)
  have HBl4:=Lib.hid hb4;have HB4:=Lib.hid (HB3.out.trans hbe4)
  have HR4:=Lib.hid hr4;have HO4:=Lib.hid ho4;clear hb4 hbe4 hot4 ho4 hr4;go_upto_region 7 with fail;go_cut [1] from 22 to 41 (fun v wx=>(∃A' c',v= .slice A' 0 c')∧w4=wx)
  case first=>
   go_wp2_with fail
   all_goals
    go_meet;exact ⟨⟨_,_,rfl⟩,rfl⟩
  case rest=>
   obtain ⟨⟨A',c',rfl⟩,rfl⟩:=hcut;go_wp2_with fail;refine HEnd.out.mono ?_;rintro e w5 ⟨rfl,ho5,hc5⟩
   have hb5:BldAt w.heap.size b (strOfNums S) w5:=bld_chg HBl4.out hc5 (by intro h;have:b=g:=h;have:=HBG.out;omega) (by
    intro i cs fz h hh;have:i=g:=hh;subst this;have:=h.symm.trans HO4.out.blk;simp at this)
   have hr5:=(hc5.block w.heap.size (Array.getElem?_eq_some_iff.1 HR4.out).1 (by intro h;have:w.heap.size=g:=h;have:=HBG.out;omega)).trans HR4.out;have HB5:=Lib.hid (Chg.below HB4.out hc5 HFs.out)
   have HDn:=Lib.hid (odone_calls ho5 (by decide))
   have HBl5:=Lib.hid hb5;have HR5:=Lib.hid hr5;have HO5:=Lib.hid ho5;clear ho5 hc5 hb5 hr5;go_wp2_with fail;go_loopw [12] (fun v wr=>w5=wr) (fun _ _=>0)
   case atStart=>rfl
   case round=>
    subst hrel;have HSt:=Lib.hid (bld_string HBl5.out HB5.out.size)
    go_wp2_with fail;refine HDn.out.mono ?_;rintro e w6 ⟨rfl,rfl⟩
    go_wp2_with fail;refine HSt.out.mono ?_;rintro e w6 ⟨rfl,hb6,hot6⟩
    have ho6:OutAt 182 w6 g {b40 with at_:=(l.length:Int),fin:=true} [] (bocuR rn):=⟨hot6 g _ HO5.out.blk (by intro h;injection h with h;have:=HBG.out;omega) (by intro c fz h;cases h)⟩
    have hr6:=hot6 w.heap.size _ HR5.out (by intro h;injection h with h;have:=HBG.out;omega) (by intro c fz h;cases h)
    have HFl:=Lib.hid (fail_calls g _ w6 ho6.base)
    have HR6:=Lib.hid hr6;have HB6:=Lib.hid (HB5.out.trans hb6)
    clear hb6 hot6 ho6 hr6;go_wp2_with fail;refine HFl.out.mono ?_;rintro e w7 ⟨rfl,rfl⟩
    obtain ⟨w7,hw7⟩:∃w7,w7=w6.alloc (.cells #[.int .i64 0,.int .i64 0] 39):=⟨_,rfl⟩
    have hw7':w6.alloc (.cells #[.int .i64 b40.err,.int .i64 b40.pl] 39)=w7:=hw7.symm;have hr7:w7.heap[w.heap.size]? =some (.cells #[.int .i64 0,.int .i64 0] 39 (0,0)):=by rw [hw7,Below.heap_alloc _ _ _ (Array.getElem?_eq_some_iff.1 HR6.out).1];exact HR6.out
    have hb7:Below w.heap.size w w7:=by rw [hw7];exact HB6.out.alloc HB6.out.size _
    rw [hw7']
    have c0:w7.cell? ⟨w.heap.size,0,none⟩=some (.int .i64 0):=by rw [cell_of hr7];rfl
    have c1:w7.cell? ⟨w.heap.size,1,none⟩=some (.int .i64 0):=by rw [cell_of hr7];rfl
    have f0:=frozen_of hr7 0;have f1:=frozen_of hr7 1;have HB7:=Lib.hid hb7;clear hw7 hw7' hr7 hb7;go_wp2_with fail;have e0:((w7.setCell ⟨w.heap.size,0,none⟩ (.int .i64 b40.err)).setCell ⟨w.heap.size,1,none⟩ (.int .i64 b40.pl)).cell? ⟨w.heap.size,0,none⟩=some (.int .i64 0):=by
     rw [World.cell?_setCell_other _ _ _ _ (by simp),World.cell?_setCell_same _ _ _ c0]
     rfl
    have e1:((w7.setCell ⟨w.heap.size,0,none⟩ (.int .i64 b40.err)).setCell ⟨w.heap.size,1,none⟩ (.int .i64 b40.pl)).cell? ⟨w.heap.size,1,none⟩=some (.int .i64 0):=by
     rw [World.cell?_setCell_same (u:=.int .i64 0) _ _ _ (by rw [World.cell?_setCell_other _ _ _ _ (by simp)];exact c1)]
     rfl
    refine bodyPost_ret (v:=.tuple #[.string (strOfNums S),.agg #[.int .i64 0,.int .i64 0]]) (by simp [results,Tryz.results17,go_sem,e0,e1]) rfl ⟨by rw [HS.out],(HB7.out.setCell (p:=⟨w.heap.size,0,none⟩) (Nat.le_refl _) _).setCell (p:=⟨w.heap.size,1,none⟩) (Nat.le_refl _) _⟩
end Out
namespace Out
open Go.RowKit Win Stp Lst
def FedPost (T:TypeId) (w:World) (g n:Nat) (S:List Int) (e:Ending) (wr:World):Prop:=
 e= .returned (.tuple #[.int .i64 n,.string (strOfNums S)])∧(∃rs,OutAt T wr g {b40 with at_:=(n:Int)} [] rs)∧Chg (ES g) w wr
def Rdy (T:TypeId) (F:Nat) (l S:List Int) (g:Nat) (wx:World):Prop:=
 (∃rs,OutAt T wx g b40 [] rs)∧∀(A:Option Addr) (cap:Nat),(∀wr,Chg (ES g) wx wr→Lst wr .u32 A l)→Calls Tryz.prog F #[.pointer (some ⟨g,0,none⟩),.slice A l.length cap,.int .i64 4096] wx (FedPost T wx g l.length S)
def NewPost (PT T:TypeId) (F:Nat) (l S:List Int) (w:World) (e:Ending) (w':World):Prop:=
 ∃g,w.heap.size≤g∧g<w'.heap.size∧e= .returned (.tuple #[.iface PT (.pointer (some ⟨g,0,none⟩)),.int .i64 0])∧Below w.heap.size w w'∧∀wy,Below w'.heap.size w' wy→Rdy T F l S g wy
theorem FedPost.of {R:Type} {T:TypeId} {rest:R→List Value} {B:R→Int→List Int} {N:R→Int→R} {r:R} {w:World} {g:Nat} {l:List Int} {e:Ending} {wr:World} (h:FeedPost T rest B N r w g l e wr):FedPost T w g l.length (told B N r l) e wr:=⟨h.1,⟨_,h.2.1⟩,h.2.2⟩
end Out
namespace Lst
open Go.RowKit Win Stp
theorem u32s_one (xs:List Int):∀u∈u32s xs,u.oneCell'=true:=by
 intro u hu;unfold u32s at hu;rw [List.mem_map] at hu;obtain ⟨y,_,rfl⟩:=hu
 rfl
set_option maxRecDepth 100000 in
theorem app_lst {P:Program} (hP:P=Tryz.prog) {w:World} {ops:Array Oper} {rest:List Oper} {o:Oper} {a:Act} {Q:Exit→Act→World→Prop} (hgd:o.guard=none) (s x:Operand)
  (ho:o.op= .call {callee:=.builtin .append,args:=#[s,x],argTypes:=#[24,24]})
  (base:Nat) (v:Value) (xs:List Int) (hs:a.eval s=v) (hown:w.ownsRow base 31 1 v xs.length (u32s xs))
  (A:Option Addr) (c:Nat) (ys:List Int) (hx:a.eval x= .slice A ys.length c) (hL:Lst w .u32 A ys) (hnil:A=none→c=0)
  (h63:xs.length+ys.length≤1000000) (hbase:base≤w.heap.size)
  (h:∀A' c' w',w'.ownsRow base 31 1 (.slice A' (xs++ys).length c') (xs++ys).length (u32s (xs++ys))→w.grownBy w' v.ownBlock→(A'=none→c'=0)→wpList P ops Q rest (a.put o.dst (.slice A' (xs++ys).length c')) w'):wpList P ops Q (o::rest) a w:=by
 subst hP;obtain ⟨i0,hi,hz0,hz1,hz2⟩:=info_parts info_u32;have fin:∀v' w',w'.ownsRow base 31 1 v' (xs.length+ys.length) (u32s xs++u32s ys)→w.grownBy w' v.ownBlock→wpList Tryz.prog ops Q rest (a.put o.dst v') w':=by
  intro v' w' h1 h2;rw [←u32s_append] at h1;obtain ⟨A',c',rfl⟩:=owns_form h1;have hl:(xs++ys).length=xs.length+ys.length:=List.length_append;have:=h A' c' w';rw [hl] at this;refine this h1 h2 ?_;rintro rfl;rcases h1.2 with ⟨h3,_⟩|⟨_,_,_,h3,_⟩
  ·injection h3
  ·injection h3 with h3;cases h3
 cases A with
 |none=>
  obtain rfl:c=0:=hnil rfl;obtain rfl:ys=[]:=by
   cases ys with
   |nil=>rfl
   |cons y ys=>
    obtain ⟨a,h,_⟩:=hL 0 (by simp)
    cases h
  refine wpList_append_own_none hgd s x 24 ho base 31 i0 1 Tryz.underlying24 hi v xs.length (u32s xs) hs hown hx ?_;refine fin v w ?_ ⟨rfl,rfl,rfl,Nat.le_refl _,fun _ _ _=>rfl⟩
  simpa [u32s] using hown
 |some ad=>
  refine wpList_append_own w hgd s x 24 ho base 31 i0 (.int .u32 0) 1 4 Tryz.underlying24 hi hz0 hz1 hz2 rfl (by decide) v xs.length (u32s xs) hs hown ad ys.length c (u32s ys) hx (by simp [u32s_length]) ?_ (u32s_one ys) (by unfold maxLen;omega) (by omega) hbase (fun v' w' h1 h2 _=>fin v' w' h1 h2)
  intro j u hu;have hj:j<ys.length:=by have:=(List.getElem?_eq_some_iff.1 hu).1;rw [u32s_length] at this;exact this
  obtain ⟨b,hb,hc⟩:=hL j hj;injection hb with hb
  subst hb;unfold u32s at hu;rw [List.getElem?_map,List.getElem?_eq_getElem hj] at hu;simp at hu;rw [hc,List.getD_eq_getElem?_getD,List.getElem?_eq_getElem hj,←hu]
  rfl
theorem eq_nil (w:World):(binOp .eql 24 (.slice none 0 0) (.slice none 0 0)).run Tryz.prog w= .ok (.bool true) w:=by kernel_rfl
theorem eq_not (a:Addr) (n c:Nat) (w:World):(binOp .eql 24 (.slice (some a) n c) (.slice none 0 0)).run Tryz.prog w= .ok (.bool false) w:=by kernel_rfl
def ClonePost (w:World) (xs:List Int) (e:Ending) (w':World):Prop:=∃A c,e= .returned (.slice A xs.length c)∧w'.ownsRow w.heap.size 31 1 (.slice A xs.length c) xs.length (u32s xs)∧(A=none→c=0)∧Below w.heap.size w w'
set_option maxRecDepth 100000 in
theorem clone_calls {A:Option Addr} {c:Nat} {xs:List Int} {w:World} (hL:Lst w .u32 A xs) (hnil:A=none→c=0) (hl:xs.length≤100000):
  Calls Tryz.prog 60 #[.slice A xs.length c] w (ClonePost w xs):=by
 cases A with
 |none=>
  obtain rfl:c=0:=hnil rfl;obtain rfl:xs=[]:=by
   cases xs with
   |nil=>rfl
   |cons y ys=>
    obtain ⟨a,h,_⟩:=hL 0 (by simp)
    cases h
  have e1:=eq_nil w;go_enter Tryz.func60,Tryz.ntmps60;go_wp2_with fail;go_ret;exact ⟨none,0,rfl,World.ownsRow_nil _ _ _ _,fun _=>rfl,Below.refl _ _⟩
 |some a=>
  have HL:=Lib.hid (show Lst (w.alloc (.cells #[] 31)) .u32 (some a) xs from hL.below ((Below.refl _ _).alloc (Nat.le_refl _) _))
  have HN:=Lib.hid hnil;have HO:=Lib.hid (World.ownsRow_lit (base:=w.heap.size) (e:=31) (size:=1) w #[] 0 (Nat.le_refl _) (by decide) rfl)
  clear hL hnil;have e1:=eq_not a xs.length c w;go_enter Tryz.func60,Tryz.ntmps60;go_wp2_with (at_builtin;refine app_lst rfl rfl _ _ rfl w.heap.size _ [] rfl HO.out _ _ xs rfl HL.out HN.out (by simp;omega) (by simp) ?_;intro A' c' w' h1 h2 h3;rw [List.nil_append] at h1;have H1:=Lib.hid h1;have H2:=Lib.hid h2;have H3:=Lib.hid h3;clear h1 h2 h3)
  go_ret;have hB:Below w.heap.size w (w.alloc (.cells #[] 31)):=(Below.refl _ _).alloc (Nat.le_refl _) _;exact ⟨_,_,rfl,H1.out,H3.out,hB.grown H2.out (by simp) (fun k hk=>Nat.le_of_eq (Option.some.inj (show some w.heap.size=some k from hk)))⟩
end Lst
namespace Srt
open Go.RowKit Go.Sort Win Stp Lst
def Typ (g:Nat) (w w':World):Prop:=∀cs T fz,w.heap[g]? =some (.cells cs T fz)→∃cs',w'.heap[g]? =some (.cells cs' T fz)
theorem Typ.same {g:Nat} {w w':World} (h:w'.heap[g]? =w.heap[g]?):Typ g w w':=fun cs T fz hc=>⟨cs,h.trans hc⟩
theorem Typ.refl (g:Nat) (w:World):Typ g w w:=Typ.same rfl
theorem Typ.trans {g:Nat} {w w1 w2:World} (h:Typ g w w1) (k:Typ g w1 w2):Typ g w w2:=fun cs T fz hc=>by
 obtain ⟨cs1,h1⟩:=h cs T fz hc;exact k cs1 T fz h1
theorem Typ.set (g:Nat) (w:World) (a:Addr) (v:Value):Typ g w (w.setCell a v):=fun cs T fz hc=>by
 unfold World.setCell;simp only [Array.getElem?_modify]
 by_cases hk:a.block=g
 ·simp [hk,hc]
 ·simp [hk,hc]
theorem Typ.alloc {g:Nat} {w:World} (hg:g<w.heap.size) (o:Obj):Typ g w (w.alloc o):=Typ.same (Below.heap_alloc w o g hg)
structure On (w:World) (g q:Nat) (d:Array Int) (w':World):Prop where
 cell:∀t,t<d.size→w'.cell? ⟨g,q+t,none⟩=some (.int .u32 d[t]!)
 free:∀t,t<d.size→w'.frozen? ⟨g,q+t,none⟩=false
 chg:Chg (fun i=>i=g) w w'
 old:g<w.heap.size
 typ:Typ g w w'
theorem On.refl {w w':World} {g q:Nat} {d:Array Int} (h:On w g q d w'):On w' g q d w':=⟨h.cell,h.free,Chg.refl _,Nat.lt_of_lt_of_le h.old h.chg.size,Typ.refl _ _⟩
theorem On.trans {w w1 w2:World} {g q:Nat} {d d1:Array Int} (h:On w g q d w1) (k:On w1 g q d1 w2):On w g q d1 w2:=
 ⟨k.cell,k.free,h.chg.trans k.chg,h.old,h.typ.trans k.typ⟩
theorem On.drewN {w w1:World} {g q:Nat} {d:Array Int} (h:On w g q d w1) (n:Nat):On w g q d (w1.drewN n):=⟨h.cell,h.free,h.chg.trans (Chg.drewN _ n),h.old,h.typ⟩
theorem On.drew {w w1:World} {g q:Nat} {d:Array Int} (h:On w g q d w1):On w g q d w1.drew:=⟨h.cell,h.free,h.chg.trans (Chg.drew _),h.old,h.typ⟩
theorem set_free (w:World) (a b:Addr) (v:Value):(w.setCell a v).frozen? b=w.frozen? b:=by
 unfold World.frozen? World.setCell;simp only [Array.getElem?_modify]
 by_cases hk:a.block=b.block
 ·simp only [hk,if_true]
  cases w.heap[b.block]? with
  |none=>rfl
  |some o=>cases o <;>rfl
 ·simp [hk]
theorem On.set {w w1:World} {g q:Nat} {d:Array Int} (h:On w g q d w1) (j:Nat) (hj:j<d.size) (x:Int):On w g q (d.setIfInBounds j x) (w1.setCell ⟨g,q+j,none⟩ (.int .u32 x)):=by
 refine ⟨fun t ht=>?_,fun t ht=>?_,h.chg.trans (Chg.set (S:=fun i=>i=g) w1 rfl (q+j) _),h.old,h.typ.trans (Typ.set _ _ _ _)⟩
 ·rw [Array.size_setIfInBounds] at ht
  by_cases e:t=j
  ·subst e
   rw [getElem!_set_same d t x hj]
   exact World.cell?_setCell_same _ _ _ (h.cell t ht)
  ·rw [getElem!_set_other d j t x e,World.cell?_setCell_other _ _ _ _ (by intro hh;simp only [Addr.mk.injEq] at hh;omega)]
   exact h.cell t ht
 ·rw [Array.size_setIfInBounds] at ht
  rw [set_free]
  exact h.free t ht
theorem On.swap {w w1:World} {g q:Nat} {d:Array Int} (h:On w g q d w1) (j k:Nat) (hj:j<d.size) (hk:k<d.size):
  On w g q (swp d j k) ((w1.setCell ⟨g,q+j,none⟩ (.int .u32 d[k]!)).setCell ⟨g,q+k,none⟩ (.int .u32 d[j]!)):=
 (h.set j hj _).set k (by simpa using hk) _
theorem nan_calls (x:Int) (w:World):Calls Tryz.prog 189 #[.int .u32 x] w fun e w'=>e= .returned (.bool false)∧w'=w:=by
 go_enter Tryz.func189,Tryz.ntmps189;go_wp2_with fail;go_ret;exact ⟨by simp,rfl⟩
theorem less_calls (x y:Int) (w:World):Calls Tryz.prog 178 #[.int .u32 x,.int .u32 y] w fun e w'=>e= .returned (.bool (ltInt x y))∧w'=w:=by
 go_enter Tryz.func178,Tryz.ntmps178;go_wp2_with (go_at_call 189;refine (nan_calls _ _).mono ?_;rintro e w' ⟨rfl,rfl⟩)
 go_ret;exact ⟨rfl,rfl⟩
section
variable (a b i j:Nat) (d:Array Int)
theorem ins_go (hj:a<j) (hl:ltInt d[j]! d[j-1]! =true):insInner ltInt a j d=insInner ltInt a (j-1) (swp d j (j-1)):=by
 cases j with
 |zero=>omega
 |succ k=>
  rw [insInner,if_pos]
  ·rfl
  ·simpa using ⟨by omega,hl⟩
theorem ins_stop (h:j≤a∨ltInt d[j]! d[j-1]! =false):insInner ltInt a j d=d:=by
 cases j with
 |zero=>rw [insInner]
 |succ k=>
  rw [insInner,if_neg]
  rcases h with h|h
  ·simp;omega
  ·simp at h ⊢
   intro _;exact h
theorem out_go (h:i<b):insOuter ltInt a b i d=insOuter ltInt a b (i+1) (insInner ltInt a i d):=by rw [insOuter,if_pos h]
theorem out_stop (h:¬i<b):insOuter ltInt a b i d=d:=by rw [insOuter,if_neg h]
end
theorem insInner_size (a:Nat):∀(j:Nat) (d:Array Int),(insInner ltInt a j d).size=d.size
 |0,d=>by rw [insInner]
 |j+1,d=>by
  rw [insInner]
  split
  ·rw [insInner_size a j,size_swp]
  ·rfl
def Done (w:World) (g q:Nat) (d:Array Int) (e:Ending) (w':World):Prop:=e= .returned (.tuple #[])∧On w g q d w'
def OutRel (w:World) (g q a b N:Nat) (d:Array Int) (vi:Value) (wr:World):Prop:=
 ∃(i:Nat) (dk:Array Int),vi= .int .i64 i∧a<i∧i≤b+1∧dk.size=N∧On w g q dk wr∧insOuter ltInt a b i dk=insOuter ltInt a b (a+1) d
def InnRel (w:World) (g q a i N:Nat) (d:Array Int) (vj:Value) (wr:World):Prop:=
 ∃(j:Nat) (dj:Array Int),vj= .int .i64 j∧a≤j∧j≤i∧dj.size=N∧On w g q dj wr∧insInner ltInt a j dj=insInner ltInt a i d
def natOf:Value→Nat| .int _ z=>z.toNat|_=>0
set_option maxHeartbeats 4000000 in
set_option maxRecDepth 1000000 in
theorem insertion_calls (g q N cap a b:Nat) (d:Array Int) (w:World) (hN:d.size=N) (hH:On w g q d w) (hab:a≤b) (hb:b≤N) (hsz:N<4611686018427387904):
  Calls Tryz.prog 172 #[.slice (some ⟨g,q,none⟩) N cap,.int .i64 a,.int .i64 b] w (Done w g q (insertionSort ltInt d a b)):=by
 go_enter Tryz.func172,Tryz.ntmps172;go_wp2_with fail;go_loopw [6] (OutRel w g q a b N d) (fun vi _=>b+1-natOf vi)
 case atStart=>exact ⟨a+1,d,by go_num,by omega,by omega,hN,hH,rfl⟩
 case round=>
  obtain ⟨i,dk,rfl,hai,hib,hsk,hwr,hO⟩:=hrel
  by_cases hlt:i<b
  ·have HO:=Lib.hid hO
   have HA:=Lib.hid hwr;clear hO hwr hH;go_wp2_with fail;go_loopw [7] (InnRel w g q a i N dk) (fun vj _=>natOf vj)
   case atStart=>exact ⟨i,dk,rfl,by omega,Nat.le_refl _,hsk,HA.out,rfl⟩
   case round=>
    obtain ⟨j,dj,rfl,haj,hji,hsj,hw2,hI⟩:=hrel;obtain ⟨G,hG⟩:∃G:Nat→Int,∀t,G t=dj[t]! :=⟨fun t=>dj[t]!,fun _=>rfl⟩
    have hcw:∀t,t<N→wr.cell? ⟨g,q+t,none⟩=some (.int .u32 (G t)):=fun t ht=>by rw [hG];exact hw2.cell t (by omega)
    have hfw:∀t,t<N→wr.frozen? ⟨g,q+t,none⟩=false:=fun t ht=>hw2.free t (by omega)
    have HW:=Lib.hid hw2;have HG:=Lib.hid hG;have HI:=Lib.hid hI;clear hw2 hG hI
    by_cases hja:a<j
    ·go_wp2_with fail
     go_quiet ((go_at_call 178;exact Calls.quiet_of_same (less_calls _ _ _)))
     go_wp2_with fail
     ·have hl:ltInt (G j) (G (j-1))=true:=by assumption
      rw [HG.out,HG.out] at hl;go_region
      all_goals go_wp2_with fail
      go_roundw
      case rel=>
       refine ⟨j-1,swp dj j (j-1),by congr 1;omega,by omega,by omega,by rw [size_swp];exact hsj,?_,by rw [←HI.out,ins_go a j dj hja hl]⟩
       rw [HG.out,HG.out]
       exact (HW.out.drewN _).swap j (j-1) (by omega) (by omega)
      case measure=>simp [natOf];omega
     ·have hl:ltInt (G j) (G (j-1))=false:=by assumption
      rw [HG.out,HG.out] at hl;go_roundw
      case rel=>exact ⟨i+1,dj,by go_num,by omega,by omega,hsj,HW.out.drewN _,by rw [←HO.out,out_go a b i dk hlt,←HI.out,ins_stop a j dj (Or.inr hl)]⟩
      case measure=>simp [natOf];omega
    ·go_wp2_with fail
     go_quiet ((go_at_call 178;exact Calls.quiet_of_same (less_calls _ _ _)))
     go_wp2_with fail;go_roundw
     case rel=>exact ⟨i+1,dj,by go_num,by omega,by omega,hsj,HW.out.drewN _,by rw [←HO.out,out_go a b i dk hlt,←HI.out,ins_stop a j dj (Or.inl (by omega))]⟩
     case measure=>simp [natOf];omega
  ·go_wp2_with fail
   go_end0;exact ⟨rfl,by unfold insertionSort;rw [←hO,out_stop a b i dk hlt];exact hwr⟩
end Srt
namespace Srt
open Go.RowKit Go.Sort Win Stp Lst
section
variable (hi F root:Nat) (d:Array Int)
theorem sd_end (h:hi≤2*root+1):siftDown ltInt hi F root d=d:=by rw [siftDown,dif_pos h]
theorem sd_two (h:2*root+2<hi) (hl:ltInt d[F+(2*root+1)]! d[F+(2*root+1)+1]! =true):siftDown ltInt hi F root d=
  if ltInt d[F+root]! d[F+(2*root+2)]! =true then siftDown ltInt hi F (2*root+2) (swp d (F+root) (F+(2*root+2))) else d:=by
 rw [siftDown,dif_neg (by omega),if_pos (by rw [hl];simp;omega)]
 by_cases hr:ltInt d[F+root]! d[F+(2*root+2)]! =true
 ·rw [if_neg (by rw [hr];simp),dif_pos h,if_pos hr]
 ·rw [if_pos (by simpa using hr),if_neg hr]
theorem sd_one (h:2*root+1<hi) (hl:¬(2*root+2<hi)∨ltInt d[F+(2*root+1)]! d[F+(2*root+1)+1]! =false):siftDown ltInt hi F root d=
  if ltInt d[F+root]! d[F+(2*root+1)]! =true then siftDown ltInt hi F (2*root+1) (swp d (F+root) (F+(2*root+1))) else d:=by
 rw [siftDown,dif_neg (by omega),if_neg]
 ·by_cases hr:ltInt d[F+root]! d[F+(2*root+1)]! =true
  ·rw [if_neg (by rw [hr];simp),if_pos hr]
  ·rw [if_pos (by simpa using hr),if_neg hr]
 ·rcases hl with hl|hl
  ·simp;omega
  ·simp [hl]
end
theorem siftDown_size (hi F:Nat):∀(n root:Nat) (d:Array Int),hi-root≤n→(siftDown ltInt hi F root d).size=d.size
 |0,root,d,h=>by rw [sd_end _ _ _ _ (by omega)]
 |n+1,root,d,h=>by
  by_cases h1:hi≤2*root+1
  ·rw [sd_end _ _ _ _ h1]
  ·by_cases h2:2*root+2<hi∧ltInt d[F+(2*root+1)]! d[F+(2*root+1)+1]! =true
   ·rw [sd_two hi F root d h2.1 h2.2]
    split
    ·rw [siftDown_size hi F n _ _ (by omega),size_swp]
    ·rfl
   ·rw [sd_one hi F root d (by omega) (by simp only [not_and,Bool.not_eq_true] at h2;by_cases h3:2*root+2<hi;exact Or.inr (h2 h3);exact Or.inl h3)]
    split
    ·rw [siftDown_size hi F n _ _ (by omega),size_swp]
    ·rfl
def SdRel (w:World) (g q hi F lo N:Nat) (d:Array Int) (vi:Value) (wr:World):Prop:=
 ∃(root:Nat) (dk:Array Int),vi= .int .i64 root∧root≤hi∧dk.size=N∧On w g q dk wr∧siftDown ltInt hi F root dk=siftDown ltInt hi F lo d
set_option maxHeartbeats 4000000 in
set_option maxRecDepth 1000000 in
theorem sift_calls (g q N cap lo hi F:Nat) (d:Array Int) (w:World) (hN:d.size=N) (hH:On w g q d w) (hlo:lo≤hi) (hb:F+hi≤N) (hsz:N<4611686018427387904):
  Calls Tryz.prog 184 #[.slice (some ⟨g,q,none⟩) N cap,.int .i64 lo,.int .i64 hi,.int .i64 F] w (Done w g q (siftDown ltInt hi F lo d)):=by
 go_enter Tryz.func184,Tryz.ntmps184;go_wp2_with fail;go_loopw [8] (SdRel w g q hi F lo N d) (fun vi _=>hi-natOf vi)
 case atStart=>exact ⟨lo,d,rfl,hlo,hN,hH,rfl⟩
 case round=>
  obtain ⟨root,dk,rfl,hri,hsk,hw2,hO⟩:=hrel;obtain ⟨G,hG⟩:∃G:Nat→Int,∀t,G t=dk[t]! :=⟨fun t=>dk[t]!,fun _=>rfl⟩
  have hcw:∀t,t<N→wr.cell? ⟨g,q+t,none⟩=some (.int .u32 (G t)):=fun t ht=>by rw [hG];exact hw2.cell t (by omega)
  have hfw:∀t,t<N→wr.frozen? ⟨g,q+t,none⟩=false:=fun t ht=>hw2.free t (by omega)
  have HW:=Lib.hid hw2;have HG:=Lib.hid hG;have HO:=Lib.hid hO;clear hw2 hG hO hH
  by_cases h0:hi≤2*root+1
  ·have h0z:(hi:Int)≤2*(root:Int)+1:=by omega
   go_wp2_with fail;go_end0;refine ⟨rfl,?_⟩
   rw [←HO.out,sd_end _ _ _ _ h0]
   exact HW.out
  ·have h0z:¬((hi:Int)≤2*(root:Int)+1):=by omega
   by_cases h1:2*root+2<hi
   ·have h1z:2*(root:Int)+1+1<(hi:Int):=by omega
    go_wp2_with fail;go_quiet ((go_at_call 178;exact Calls.quiet_of_same (less_calls _ _ _)))
    go_wp2_with fail
    ·have hL:ltInt (G (F+(2*root+1))) (G (F+(2*root+1)+1))=true:=by assumption
     rw [HG.out,HG.out] at hL
     revert nq
     intro nq1;have hcw2:∀t,t<N→(wr.drewN nq1).cell? ⟨g,q+t,none⟩=some (.int .u32 (G t)):=hcw;have hfw2:∀t,t<N→(wr.drewN nq1).frozen? ⟨g,q+t,none⟩=false:=hfw;have HW2:=Lib.hid (HW.out.drewN nq1)
     clear hcw hfw HW;generalize wr.drewN nq1=wr2 at hcw2 hfw2 HW2 ⊢;go_quiet ((go_at_call 178;exact Calls.quiet_of_same (less_calls _ _ _)))
     go_wp2_with fail
     ·have hS:ltInt (G (F+root)) (G (F+(2*root+2)))=false:=by
       have:(!ltInt (G (F+root)) (G (F+2*root+2)))=true:=by assumption
       rw [←Nat.add_assoc]
       simpa using this
      rw [HG.out,HG.out] at hS
      (try simp only [Exit.inBlock,Exit.then])
      refine bodyPost_ret (results_none rfl _ _ _) rfl ?_;refine ⟨rfl,?_⟩
      rw [←HO.out,sd_two hi F root dk h1 hL,if_neg (by rw [hS];simp)]
      exact HW2.out.drewN _
     ·have hS:ltInt (G (F+root)) (G (F+(2*root+2)))=true:=by
       have:(!ltInt (G (F+root)) (G (F+2*root+2)))=false:=by assumption
       rw [←Nat.add_assoc]
       simpa using this
      rw [HG.out,HG.out] at hS;have hcw3:∀t,t<N→(wr2.drewN nq).cell? ⟨g,q+t,none⟩=some (.int .u32 (G t)):=hcw2;have hfw3:∀t,t<N→(wr2.drewN nq).frozen? ⟨g,q+t,none⟩=false:=hfw2;have HW3:=Lib.hid (HW2.out.drewN nq)
      clear hcw2 hfw2 HW2;generalize wr2.drewN nq=wr3 at hcw3 hfw3 HW3 ⊢;go_region
      all_goals go_wp2_with fail
      go_roundw
      case rel=>
       refine ⟨2*root+2,swp dk (F+root) (F+(2*root+2)),by first|(congr 1;done)|(congr 1;omega),by omega,by rw [size_swp];exact hsk,?_,by rw [←HO.out,sd_two hi F root dk h1 hL,if_pos hS]⟩
       rw [HG.out,HG.out]
       exact HW3.out.drew.swap _ _ (by omega) (by omega)
      case measure=>simp [natOf];omega
    ·have hL:ltInt (G (F+(2*root+1))) (G (F+(2*root+1)+1))=false:=by assumption
     rw [HG.out,HG.out] at hL
     revert nq
     intro nq1;have hcw2:∀t,t<N→(wr.drewN nq1).cell? ⟨g,q+t,none⟩=some (.int .u32 (G t)):=hcw;have hfw2:∀t,t<N→(wr.drewN nq1).frozen? ⟨g,q+t,none⟩=false:=hfw;have HW2:=Lib.hid (HW.out.drewN nq1)
     clear hcw hfw HW;generalize wr.drewN nq1=wr2 at hcw2 hfw2 HW2 ⊢;go_quiet ((go_at_call 178;exact Calls.quiet_of_same (less_calls _ _ _)))
     go_wp2_with fail
     ·have hS:ltInt (G (F+root)) (G (F+(2*root+1)))=false:=by
       have:(!ltInt (G (F+root)) (G (F+2*root+1)))=true:=by assumption
       rw [←Nat.add_assoc]
       simpa using this
      rw [HG.out,HG.out] at hS
      (try simp only [Exit.inBlock,Exit.then])
      refine bodyPost_ret (results_none rfl _ _ _) rfl ?_;refine ⟨rfl,?_⟩
      rw [←HO.out,sd_one hi F root dk (by omega) (Or.inr hL),if_neg (by rw [hS];simp)]
      exact HW2.out.drewN _
     ·have hS:ltInt (G (F+root)) (G (F+(2*root+1)))=true:=by
       have:(!ltInt (G (F+root)) (G (F+2*root+1)))=false:=by assumption
       rw [←Nat.add_assoc]
       simpa using this
      rw [HG.out,HG.out] at hS;have hcw3:∀t,t<N→(wr2.drewN nq).cell? ⟨g,q+t,none⟩=some (.int .u32 (G t)):=hcw2;have hfw3:∀t,t<N→(wr2.drewN nq).frozen? ⟨g,q+t,none⟩=false:=hfw2;have HW3:=Lib.hid (HW2.out.drewN nq)
      clear hcw2 hfw2 HW2;generalize wr2.drewN nq=wr3 at hcw3 hfw3 HW3 ⊢;go_region
      all_goals go_wp2_with fail
      go_roundw
      case rel=>
       refine ⟨2*root+1,swp dk (F+root) (F+(2*root+1)),by first|(congr 1;done)|(congr 1;omega),by omega,by rw [size_swp];exact hsk,?_,by rw [←HO.out,sd_one hi F root dk (by omega) (Or.inr hL),if_pos hS]⟩
       rw [HG.out,HG.out]
       exact HW3.out.drew.swap _ _ (by omega) (by omega)
      case measure=>simp [natOf];omega
   ·have h1z:¬(2*(root:Int)+1+1<(hi:Int)):=by omega
    have h1b:decide (2*(root:Int)+1+1<(hi:Int))=false:=decide_eq_false h1z;go_wp2_with fail;go_quiet ((go_at_call 178;exact Calls.quiet_of_same (less_calls _ _ _)))
    go_wp2_with fail
    revert nq
    intro nq1;have hcw2:∀t,t<N→(wr.drewN nq1).cell? ⟨g,q+t,none⟩=some (.int .u32 (G t)):=hcw;have hfw2:∀t,t<N→(wr.drewN nq1).frozen? ⟨g,q+t,none⟩=false:=hfw;have HW2:=Lib.hid (HW.out.drewN nq1)
    clear hcw hfw HW;generalize wr.drewN nq1=wr2 at hcw2 hfw2 HW2 ⊢;go_quiet ((go_at_call 178;exact Calls.quiet_of_same (less_calls _ _ _)))
    go_wp2_with fail
    ·have hS:ltInt (G (F+root)) (G (F+(2*root+1)))=false:=by
      have:(!ltInt (G (F+root)) (G (F+2*root+1)))=true:=by assumption
      rw [←Nat.add_assoc]
      simpa using this
     rw [HG.out,HG.out] at hS
     (try simp only [Exit.inBlock,Exit.then])
     refine bodyPost_ret (results_none rfl _ _ _) rfl ?_;refine ⟨rfl,?_⟩
     rw [←HO.out,sd_one hi F root dk (by omega) (Or.inl h1),if_neg (by rw [hS];simp)]
     exact HW2.out.drewN _
    ·have hS:ltInt (G (F+root)) (G (F+(2*root+1)))=true:=by
      have:(!ltInt (G (F+root)) (G (F+2*root+1)))=false:=by assumption
      rw [←Nat.add_assoc]
      simpa using this
     rw [HG.out,HG.out] at hS;have hcw3:∀t,t<N→(wr2.drewN nq).cell? ⟨g,q+t,none⟩=some (.int .u32 (G t)):=hcw2;have hfw3:∀t,t<N→(wr2.drewN nq).frozen? ⟨g,q+t,none⟩=false:=hfw2;have HW3:=Lib.hid (HW2.out.drewN nq)
     clear hcw2 hfw2 HW2;generalize wr2.drewN nq=wr3 at hcw3 hfw3 HW3 ⊢;go_region
     all_goals go_wp2_with fail
     go_roundw
     case rel=>
      refine ⟨2*root+1,swp dk (F+root) (F+(2*root+1)),by first|(congr 1;done)|(congr 1;omega),by omega,by rw [size_swp];exact hsk,?_,by rw [←HO.out,sd_one hi F root dk (by omega) (Or.inl h1),if_pos hS]⟩
      rw [HG.out,HG.out]
      exact HW3.out.drew.swap _ _ (by omega) (by omega)
     case measure=>simp [natOf];omega
end Srt
namespace Srt
open Go.RowKit Go.Sort Win Stp Lst
theorem sd_size (hi F root:Nat) (d:Array Int):(siftDown ltInt hi F root d).size=d.size:=siftDown_size hi F _ _ _ (Nat.le_refl _)
theorem rev_go (i j:Nat) (d:Array Int) (h:i<j):reverseLoop i j d=reverseLoop (i+1) (j-1) (swp d i j):=by rw [reverseLoop,if_pos h]
theorem rev_stop (i j:Nat) (d:Array Int) (h:¬i<j):reverseLoop i j d=d:=by rw [reverseLoop,if_neg h]
theorem reverseLoop_size:∀(n i j:Nat) (d:Array Int),j-i≤n→(reverseLoop i j d).size=d.size
 |0,i,j,d,h=>by rw [rev_stop _ _ _ (by omega)]
 |n+1,i,j,d,h=>by
  by_cases h1:i<j
  ·rw [rev_go _ _ _ h1,reverseLoop_size n _ _ _ (by omega),size_swp]
  ·rw [rev_stop _ _ _ h1]
def RevRel (w:World) (g q a b N:Nat) (d:Array Int) (vi vj:Value) (wr:World):Prop:=
 ∃(i j:Nat) (dk:Array Int),vi= .int .i64 i∧vj= .int .i64 j∧i≤N∧j<N∧dk.size=N∧On w g q dk wr∧reverseLoop i j dk=reverseLoop a (b-1) d
set_option maxHeartbeats 4000000 in
set_option maxRecDepth 1000000 in
theorem reverse_calls (g q N cap a b:Nat) (d:Array Int) (w:World) (hN:d.size=N) (hH:On w g q d w) (hab:a<b) (hb:b≤N) (hsz:N<4611686018427387904):
  Calls Tryz.prog 176 #[.slice (some ⟨g,q,none⟩) N cap,.int .i64 a,.int .i64 b] w (Done w g q (reverseRange d a b)):=by
 go_enter Tryz.func176,Tryz.ntmps176;go_wp2_with fail;go_loopw [6,7] (RevRel w g q a b N d) (fun vi vj _=>natOf vj)
 case atStart=>exact ⟨a,b-1,d,rfl,by congr 1;omega,by omega,by omega,hN,hH,rfl⟩
 case round=>
  obtain ⟨i,j,dk,rfl,rfl,hi,hj,hsk,hw2,hO⟩:=hrel;obtain ⟨G,hG⟩:∃G:Nat→Int,∀t,G t=dk[t]! :=⟨fun t=>dk[t]!,fun _=>rfl⟩
  have hcw:∀t,t<N→wr.cell? ⟨g,q+t,none⟩=some (.int .u32 (G t)):=fun t ht=>by rw [hG];exact hw2.cell t (by omega)
  have hfw:∀t,t<N→wr.frozen? ⟨g,q+t,none⟩=false:=fun t ht=>hw2.free t (by omega)
  have HW:=Lib.hid hw2;have HG:=Lib.hid hG;have HO:=Lib.hid hO;clear hw2 hG hO hH
  by_cases h0:i<j
  ·go_wp2_with fail
   go_region
   all_goals go_wp2_with fail
   go_roundw
   case rel=>
    refine ⟨i+1,j-1,swp dk i j,by go_num,by congr 1;omega,by omega,by omega,by rw [size_swp];exact hsk,?_,by rw [←HO.out,rev_go _ _ _ h0]⟩
    rw [HG.out,HG.out]
    exact HW.out.drew.swap _ _ (by omega) (by omega)
   case measure=>simp [natOf];omega
  ·go_wp2_with fail
   go_end0;refine ⟨rfl,?_⟩
   unfold reverseRange;rw [←HO.out,rev_stop _ _ _ h0]
   exact HW.out
def HbRel (w:World) (g q hi F N:Nat) (d:Array Int) (vi:Value) (wr:World):Prop:=
 ∃(k:Nat) (dk:Array Int),vi= .int .i64 ((k:Int)-1)∧k≤hi+1∧dk.size=N∧On w g q dk wr∧heapBuild ltInt hi F k dk=heapBuild ltInt hi F ((hi-1)/2+1) d
def HpRel (w:World) (g q hi F N:Nat) (d:Array Int) (vi:Value) (wr:World):Prop:=
 ∃(k:Nat) (dk:Array Int),vi= .int .i64 ((k:Int)-1)∧k≤hi∧dk.size=N∧On w g q dk wr∧heapPop ltInt F k dk=heapPop ltInt F hi (heapBuild ltInt hi F ((hi-1)/2+1) d)
def upOf:Value→Nat| .int _ z=>(z+1).toNat|_=>0
theorem Done.then {w w1 w2:World} {g q:Nat} {d d1:Array Int} {e:Ending} (h:On w g q d w1) (k:Done w1 g q d1 e w2):Done w g q d1 e w2:=⟨k.1,h.trans k.2⟩
set_option maxHeartbeats 4000000 in
set_option maxRecDepth 1000000 in
theorem heap_calls (g q N cap a b hi:Nat) (d:Array Int) (w:World) (hN:d.size=N) (hH:On w g q d w) (hhi:b=a+hi) (hb:b≤N) (hsz:N<4611686018427387904):
  Calls Tryz.prog 173 #[.slice (some ⟨g,q,none⟩) N cap,.int .i64 a,.int .i64 b] w (Done w g q (heapSort ltInt d a b)):=by
 obtain ⟨m,hm⟩:∃m,m=(hi-1)/2:=⟨_,rfl⟩
 have hq:Int.tdiv ((hi:Int)-1) 2=(m:Int):=by
  subst hm;rcases Nat.eq_zero_or_pos hi with h|h
  ·subst h;rfl
  ·rw [show ((hi:Int)-1)=((hi-1:Nat):Int) by omega];rfl
 have hmh:m+1≤hi+1:=by omega
 have HM:=Lib.hid hm;clear hm;have hd:((b:Int)-a)=(hi:Int):=by omega
 go_enter Tryz.func173,Tryz.ntmps173;go_wp2_with fail;rw [show ((a:Int)+hi-a)=(hi:Int) by omega,hq]
 go_loopw [9] (HbRel w g q hi a N d) (fun vi _=>upOf vi)
 case atStart=>exact ⟨m+1,d,by congr 1;omega,hmh,hN,hH,by rw [←HM.out]⟩
 case round=>
  obtain ⟨k,dk,rfl,hk,hsk,hw2,hO⟩:=hrel;have HW:=Lib.hid hw2;have HO:=Lib.hid hO;have HH:=Lib.hid hhi;clear hw2 hO hH hhi hd hq;have haN:a+hi≤N:=by have:=HH.out;omega
  cases k with
  |zero=>
   rw [show (((0:Nat):Int)-1)= -1 from rfl]
   go_wp2_with fail;go_loopw [10] (HpRel w g q hi a N d) (fun vi _=>upOf vi)
   case atStart=>exact ⟨hi,dk,rfl,Nat.le_refl _,hsk,HW.out,by rw [←HO.out];rfl⟩
   case round=>
    obtain ⟨k,dj,rfl,hk2,hsj,hw3,hP⟩:=hrel;clear HW HO;obtain ⟨G,hG⟩:∃G:Nat→Int,∀t,G t=dj[t]! :=⟨fun t=>dj[t]!,fun _=>rfl⟩
    have hcw:∀t,t<N→wr.cell? ⟨g,q+t,none⟩=some (.int .u32 (G t)):=fun t ht=>by rw [hG];exact hw3.cell t (by omega)
    have hfw:∀t,t<N→wr.frozen? ⟨g,q+t,none⟩=false:=fun t ht=>hw3.free t (by omega)
    have HW:=Lib.hid hw3;have HG:=Lib.hid hG;have HO:=Lib.hid hP;clear hw3 hG hP
    cases k with
    |zero=>
     rw [show (((0:Nat):Int)-1)= -1 from rfl]
     go_wp2_with fail;go_end0;refine ⟨rfl,?_⟩
     unfold heapSort;rw [show b-a=hi by have:=HH.out;omega,←HO.out]
     exact HW.out
    |succ k=>
     rw [show (((k+1:Nat):Int)-1)=(k:Int) by omega]
     go_wp2_with fail
     by_cases hk0:k=0
     ·subst hk0
      rw [show ((0:Nat):Int)=0 from rfl]
      have HS:On w g q (swp dj a (a+0)) (((wr.setCell ⟨g,q+a,none⟩ (.int .u32 (G (a)))).setCell ⟨g,q+(a),none⟩ (.int .u32 (G a))).drew):=by
       rw [HG.out]
       exact (HW.out.swap a (a+0) (by omega) (by omega)).drew
      go_region
      all_goals go_wp2_with (go_at_call 184;refine (sift_calls g q N cap 0 0 a (swp dj a (a+0)) _ (by rw [size_swp];exact hsj) HS.refl (Nat.zero_le _) (by omega) hsz).mono ?_;rintro e1 w1 ⟨rfl,h1⟩)
      go_roundw
      case rel=>
       exact ⟨0,siftDown ltInt 0 a 0 (swp dj a (a+0)),rfl,by omega,by rw [sd_size,size_swp];exact hsj,HS.trans h1,by rw [←HO.out];rfl⟩
      case measure=>simp [upOf]
     ·skip
      have HS:On w g q (swp dj a (a+k)) (((wr.setCell ⟨g,q+a,none⟩ (.int .u32 (G (a+k)))).setCell ⟨g,q+(a+k),none⟩ (.int .u32 (G a))).drew):=by
       rw [HG.out,HG.out]
       exact (HW.out.swap a (a+k) (by omega) (by omega)).drew
      go_region
      all_goals go_wp2_with (go_at_call 184;refine (sift_calls g q N cap 0 k a (swp dj a (a+k)) _ (by rw [size_swp];exact hsj) HS.refl (Nat.zero_le _) (by omega) hsz).mono ?_;rintro e1 w1 ⟨rfl,h1⟩)
      go_roundw
      case rel=>exact ⟨k,siftDown ltInt k a 0 (swp dj a (a+k)),rfl,by omega,by rw [sd_size,size_swp];exact hsj,HS.trans h1,by rw [←HO.out];rfl⟩
      case measure=>simp [upOf]
  |succ k=>
   rw [show (((k+1:Nat):Int)-1)=(k:Int) by omega]
   go_wp2_with (go_at_call 184;refine (sift_calls g q N cap k hi a dk wr hsk HW.out.refl (by omega) haN hsz).mono ?_;rintro e1 w1 ⟨rfl,h1⟩)
   go_roundw
   case rel=>
    exact ⟨k,siftDown ltInt hi a k dk,rfl,by omega,by rw [sd_size];exact hsk,HW.out.trans h1,by rw [←HO.out];rfl⟩
   case measure=>simp [upOf]
end Srt
namespace Srt
open Go.RowKit Go.Sort Win Stp Lst
structure Pv (w:World) (g q:Nat) (d:Array Int) (p s:Nat) (w':World):Prop where
 cell:∀t,t<d.size→w'.cell? ⟨g,q+t,none⟩=some (.int .u32 d[t]!)
 free:∀t,t<d.size→w'.frozen? ⟨g,q+t,none⟩=false
 cnt:w'.cell? ⟨p,0,none⟩=some (.int .i64 s)
 fre:w'.frozen? ⟨p,0,none⟩=false
 ne:p≠g
 chg:Chg (fun i=>i=p) w w'
 typ:Typ g w w'
theorem Pv.refl {w w':World} {g q p s:Nat} {d:Array Int} (h:Pv w g q d p s w'):Pv w' g q d p s w':=⟨h.cell,h.free,h.cnt,h.fre,h.ne,Chg.refl _,Typ.refl _ _⟩
theorem Pv.trans {w w1 w2:World} {g q p s s1:Nat} {d:Array Int} (h:Pv w g q d p s w1) (k:Pv w1 g q d p s1 w2):Pv w g q d p s1 w2:=
 ⟨k.cell,k.free,k.cnt,k.fre,k.ne,h.chg.trans k.chg,h.typ.trans k.typ⟩
theorem Pv.drewN {w w1:World} {g q p s:Nat} {d:Array Int} (h:Pv w g q d p s w1) (n:Nat):Pv w g q d p s (w1.drewN n):=⟨h.cell,h.free,h.cnt,h.fre,h.ne,h.chg.trans (Chg.drewN _ n),h.typ⟩
theorem Pv.set {w w1:World} {g q p s:Nat} {d:Array Int} (h:Pv w g q d p s w1) (s1:Nat):Pv w g q d p s1 (w1.setCell ⟨p,0,none⟩ (.int .i64 s1)):=
 ⟨fun t ht=>by
  rw [World.cell?_setCell_other _ _ _ _ (by intro hh;simp only [Addr.mk.injEq] at hh;exact h.ne hh.1)]
  exact h.cell t ht,fun t ht=>by rw [set_free];exact h.free t ht,World.cell?_setCell_same _ _ _ h.cnt,by rw [set_free];exact h.fre,h.ne,h.chg.trans (Chg.set (S:=fun i=>i=p) w1 rfl 0 _),h.typ.trans (Typ.set _ _ _ _)⟩
def OrdPost (w:World) (g q:Nat) (d:Array Int) (p:Nat) (r:Nat×Nat×Nat) (e:Ending) (w':World):Prop:=
 e= .returned (.tuple #[.int .i64 r.1,.int .i64 r.2.1])∧Pv w g q d p r.2.2 w'
set_option maxHeartbeats 4000000 in
set_option maxRecDepth 1000000 in
theorem order2_calls (g q N cap a b p s:Nat) (d:Array Int) (w:World) (hN:d.size=N) (hH:Pv w g q d p s w) (ha:a<N) (hb:b<N) (hs:s<1000000) (hsz:N<4611686018427387904):
  Calls Tryz.prog 190 #[.slice (some ⟨g,q,none⟩) N cap,.int .i64 a,.int .i64 b,.pointer (some ⟨p,0,none⟩)] w (OrdPost w g q d p (order2 ltInt d a b s)):=by
 obtain ⟨G,hG⟩:∃G:Nat→Int,∀t,G t=d[t]! :=⟨fun t=>d[t]!,fun _=>rfl⟩
 have hcw:∀t,t<N→w.cell? ⟨g,q+t,none⟩=some (.int .u32 (G t)):=fun t ht=>by rw [hG];exact hH.cell t (by omega)
 have hp:=hH.cnt;have hpf:=hH.fre;have HW:=Lib.hid hH;have HG:=Lib.hid hG;clear hG hH;go_enter Tryz.func190,Tryz.ntmps190;go_wp2_with fail;go_quiet ((go_at_call 178;exact Calls.quiet_of_same (less_calls _ _ _)))
 have hp2:(w.drewN nq).cell? ⟨p,0,none⟩=some (.int .i64 s):=hp;have hpf2:(w.drewN nq).frozen? ⟨p,0,none⟩=false:=hpf;go_wp2_with fail
 ·have hl:ltInt (G b) (G a)=true:=by assumption
  rw [HG.out,HG.out] at hl
  (try simp only [Exit.inBlock,Exit.then])
  refine bodyPost_ret (results_tmp2 rfl _ _ _) rfl ?_;refine ⟨?_,?_⟩
  ·unfold order2;rw [if_pos hl];rfl
  ·unfold order2;rw [if_pos hl];exact (HW.out.drewN nq).set (s+1)
 ·have hl:ltInt (G b) (G a)=false:=by assumption
  rw [HG.out,HG.out] at hl
  (try simp only [Exit.inBlock,Exit.then])
  refine bodyPost_ret (results_tmp2 rfl _ _ _) rfl ?_;refine ⟨?_,?_⟩
  ·unfold order2;rw [if_neg (by rw [hl];simp)];rfl
  ·unfold order2;rw [if_neg (by rw [hl];simp)];exact HW.out.drewN nq
theorem order2_le (d:Array Int) (a b s N:Nat) (ha:a<N) (hb:b<N):(order2 ltInt d a b s).1<N∧(order2 ltInt d a b s).2.1<N∧(order2 ltInt d a b s).2.2≤s+1:=by
 unfold order2
 split
 ·exact ⟨hb,ha,Nat.le_refl _⟩
 ·exact ⟨ha,hb,Nat.le_succ _⟩
def MedPost (w:World) (g q:Nat) (d:Array Int) (p:Nat) (r:Nat×Nat) (e:Ending) (w':World):Prop:=
 e= .returned (.int .i64 r.1)∧Pv w g q d p r.2 w'
theorem median_le (d:Array Int) (a b c s N:Nat) (ha:a<N) (hb:b<N) (hc:c<N):(median ltInt d a b c s).1<N∧(median ltInt d a b c s).2≤s+3:=by
 have h1:=order2_le d a b s N ha hb;unfold median;generalize order2 ltInt d a b s=r1 at h1 ⊢;obtain ⟨x1,y1,s1⟩:=r1
 dsimp only at h1 ⊢
 have h2:=order2_le d y1 c s1 N h1.2.1 hc;generalize order2 ltInt d y1 c s1=r2 at h2 ⊢;obtain ⟨x2,y2,s2⟩:=r2
 dsimp only at h2 ⊢
 have h3:=order2_le d x1 x2 s2 N h1.1 h2.1;generalize order2 ltInt d x1 x2 s2=r3 at h3 ⊢;obtain ⟨x3,y3,s3⟩:=r3
 dsimp only at h3 ⊢
 exact ⟨h3.2.1,by omega⟩
set_option maxHeartbeats 4000000 in
set_option maxRecDepth 1000000 in
theorem median_calls (g q N cap a b c p s:Nat) (d:Array Int) (w:World) (hN:d.size=N) (hH:Pv w g q d p s w) (ha:a<N) (hb:b<N) (hc:c<N) (hs:s<900000) (hsz:N<4611686018427387904):
  Calls Tryz.prog 188 #[.slice (some ⟨g,q,none⟩) N cap,.int .i64 a,.int .i64 b,.int .i64 c,.pointer (some ⟨p,0,none⟩)] w (MedPost w g q d p (median ltInt d a b c s)):=by
 have h1:=order2_le d a b s N ha hb;have c1:=order2_calls g q N cap a b p s d w hN hH ha hb (by omega) hsz;unfold median;generalize order2 ltInt d a b s=r1 at h1 c1 ⊢;obtain ⟨x1,y1,s1⟩:=r1
 dsimp only at h1 c1 ⊢
 have h2:=order2_le d y1 c s1 N h1.2.1 hc;have c2:=fun (w1:World) (k:Pv w g q d p s1 w1)=>order2_calls g q N cap y1 c p s1 d w1 hN k.refl h1.2.1 hc (by omega) hsz
 generalize order2 ltInt d y1 c s1=r2 at h2 c2 ⊢;obtain ⟨x2,y2,s2⟩:=r2
 dsimp only at h2 c2 ⊢
 have h3:=order2_le d x1 x2 s2 N h1.1 h2.1;have c3:=fun (w1:World) (k:Pv w g q d p s2 w1)=>order2_calls g q N cap x1 x2 p s2 d w1 hN k.refl h1.1 h2.1 (by omega) hsz
 generalize order2 ltInt d x1 x2 s2=r3 at h3 c3 ⊢;obtain ⟨x3,y3,s3⟩:=r3
 dsimp only at h3 c3 ⊢
 have C1:=Lib.hid c1;have C2:=Lib.hid c2;have C3:=Lib.hid c3;clear c1 c2 c3 hH;go_enter Tryz.func188,Tryz.ntmps188;go_upto_region 2 with (go_at_call 190;refine C1.out.mono ?_;rintro e1 w1 ⟨rfl,k1⟩)
 go_upto_region 3 with (go_at_call 190;refine (C2.out w1 k1).mono ?_;rintro e2 w2 ⟨rfl,k2⟩)
 go_wp2_with (go_at_call 190;refine (C3.out w2 (k1.trans k2)).mono ?_;rintro e3 w3 ⟨rfl,k3⟩)
 go_ret;exact ⟨rfl,(k1.trans k2).trans k3⟩
set_option maxHeartbeats 4000000 in
set_option maxRecDepth 1000000 in
theorem adjacent_calls (g q N cap a p s:Nat) (d:Array Int) (w:World) (hN:d.size=N) (hH:Pv w g q d p s w) (ha:0<a) (hb:a+1<N) (hs:s<900000) (hsz:N<4611686018427387904):
  Calls Tryz.prog 187 #[.slice (some ⟨g,q,none⟩) N cap,.int .i64 a,.pointer (some ⟨p,0,none⟩)] w (MedPost w g q d p (medianAdjacent ltInt d a s)):=by
 have c1:=median_calls g q N cap (a-1) a (a+1) p s d w hN hH (by omega) (by omega) (by omega) hs hsz;rw [show ((a-1:Nat):Int)=(a:Int)-1 by omega,show ((a+1:Nat):Int)=(a:Int)+1 by omega] at c1;unfold medianAdjacent;have C1:=Lib.hid c1;clear c1 hH;go_enter Tryz.func187,Tryz.ntmps187;go_wp2_with (go_at_call 188;refine C1.out.mono ?_;rintro e1 w1 ⟨rfl,k1⟩)
 go_wp2_with fail;go_ret;exact ⟨rfl,k1⟩
end Srt
end Go.Proofs.YtooiooledeblmaaGreat
