/- codec.Decode by UTF-16. The Feed of uni32.Decoder, at bytes that are right. UTF-32's decoder: a byte. codec.Decode by UTF-32. The Feed of mod8.Decoder, at bytes that are right. UTF-EBCDIC's decoder: a byte; a text turned back. UTF-EBCDIC's decoder: a byte. -/
import Derived.Test.YtooiooledeblmaaGreatZ20
set_option linter.unusedVariables false
set_option linter.unusedSimpArgs false
namespace Go.Proofs.YtooiooledeblmaaGreat
namespace Dcd
open Go.RowKit Win Stp Mach Dec Out
theorem u16_keep (r r2:U16) (x:Int) (em:List Int) (hI:u16I r) (h0:0≤x) (h1:x≤255) (hn:u16N r x=some (r2,em)):u16I r2∧em.length≤1:=by
 obtain ⟨i1,i2,i3⟩:=hI;unfold u16N at hn
 split at hn
 ·split at hn
  ·cases hn
  ·simp only [Option.some.injEq,Prod.mk.injEq] at hn
   obtain ⟨rfl,rfl⟩:=hn;exact ⟨⟨h0,h1,i3⟩,by simp⟩
 ·split at hn
  ·cases hn
  ·split at hn
   ·simp only [Option.some.injEq,Prod.mk.injEq] at hn
    obtain ⟨rfl,rfl⟩:=hn;exact ⟨⟨i1,i2,.inl rfl⟩,by simp⟩
   ·split at hn
    ·rename_i hc
     simp only [Option.some.injEq,Prod.mk.injEq] at hn;obtain ⟨rfl,rfl⟩:=hn;exact ⟨⟨i1,i2,.inr hc⟩,by simp⟩
    ·simp only [Option.some.injEq,Prod.mk.injEq] at hn
     obtain ⟨rfl,rfl⟩:=hn;exact ⟨⟨i1,i2,i3⟩,by simp⟩
theorem u16_unit (big:Bool) (f up u:Int) (h0:0≤u) (h1:u≤65535) (hf:fit16 u up):∃f1 y:Int,
  (∀r2 e,u16N ⟨big,true,f1,up⟩ y=some (r2,e)→stepsR u16N ⟨big,false,f,up⟩ (unitB big u)=some (r2,e))∧u16U ⟨big,true,f1,up⟩ y=u:=by
 have key:∀x y:Int,unitB big u=[x,y]→(big=true→fit16 (x*256) up)→∀r2 e,u16N ⟨big,true,x,up⟩ y=some (r2,e)→stepsR u16N ⟨big,false,f,up⟩ (unitB big u)=some (r2,e):=by
  intro x y hu hfx r2 e hn;rw [hu]
  have h1:u16N ⟨big,false,f,up⟩ x=some (⟨big,true,x,up⟩,[]):=by
   unfold u16N;rw [if_pos rfl,if_neg (fun h=>h.2 (hfx h.1))]
  have:=stepsR_one (xs:=[]) (e2:=[]) hn rfl;rw [List.append_nil] at this;exact stepsR_one h1 this
 cases big with
 |true=>exact ⟨u/256,u%256,key _ _ rfl (fun _=>by unfold fit16 at hf ⊢;omega),by unfold u16U;simp only [if_true];omega⟩
 |false=>exact ⟨u%256,u/256,key _ _ rfl (fun h=>by cases h),by unfold u16U;simp only [if_false,Bool.false_eq_true];omega⟩
def u16P (big:Bool) (_:Unit) (r:U16):Prop:=r.big=big∧r.half=false∧r.upper=0
theorem u16_one (big:Bool) (q:Unit) (r:U16) (c:Int) (hp:u16P big q r) (h0:0≤c) (hb:isB c=true):∃r',stepsR u16N r (u16B big q c)=some (r',[c])∧u16P big (unN q c) r':=by
 obtain ⟨b1,b2⟩:=isB_iff.1 hb;obtain ⟨bg,hf,f,up⟩:=r;obtain ⟨p1,p2,p3⟩:=hp
 dsimp only at p1 p2 p3
 subst p1 p2 p3
 show ∃r',stepsR u16N ⟨bg,false,f,0⟩ (uni16B bg c)=some (r',[c])∧u16P bg (unN q c) r'
 unfold uni16B
 split
 ·obtain ⟨f1,y,e4,e5⟩:=u16_unit bg f 0 c h0 (by omega) (by unfold fit16;omega)
  refine ⟨⟨bg,false,f1,0⟩,e4 _ _ ?_,rfl,rfl,rfl⟩
  unfold u16N;simp only;rw [if_neg Bool.noConfusion,e5,if_neg (fun h=>h (by unfold fit16;omega)),if_neg (fun h=>h rfl),if_neg (by omega)]
 ·obtain ⟨f1,y,e4,e5⟩:=u16_unit bg f 0 (55296+(c-65536)/1024) (by omega) (by omega) (by unfold fit16;omega)
  have s1:=e4 ⟨bg,false,f1,55296+(c-65536)/1024⟩ [] (by
   unfold u16N;simp only;rw [if_neg Bool.noConfusion,e5,if_neg (fun h=>h (by unfold fit16;omega)),if_neg (fun h=>h rfl),if_pos (by omega)])
  obtain ⟨f2,y2,d4,d5⟩:=u16_unit bg f1 (55296+(c-65536)/1024) (56320+(c-65536)%1024) (by omega) (by omega) (by unfold fit16;omega)
  have s2:=d4 ⟨bg,false,f2,0⟩ [c] (by
   unfold u16N;simp only;rw [if_neg Bool.noConfusion,d5,if_neg (fun h=>h (by unfold fit16;omega)),if_pos (by omega)]
   simp only [Option.some.injEq,Prod.mk.injEq,List.cons.injEq,and_true,true_and]
   omega)
  exact ⟨_,stepsR_app _ _ _ _ _ [] [c] s1 s2,rfl,rfl,rfl⟩
theorem u16_rng (big:Bool) (q:Unit) (c:Int) (_:True) (h0:0≤c) (hb:isB c=true):(∀x∈u16B big q c,0≤x∧x≤255)∧True:=by
 obtain ⟨b1,b2⟩:=isB_iff.1 hb;refine ⟨?_,trivial⟩
 show ∀x∈uni16B big c,0≤x∧x≤255
 unfold uni16B unitB;intro x hx
 (repeat' split at hx) <;>simp only [List.mem_append,List.mem_cons,List.not_mem_nil,or_false] at hx <;>omega
theorem dend16 {w:World} {g:Nat} {b:B4} {r:U16} (hr:r.half=false) (hu:r.upper=0) (h:InAt 196 w g 0 nilS b [] (u16R r)) (hb:b.going=true):
  Calls Tryz.prog 236 #[.pointer (some ⟨g,0,none⟩)] w fun e w'=>e= .returned (.tuple #[])∧InAt 196 w' g 0 nilS {b with fin:=true} [] (u16R r)∧Chg (IS g nilS) w w':=by
 have h6:w.cell? ⟨g,6,none⟩=some (.bool r.half):=h.cell 1;have h8:w.cell? ⟨g,8,none⟩=some (.int .u32 r.upper):=h.cell 3;rw [hr] at h6;rw [hu] at h8;have HE:=Lib.hid (bend_in h hb)
 clear h hb hr hu;go_enter Tryz.func236,Tryz.ntmps236;go_wp2_with fail;refine HE.out.mono ?_;rintro e w1 ⟨rfl,hd,hc⟩
 have HD:=Lib.hid hd;have HC:=Lib.hid hc;clear hd hc;go_wp2_with fail;go_end0;exact ⟨rfl,HD.out,HC.out⟩
theorem mkd16 (v:Value) (w:World):(Instr.makeInterface 128 v).run Tryz.prog w= .ok (.iface 128 v) w:=run_makeInterface w 128 v (by kernel_rfl)
theorem dnew16 (big:Bool) (w:World):Calls Tryz.prog 71 #[.bool big] w fun e w'=>e= .returned (.pointer (some ⟨w.heap.size,0,none⟩))∧InAt 196 w' w.heap.size 0 nilS Dec.b40 [] (u16R ⟨big,false,0,0⟩)∧Below w.heap.size w w':=by
 go_enter Tryz.func71,Tryz.ntmps71;go_wp2;go_ret;exact ⟨rfl,⟨heap_alloc_new _ _,World.ownsRow_nil _ _ _ _,fun _=>rfl,Nat.zero_le _,by decide⟩,(Below.refl _ _).alloc (Nat.le_refl _) _⟩
theorem disp16:Disp 128 237 236:=
 ⟨fun _ _=>by kernel_rfl,fun _ _=>by kernel_rfl,fun _ _=>by kernel_rfl,fun _ _=>by kernel_rfl,fun _ _ _ _=>by kernel_rfl,fun _ _=>by kernel_rfl⟩
section
attribute [local go_sem] mkd16
theorem newG_16 {big:Bool} {c:Int} (hc:(c=2∧big=true)∨(c=3∧big=false)) {s:ByteArray} {out:List Int} {rE:U16} (hs:s.size≤4000) (hst:stepsR u16N ⟨big,false,0,0⟩ (byt s)=some (rE,out)) (hE:rE.half=false∧rE.upper=0) (w:World):
  Calls Tryz.prog 37 #[.int .i64 c] w (NewG 128 237 236 s out [] w):=by
 rcases hc with ⟨rfl,rfl⟩|⟨rfl,rfl⟩
 all_goals
  go_enter Tryz.func37,Tryz.ntmps37;go_wp2_with fail;refine (dnew16 _ _).mono ?_;rintro e w1 ⟨rfl,hd,hb⟩
  go_wp2_with fail;go_ret2;exact ⟨w.heap.size,IS w.heap.size nilS,fun i hi=>is_lt (Nat.le_refl _) hd.lt hi,Nat.le_refl _,hd.lt,rfl,hb,
   rdy_in hd (fun wy hy=>dfeed_uni16 s 4096 hy (I:=u16I) (by unfold u16I;simp) (fun r r2 x em w rb v b l hI hh x0 x1 hl hn=>next16_calls x hh hI x0 x1 hl hn) (fun r r2 x em hI x0 x1 hn=>u16_keep r r2 x em hI x0 x1 hn) hst hs rfl) (fun w b hh hb=>dend16 hE.1 hE.2 hh hb)⟩
end
theorem decode_16 {big:Bool} {c:Int} (hc:(c=2∧big=true)∨(c=3∧big=false)) {l:List Int} (hl:l.length≤400) (hs:∀x∈l,0≤x∧isB x=true) (w:World):Calls Tryz.prog 18 #[.int .i64 c,.string (strOfNums (encS c l))] w (DecG w l):=by
 have hrn:=told_rng (I:=fun _:Unit=>True) (M:=unN) (u16_rng big) l () trivial hs;have hlen:=told_len unN (fun _ c=>uni16B_len big c) l ()
 obtain ⟨rE,h1,h2⟩:=stepsR_told (M:=unN) (P:=u16P big) (u16_one big) l () ⟨big,false,0,0⟩ ⟨rfl,rfl,rfl⟩ hs;have he:encS c l=told (u16B big) unN () l:=by rcases hc with ⟨rfl,rfl⟩|⟨rfl,rfl⟩ <;>rfl
 rw [he]
 have hsz:=str_size (told (u16B big) unN () l)
 have h:=decode_any (w:=w) disp16 (newG_16 hc (s:=strOfNums (told (u16B big) unN () l)) (out:=l) (by rw [hsz];exact Nat.le_trans hlen (by omega)) (by rw [byt_nums hrn];exact h1) ⟨h2.2.1,h2.2.2⟩) (by omega) (by simp) (by rw [hsz];exact Nat.le_trans hlen (by omega))
 rwa [List.append_nil] at h
end Dcd
namespace Dcd
open Go.RowKit Win Stp Mach Dec Go.Proofs.YtooiooledeblmaaGreatW.PrintMore
set_option maxRecDepth 100000 in
set_option maxHeartbeats 8000000 in
theorem dfeed_uni32 {T:TypeId} {R:Type} {rest:R→List Value} {N:R→Int→Option (R×List Int)} {I:R→Prop} {r0 rE:R} {oE:List Int} {w:World} {g:Nat} (s:ByteArray) (room:Int) (h:InAt T w g 0 nilS b40 [] (rest r0)) (hI:I r0)
  (hnx:∀(r r2:R) (x:Int) (em:List Int) (w:World) (rb:Nat) (v:Value) (b:B4) (l:List Int),I r→InAt T w g rb v b l (rest r)→0≤x→x≤255→l.length≤100000→N r x=some (r2,em)→
   Calls Tryz.prog 242 #[.pointer (some ⟨g,0,none⟩),.int .u8 x] w (NextPost T rest g rb v b l w r2 em))
  (hIN:∀(r r2:R) (x:Int) (em:List Int),I r→0≤x→x≤255→N r x=some (r2,em)→I r2∧em.length≤1)
  (hst:stepsR N r0 (byt s)=some (rE,oE)) (hs:s.size≤4000) (hr:room=4096):
  Calls Tryz.prog 241 #[.pointer (some ⟨g,0,none⟩),.string s,.int .i64 room] w (InFed T rest g s.size rE oE w):=by
 have hrm:4096≤room:=by omega
 clear hr;have H:=Lib.hid h;have HI:=Lib.hid hI;have HNx:=Lib.hid hnx;have HIN:=Lib.hid hIN;have HST:=Lib.hid hst;clear h hI hnx hIN hst;go_enter Tryz.func241,Tryz.ntmps241;go_upto_block 0 with fail;go_cut [8] (fun i wx=>InMid T rest g s.size rE oE w i wx∧oE.length≤4000)
 case first=>
  go_wp2_with fail;go_loopw [8] (fun i wr=>InRel T rest N I g s rE oE w i wr) (fun i _=>s.size-(intOf i).toNat)
  case atStart=>
   exact ⟨0,nilS,r0,[],oE,Nat.zero_le _,rfl,H.out.rebase w.heap.size (Nat.le_refl _),HI.out,Chg.refl _,HST.out,rfl,Nat.zero_le _⟩
  case round=>
   obtain ⟨k,v,r,o,o2,hk,rfl,hd,hi,hc,hst,hoe,hol⟩:=hrel;have HD:=Lib.hid hd;have HI':=Lib.hid hi;have HC:=Lib.hid hc;have HST':=Lib.hid hst;have HOe:=Lib.hid hoe;obtain ⟨A,c0,hv⟩:∃A c,v= .slice A o.length c:=by
    rcases hd.row.2 with ⟨h1,h2⟩|⟨g',cap,cur,h1,_⟩
    ·exact ⟨none,0,by rw [h1,h2]⟩
    ·exact ⟨_,_,h1⟩
   have h4:=hd.c4;rw [hv] at h4;have HV:=Lib.hid hv;have hheld:=held_calls g 4 A o.length c0 wr h4;have HH:=Lib.hid hheld;have hgoing:=going_calls g _ wr hd.base;have hge:({b40 with at_:=(k:Int)}:B4).going=true:=rfl;rw [hge] at hgoing;have HGg:=Lib.hid hgoing;clear hd hi hc hst hoe hv h4 hheld hge hgoing
   by_cases hlt:k<s.size
   ·have hdc:(byt s).drop k=(s[k].toNat:Int)::(byt s).drop (k+1):=by
     rw [List.drop_eq_getElem_cons (by rw [byt_length];exact hlt)]
     have:=byt_at s k hlt;rw [List.getD_eq_getElem?_getD,List.getElem?_eq_getElem (by rw [byt_length];exact hlt)] at this;rw [←this];rfl
    have hst2:=HST'.out;rw [hdc] at hst2;obtain ⟨r2,em,e2,q1,q2,q3⟩:=stepsR_cons hst2;obtain ⟨hi2,hem⟩:=HIN.out r r2 _ em HI'.out (by omega) (by have:=s[k].toNat_lt;omega) q1;have HN:=Lib.hid (HNx.out r r2 (s[k].toNat:Int) em wr w.heap.size v _ o HI'.out HD.out (by omega) (by have:=s[k].toNat_lt;omega) (by omega) q1)
    have HQ:=Lib.hid (And.intro q2 q3)
    have HI2:=Lib.hid hi2;clear hdc hst2 q1 q2 q3 hi2;have hrm2:(o.length:Int)<room:=by omega
    go_wp2_with fail;refine HH.out.mono ?_;rintro e w1 ⟨rfl,rfl⟩
    go_wp2_with fail;refine HGg.out.mono ?_;rintro e w1 ⟨rfl,rfl⟩
    go_wp2_with fail;refine HN.out.mono ?_;rintro e w2 ⟨rfl,v2,hd2,hc2⟩
    have heat:=eat_calls g _ 1 w2 hd2.base rfl (by decide) (by decide) (show (0:Int)≤(k:Int) by omega) (show (k:Int)≤1000000000 by omega)
    have HEt:=Lib.hid heat;have HD2:=Lib.hid hd2;have HC2:=Lib.hid hc2;clear heat hd2 hc2;go_wp2_with fail;refine HEt.out.mono ?_;rintro e w3 ⟨rfl,rfl⟩
    go_wp2_with fail;go_roundw
    case rel=>
     refine ⟨k+1,v2,r2,o++em,e2,by omega,by go_num,?_,HI2.out,?_,HQ.out.1,?_,?_⟩
     ·have:=HD2.out.set 0 (.int .i64 ((k:Int)+1)) (b':={b40 with at_:=((k+1:Nat):Int)}) (rs':=rest r2) (by simp [inCells])
      exact this
     ·exact chg_then HC.out (HC2.out.trans (is_g 0 _)) (fun i hi hh=>is_new HD.out.row hi hh)
     ·rw [HOe.out,HQ.out.2,List.append_assoc]
     ·rw [List.length_append];omega
    case measure=>simp [intOf];omega
   ·obtain rfl:k=s.size:=by omega
    clear hlt;have hdn:(byt s).drop s.size=[]:=by rw [←byt_length,List.drop_length]
    have hst2:=HST'.out;rw [hdn] at hst2;simp only [stepsR,Option.some.injEq,Prod.mk.injEq] at hst2;obtain ⟨rfl,rfl⟩:=hst2;have ho:=HOe.out;rw [List.append_nil] at ho;subst ho;clear hdn;go_wp2_with fail;go_meet;exact ⟨⟨v,rfl,HD.out,HC.out⟩,by omega⟩
 case rest=>
  obtain ⟨⟨v,rfl,hd,hc⟩,hol⟩:=hcut;have HD:=Lib.hid hd;have HC:=Lib.hid hc;have h4:=hd.c4;have f4:=hd.fz 4;have hnil:=hd.nil
  by_cases ho:oE=[]
  ·have hvn:=hnil ho
   rw [hvn] at h4;have ht:=tell_none g 4 room wc h4 f4;have HT:=Lib.hid ht;have HO:=Lib.hid ho;clear hd hc h4 f4 hnil ho hvn ht;go_wp2_with fail;refine HT.out.mono ?_;rintro e w1 ⟨rfl,rfl⟩
   go_wp2_with fail;go_ret2;obtain rfl:=HO.out;exact ⟨none,0,rfl,HD.out.told (Below.refl _ _) nilS,chg_then HC.out ((is_g (v:=nilS) 4 _).trans (is_g 4 _)) (fun i _ hi=>hi),World.ownsRow_nil _ _ _ _⟩
  ·have hpos:0<oE.length:=by
    rcases Nat.eq_zero_or_pos oE.length with h|h
    ·exact absurd (List.eq_nil_of_length_eq_zero h) ho
    ·exact h
   obtain ⟨r,c,hv,_,_⟩:=hd.row.form hpos;have hrow:=hd.row;have hrg:=hd.row_g;rw [hv] at h4 hrow hrg;have hne:r≠g:=fun e=>hrg (by rw [e];rfl)
   have ht:=tell_all g 4 r w.heap.size c oE room wc h4 f4 hrow hne hpos (by omega) (by omega)
   have HT:=Lib.hid ht;clear hd hc h4 f4 hnil ho hv ht hrow hrg hne;go_wp2_with fail;refine HT.out.mono ?_;rintro e w1 ⟨r1,c1,w2,v1,rfl,rfl,hown,hb⟩
   have HOW:=Lib.hid hown;have HB:=Lib.hid hb;clear hown hb;go_wp2_with fail;go_ret2;have hlt:=HOW.out.lt r1 rfl;have hgl:=HD.out.lt;refine ⟨some ⟨r1,0,none⟩,c1,rfl,HD.out.told HB.out v1,?_,?_⟩
   ·exact chg_then HC.out (((Chg.of_below HB.out).trans (is_g (v:=nilS) 4 _)).trans (is_g 4 _)) (fun i _ hi=>hi)
   ·have h1:=own_weaken HOW.out HC.out.size
    refine h1.kept (w':=_) (row:=some g) ⟨rfl,rfl,rfl,by simp [World.setCell],fun q hq hn=>?_⟩ (.inr (by simp [Value.ownBlock];omega))
    exact (Below.heap_setCell _ _ _ q (fun e=>hn (by rw [e]))).trans (Below.heap_setCell _ _ _ q (fun e=>hn (by rw [e])))
end Dcd
namespace Dcd
open Go.RowKit Win Stp Mach Dec Out Go.Proofs.YtooiooledeblmaaGreatW.PrintMore
structure U32 where
 big:Bool
 have_:Nat
 c:Int
def u32R (r:U32):List Value:=[.bool r.big,.int .i64 (r.have_:Nat),.int .u32 r.c]
def u32C (r:U32) (x:Int):Int:=if r.big=true then r.c*256+x else r.c+x*256^r.have_
def fit32 (big:Bool) (h:Nat) (c:Int):Prop:=if h=3 then isB c=true else if big=true then (if h=0 then c=0 else if h=1 then c≤16 else isB (c*256)=true) else h=2→isB c=true
instance (big:Bool) (h:Nat) (c:Int):Decidable (fit32 big h c):=by unfold fit32;infer_instance
def u32N (r:U32) (x:Int):Option (U32×List Int):=
 if ¬fit32 r.big r.have_ (u32C r x) then none else if r.have_=3 then some (⟨r.big,0,0⟩,[u32C r x]) else some (⟨r.big,r.have_+1,u32C r x⟩,[])
def u32I (r:U32):Prop:=r.have_≤3∧0≤r.c∧r.c<256^r.have_
theorem u32C_in {r:U32} {x:Int} (hI:u32I r) (h0:0≤x) (h1:x≤255):0≤u32C r x∧u32C r x<256^(r.have_+1)∧u32C r x≤4294967295:=by
 obtain ⟨i1,i2,i3⟩:=hI;obtain ⟨big,h,c⟩:=r
 dsimp only at i1 i2 i3
 have hh:h=0∨h=1∨h=2∨h=3:=by omega
 unfold u32C
 dsimp only
 rcases hh with rfl|rfl|rfl|rfl <;>cases big <;>simp at i3 ⊢<;>omega
set_option maxHeartbeats 2000000 in
theorem fits32_calls {w:World} {g h:Nat} {big:Bool} (u:Int) (hb:w.cell? ⟨g,5,none⟩=some (.bool big)) (hh:w.cell? ⟨g,6,none⟩=some (.int .i64 (h:Nat))) (h3:h≤3) (hu0:0≤u) (hu1:u<256^(h+1)) (hf:fit32 big h u):
  Calls Tryz.prog 243 #[.pointer (some ⟨g,0,none⟩),.int .u32 u] w fun e w'=>e= .returned (.bool true)∧w=w':=by
 have hk:(h=3)∨(h=0∧big=true)∨(h=1∧big=true)∨(h=2∧big=true)∨(h=2∧big=false)∨(h=0∧big=false)∨(h=1∧big=false):=by
  cases big <;>simp <;>omega
 rcases hk with rfl|⟨rfl,rfl⟩|⟨rfl,rfl⟩|⟨rfl,rfl⟩|⟨rfl,rfl⟩|⟨rfl,rfl⟩|⟨rfl,rfl⟩
 ·have hf2:isB u=true:=by unfold fit32 at hf;rwa [if_pos rfl] at hf
  have hs:=sis_calls (u)
  rw [hf2] at hs;have HS:=Lib.hid hs;clear hs hf2 hf h3;go_enter Tryz.func243,Tryz.ntmps243;go_wp2_with fail;refine (HS.out _).mono ?_;rintro e w1 ⟨rfl,rfl⟩
  go_wp2_with fail;go_ret;exact ⟨rfl,rfl⟩
 ·obtain rfl:u=0:=by unfold fit32 at hf;simpa using hf
  clear hf h3 hu1;go_enter Tryz.func243,Tryz.ntmps243;go_wp2_with fail;go_ret;exact ⟨rfl,rfl⟩
 ·have hf2:u≤16:=by unfold fit32 at hf;simpa using hf
  clear hf h3 hu1;go_enter Tryz.func243,Tryz.ntmps243;go_wp2_with fail;go_ret;exact ⟨rfl,rfl⟩
 ·have hu2:u<16777216:=by simpa using hu1
  have w1:IntKind.u32.wrap (u*256)=u*256:=by rw [IntKind.wrap_u32];omega
  have hf2:isB (u*256)=true:=by unfold fit32 at hf;simpa using hf
  have hs:=sis_calls (u*256)
  rw [hf2] at hs;have HS:=Lib.hid hs;clear hs hf2 hf h3 hu1;go_enter Tryz.func243,Tryz.ntmps243;go_wp2_with fail;refine (HS.out _).mono ?_;rintro e w1 ⟨rfl,rfl⟩
  go_wp2_with fail;go_ret;exact ⟨rfl,rfl⟩
 ·have hf2:isB u=true:=by unfold fit32 at hf;simpa using hf
  have hs:=sis_calls (u)
  rw [hf2] at hs;have HS:=Lib.hid hs;clear hs hf2 hf h3;go_enter Tryz.func243,Tryz.ntmps243;go_wp2_with fail;refine (HS.out _).mono ?_;rintro e w1 ⟨rfl,rfl⟩
  go_wp2_with fail;go_ret;exact ⟨rfl,rfl⟩
 ·clear hf h3 hu1
  go_enter Tryz.func243,Tryz.ntmps243;go_wp2_with fail;go_ret;exact ⟨rfl,rfl⟩
 ·clear hf h3 hu1
  go_enter Tryz.func243,Tryz.ntmps243;go_wp2_with fail;go_ret;exact ⟨rfl,rfl⟩
theorem u32_or (c x:Int) (h0:0≤x) (h1:x≤255) (c0:0≤c) (c1:c<16777216):bits .or .u32 (c*256) x=c*256+x:=
 bits_join .u32 32 (by decide) wraps_u32 8 _ _ (by omega) (by omega) (by omega) (by omega) (by omega) (by omega)
set_option maxHeartbeats 8000000 in
theorem next32_calls {w:World} {g rb:Nat} {v:Value} {b:B4} {l:List Int} {r r2:U32} {em:List Int} (x:Int) (h:InAt 198 w g rb v b l (u32R r)) (hI:u32I r) (h0:0≤x) (h1:x≤255) (hl:l.length≤100000) (hn:u32N r x=some (r2,em)):
  Calls Tryz.prog 242 #[.pointer (some ⟨g,0,none⟩),.int .u8 x] w (NextPost 198 u32R g rb v b l w r2 em):=by
 obtain ⟨big,k,c⟩:=r;have h5:w.cell? ⟨g,5,none⟩=some (.bool big):=h.cell 0;have h6:w.cell? ⟨g,6,none⟩=some (.int .i64 (k:Nat)):=h.cell 1;have h7:w.cell? ⟨g,7,none⟩=some (.int .u32 c):=h.cell 2;have f6:=h.fz 6;have f7:=h.fz 7;have hC:=u32C_in hI h0 h1;obtain ⟨i1,i2,i3⟩:=hI
 dsimp only at i1 i2 i3
 have hc24:c<16777216:=by
  have hk:k=0∨k=1∨k=2∨k=3:=by omega
  rcases hk with rfl|rfl|rfl|rfl <;>simp at i3 <;>omega
 have oB:=u32_or c x h0 h1 i2 hc24;have wB:IntKind.u32.wrap (c*256)=c*256:=by rw [IntKind.wrap_u32];omega
 unfold u32N at hn
 dsimp only at hn
 obtain ⟨C,hCe⟩:∃C,C=u32C ⟨big,k,c⟩ x:=⟨_,rfl⟩
 rw [←hCe] at hn hC;unfold u32C at hCe
 dsimp only at hCe
 obtain ⟨hC0,hC1,hC2⟩:=hC
 dsimp only at hC1
 split at hn
 ·cases hn
 rename_i hq;have hf:fit32 big k C:=Classical.not_not.1 hq;have HF:=Lib.hid (fun (wy:World) (q:wy.cell? ⟨g,5,none⟩=some (.bool big)) (q2:wy.cell? ⟨g,6,none⟩=some (.int .i64 (k:Nat)))=>fits32_calls C q q2 i1 hC0 hC1 hf)
 have H:=Lib.hid h;have hD:∀n,InAt 198 (((w.drewN n).setCell ⟨g,7,none⟩ (.int .u32 C)).setCell ⟨g,6,none⟩ (.int .i64 ((k:Int)+1))) g rb v b l (u32R ⟨big,k+1,C⟩):=fun n=>(((h.drewN n).setR 2 (.int .u32 C)).setR 1 (.int .i64 ((k:Int)+1)))
 have hCg:∀n,Chg (IS g v) w (((w.drewN n).setCell ⟨g,7,none⟩ (.int .u32 C)).setCell ⟨g,6,none⟩ (.int .i64 ((k:Int)+1))):=fun n=>((Chg.drewN w n).trans (is_g 7 (.int .u32 C))).trans (is_g 6 (.int .i64 ((k:Int)+1)))
 have HD:=Lib.hid hD;have HCg:=Lib.hid hCg;clear hD hCg;clear hq hf h hC1
 by_cases h3:k=3
 ·subst h3
  rw [if_pos rfl] at hn;simp only [Option.some.injEq,Prod.mk.injEq] at hn;obtain ⟨rfl,rfl⟩:=hn;have HW3:=Lib.hid (fun n=>show ∃w3,((w.drewN n).setCell ⟨g,7,none⟩ (.int .u32 C)).setCell ⟨g,6,none⟩ (.int .i64 4)=w3∧InAt 198 w3 g rb v b l (u32R ⟨big,4,C⟩)∧Chg (IS g v) w w3 from ⟨_,rfl,HD.out n,HCg.out n⟩)
  clear i3;have hor:(big=true∧bits .or .u32 (c*256) x=C)∨(big=false∧bits .or .u32 c (x*16777216)=C):=by
   cases big with
   |true=>exact .inl ⟨rfl,by rw [oB,hCe];rfl⟩
   |false=>
    refine .inr ⟨rfl,?_⟩
    rw [bits_join_low .u32 32 (by decide) wraps_u32 24 _ _ (by omega) (by omega) (by omega) (by omega) (by omega) (by omega),hCe]
    simp
  have wS:IntKind.u32.wrap (x*16777216)=x*16777216:=by rw [IntKind.wrap_u32];omega
  clear hCe;rcases hor with ⟨rfl,o1⟩|⟨rfl,o1⟩
  ·clear oB
   go_enter Tryz.func242,Tryz.ntmps242;go_wp2_with fail;refine (HF.out w h5 h6).mono ?_;rintro e w2 ⟨rfl,rfl⟩
   go_upto_region 9 with fail;obtain ⟨w3,e3,HD,HCg⟩:=HW3.out 0;rw [show w.drewN 0=w from rfl] at e3;rw [e3]
   have ha:=HD.alloc (.cells #[.int .u32 C] 31)
   have hh:=hold_calls g 4 rb v l C w3.heap.size (w3.alloc (.cells #[.int .u32 C] 31)) ha.c4 (ha.fz 4) ha.row ha.rbl ha.row_g (by rw [cell_of (heap_alloc_new _ _)];rfl) (by omega)
   have HA:=Lib.hid ha;have HH:=Lib.hid hh;have HCh:=Lib.hid HCg;clear ha hh e3 HD HCg;go_wp2_with fail;refine HH.out.mono ?_;rintro e w' ⟨rfl,r',c',w4,rfl,hown,hg,hat,hr⟩
   obtain ⟨hd,hc⟩:=HA.out.hold C hown hg hr;have c6:World.cell? (w4.setCell ⟨g,4,none⟩ (.slice (some ⟨r',0,none⟩) (l.length+1) c')) ⟨g,6,none⟩=_:=hd.cell 1;have c7:World.cell? (w4.setCell ⟨g,4,none⟩ (.slice (some ⟨r',0,none⟩) (l.length+1) c')) ⟨g,7,none⟩=_:=hd.cell 2;have g6:=hd.fz 6;have g7:=hd.fz 7;have HD2:=Lib.hid hd;have HC2:=Lib.hid hc;clear hd hc hown hg hat hr;go_wp2_with fail;go_ret;exact ⟨rfl,_,(HD2.out.setR 1 (.int .i64 0)).setR 2 (.int .u32 0),(((HCh.out.trans (Chg.alloc _ _)).trans HC2.out).trans (is_g 6 _)).trans (is_g 7 _)⟩
  ·go_enter Tryz.func242,Tryz.ntmps242
   go_wp2_with fail;go_quiet (fail)
   go_wp2_with fail;refine (HF.out (w.drewN nq) h5 h6).mono ?_;rintro e w2 ⟨rfl,rfl⟩
   go_upto_region 9 with fail;obtain ⟨w3,e3,HD,HCg⟩:=HW3.out nq;rw [e3]
   have ha:=HD.alloc (.cells #[.int .u32 C] 31)
   have hh:=hold_calls g 4 rb v l C w3.heap.size (w3.alloc (.cells #[.int .u32 C] 31)) ha.c4 (ha.fz 4) ha.row ha.rbl ha.row_g (by rw [cell_of (heap_alloc_new _ _)];rfl) (by omega)
   have HA:=Lib.hid ha;have HH:=Lib.hid hh;have HCh:=Lib.hid HCg;clear ha hh e3 HD HCg;go_wp2_with fail;refine HH.out.mono ?_;rintro e w' ⟨rfl,r',c',w4,rfl,hown,hg,hat,hr⟩
   obtain ⟨hd,hc⟩:=HA.out.hold C hown hg hr;have c6:World.cell? (w4.setCell ⟨g,4,none⟩ (.slice (some ⟨r',0,none⟩) (l.length+1) c')) ⟨g,6,none⟩=_:=hd.cell 1;have c7:World.cell? (w4.setCell ⟨g,4,none⟩ (.slice (some ⟨r',0,none⟩) (l.length+1) c')) ⟨g,7,none⟩=_:=hd.cell 2;have g6:=hd.fz 6;have g7:=hd.fz 7;have HD2:=Lib.hid hd;have HC2:=Lib.hid hc;clear hd hc hown hg hat hr;go_wp2_with fail;go_ret;exact ⟨rfl,_,(HD2.out.setR 1 (.int .i64 0)).setR 2 (.int .u32 0),(((HCh.out.trans (Chg.alloc _ _)).trans HC2.out).trans (is_g 6 _)).trans (is_g 7 _)⟩
 ·rw [if_neg h3] at hn
  simp only [Option.some.injEq,Prod.mk.injEq] at hn;obtain ⟨rfl,rfl⟩:=hn;have hk:k=0∨k=1∨k=2:=by omega
  have w8:IntKind.u32.wrap (x*256)=x*256:=by rw [IntKind.wrap_u32];omega
  have w16:IntKind.u32.wrap (x*65536)=x*65536:=by rw [IntKind.wrap_u32];omega
  have hor:big=true∧bits .or .u32 (c*256) x=C∨big=false∧(k=0∧bits .or .u32 c x=C∨k=1∧bits .or .u32 c (x*256)=C∨k=2∧bits .or .u32 c (x*65536)=C):=by
   cases big with
   |true=>exact .inl ⟨rfl,by rw [oB,hCe];rfl⟩
   |false=>
    refine .inr ⟨rfl,?_⟩
    rcases hk with rfl|rfl|rfl
    ·refine .inl ⟨rfl,?_⟩
     obtain rfl:c=0:=by simp at i3;omega
     have:=bits_join .u32 32 (by decide) wraps_u32 8 0 x (by omega) (by omega) (by omega) (by omega) (by omega) (by omega)
     rw [this,hCe]
     simp
    ·refine .inr (.inl ⟨rfl,?_⟩)
     rw [bits_join_low .u32 32 (by decide) wraps_u32 8 _ _ (by omega) (by omega) (by omega) (by omega) (by omega) (by omega),hCe]
     simp
    ·refine .inr (.inr ⟨rfl,?_⟩)
     rw [bits_join_low .u32 32 (by decide) wraps_u32 16 _ _ (by omega) (by omega) (by omega) (by omega) (by omega) (by omega),hCe]
     simp
  clear hCe i3;rcases hor with ⟨rfl,o1⟩|⟨rfl,⟨rfl,o1⟩|⟨rfl,o1⟩|⟨rfl,o1⟩⟩
  ·have hk3:¬((k:Int)+1=4):=by omega
   clear oB;go_enter Tryz.func242,Tryz.ntmps242;go_wp2_with fail;refine (HF.out w h5 h6).mono ?_;rintro e w2 ⟨rfl,rfl⟩
   go_wp2_with fail;go_ret;exact ⟨rfl,v,by rw [List.append_nil];exact HD.out 0,HCg.out 0⟩
  all_goals
   go_enter Tryz.func242,Tryz.ntmps242;go_wp2_with fail;go_quiet (fail)
   go_wp2_with fail;refine (HF.out (w.drewN nq) h5 h6).mono ?_;rintro e w2 ⟨rfl,rfl⟩
   go_wp2_with fail;go_ret;exact ⟨rfl,v,by rw [List.append_nil];exact HD.out nq,HCg.out nq⟩
end Dcd
namespace Dcd
open Go.RowKit Win Stp Mach Dec Out
theorem u32_keep (r r2:U32) (x:Int) (em:List Int) (hI:u32I r) (h0:0≤x) (h1:x≤255) (hn:u32N r x=some (r2,em)):u32I r2∧em.length≤1:=by
 have hC:=u32C_in hI h0 h1;unfold u32N at hn
 split at hn
 ·cases hn
 ·split at hn
  ·simp only [Option.some.injEq,Prod.mk.injEq] at hn
   obtain ⟨rfl,rfl⟩:=hn;exact ⟨⟨by simp,by simp,by simp⟩,by simp⟩
  ·rename_i h3
   simp only [Option.some.injEq,Prod.mk.injEq] at hn;obtain ⟨rfl,rfl⟩:=hn;exact ⟨⟨by have:=hI.1;simp only;omega,hC.1,hC.2.1⟩,by simp⟩
theorem u32_step {big:Bool} {k:Nat} {c x:Int} (C:Int) (hC:u32C ⟨big,k,c⟩ x=C) (hf:fit32 big k C) (hk:k≠3):u32N ⟨big,k,c⟩ x=some (⟨big,k+1,C⟩,[]):=by
 unfold u32N;rw [hC,if_neg (fun h=>h hf),if_neg hk]
theorem u32_last {big:Bool} {c x:Int} (C:Int) (hC:u32C ⟨big,3,c⟩ x=C) (hf:fit32 big 3 C):u32N ⟨big,3,c⟩ x=some (⟨big,0,0⟩,[C]):=by
 unfold u32N;rw [hC,if_neg (fun h=>h hf),if_pos rfl]
def u32P (big:Bool) (_:Unit) (r:U32):Prop:=r=⟨big,0,0⟩
theorem u32_one (big:Bool) (q:Unit) (r:U32) (c:Int) (hp:u32P big q r) (h0:0≤c) (hb:isB c=true):∃r',stepsR u32N r (u32B big q c)=some (r',[c])∧u32P big (unN q c) r':=by
 have hb':=hb;obtain ⟨b1,b2⟩:=isB_iff.1 hb;obtain rfl:=hp
 show ∃r',stepsR u32N ⟨big,0,0⟩ (uni32B big c)=some (r',[c])∧u32P big (unN q c) r'
 refine ⟨⟨big,0,0⟩,?_,rfl⟩
 have h3:fit32 big 3 c:=by unfold fit32;rw [if_pos rfl];exact hb'
 cases big with
 |true=>
  show stepsR u32N ⟨true,0,0⟩ [c/16777216,c/65536%256,c/256%256,c%256]=_
  have e0:c/16777216=0:=by omega
  rw [e0]
  refine stepsR_one (u32_step 0 (by unfold u32C;simp) (by unfold fit32;simp) (by decide)) (e:=[]) ?_;refine stepsR_one (u32_step (c/65536) (by unfold u32C;simp;omega) (by unfold fit32;simp;omega) (by decide)) (e:=[]) ?_;refine stepsR_one (u32_step (c/256) (by unfold u32C;simp;omega) (by unfold fit32;simp;exact isB_iff.2 (by omega)) (by decide)) (e:=[]) ?_;exact stepsR_one (e2:=[]) (u32_last c (by unfold u32C;simp;omega) h3) rfl
 |false=>
  show stepsR u32N ⟨false,0,0⟩ [c%256,c/256%256,c/65536%256,c/16777216]=_
  refine stepsR_one (u32_step (c%256) (by unfold u32C;simp) (by unfold fit32;simp) (by decide)) (e:=[]) ?_;refine stepsR_one (u32_step (c%65536) (by unfold u32C;simp;omega) (by unfold fit32;simp) (by decide)) (e:=[]) ?_;refine stepsR_one (u32_step c (by unfold u32C;simp;omega) (by unfold fit32;simp;exact hb') (by decide)) (e:=[]) ?_;exact stepsR_one (e2:=[]) (u32_last c (by unfold u32C;simp;omega) h3) rfl
theorem u32_rng (big:Bool) (q:Unit) (c:Int) (_:True) (h0:0≤c) (hb:isB c=true):(∀x∈u32B big q c,0≤x∧x≤255)∧True:=by
 obtain ⟨b1,b2⟩:=isB_iff.1 hb;refine ⟨?_,trivial⟩
 show ∀x∈uni32B big c,0≤x∧x≤255
 unfold uni32B;intro x hx
 (repeat' split at hx) <;>simp only [List.mem_cons,List.not_mem_nil,or_false] at hx <;>omega
theorem dend32 {w:World} {g:Nat} {b:B4} {r:U32} (hr:r.have_=0) (h:InAt 198 w g 0 nilS b [] (u32R r)) (hb:b.going=true):
  Calls Tryz.prog 240 #[.pointer (some ⟨g,0,none⟩)] w fun e w'=>e= .returned (.tuple #[])∧InAt 198 w' g 0 nilS {b with fin:=true} [] (u32R r)∧Chg (IS g nilS) w w':=by
 have h6:w.cell? ⟨g,6,none⟩=some (.int .i64 (r.have_:Nat)):=h.cell 1;rw [hr] at h6;have HE:=Lib.hid (bend_in h hb)
 clear h hb hr;go_enter Tryz.func240,Tryz.ntmps240;go_wp2_with fail;refine HE.out.mono ?_;rintro e w1 ⟨rfl,hd,hc⟩
 have HD:=Lib.hid hd;have HC:=Lib.hid hc;clear hd hc;go_wp2_with fail;go_end0;exact ⟨rfl,HD.out,HC.out⟩
theorem mkd32 (v:Value) (w:World):(Instr.makeInterface 130 v).run Tryz.prog w= .ok (.iface 130 v) w:=run_makeInterface w 130 v (by kernel_rfl)
theorem dnew32 (big:Bool) (w:World):Calls Tryz.prog 72 #[.bool big] w fun e w'=>e= .returned (.pointer (some ⟨w.heap.size,0,none⟩))∧InAt 198 w' w.heap.size 0 nilS Dec.b40 [] (u32R ⟨big,0,0⟩)∧Below w.heap.size w w':=by
 go_enter Tryz.func72,Tryz.ntmps72;go_wp2;go_ret;exact ⟨rfl,⟨heap_alloc_new _ _,World.ownsRow_nil _ _ _ _,fun _=>rfl,Nat.zero_le _,by decide⟩,(Below.refl _ _).alloc (Nat.le_refl _) _⟩
theorem disp32:Disp 130 241 240:=
 ⟨fun _ _=>by kernel_rfl,fun _ _=>by kernel_rfl,fun _ _=>by kernel_rfl,fun _ _=>by kernel_rfl,fun _ _ _ _=>by kernel_rfl,fun _ _=>by kernel_rfl⟩
section
attribute [local go_sem] mkd32
theorem newG_32 {big:Bool} {c:Int} (hc:(c=4∧big=true)∨(c=5∧big=false)) {s:ByteArray} {out:List Int} {rE:U32} (hs:s.size≤4000) (hst:stepsR u32N ⟨big,0,0⟩ (byt s)=some (rE,out)) (hE:rE.have_=0) (w:World):
  Calls Tryz.prog 37 #[.int .i64 c] w (NewG 130 241 240 s out [] w):=by
 rcases hc with ⟨rfl,rfl⟩|⟨rfl,rfl⟩
 all_goals
  go_enter Tryz.func37,Tryz.ntmps37;go_wp2_with fail;refine (dnew32 _ _).mono ?_;rintro e w1 ⟨rfl,hd,hb⟩
  go_wp2_with fail;go_ret2;exact ⟨w.heap.size,IS w.heap.size nilS,fun i hi=>is_lt (Nat.le_refl _) hd.lt hi,Nat.le_refl _,hd.lt,rfl,hb,
   rdy_in hd (fun wy hy=>dfeed_uni32 s 4096 hy (I:=u32I) (by unfold u32I;simp) (fun r r2 x em w rb v b l hI hh x0 x1 hl hn=>next32_calls x hh hI x0 x1 hl hn) (fun r r2 x em hI x0 x1 hn=>u32_keep r r2 x em hI x0 x1 hn) hst hs rfl) (fun w b hh hb=>dend32 hE hh hb)⟩
end
theorem decode_32 {big:Bool} {c:Int} (hc:(c=4∧big=true)∨(c=5∧big=false)) {l:List Int} (hl:l.length≤400) (hs:∀x∈l,0≤x∧isB x=true) (w:World):Calls Tryz.prog 18 #[.int .i64 c,.string (strOfNums (encS c l))] w (DecG w l):=by
 have hrn:=told_rng (I:=fun _:Unit=>True) (M:=unN) (u32_rng big) l () trivial hs;have hlen:=told_len unN (fun _ c=>uni32B_len big c) l ()
 obtain ⟨rE,h1,h2⟩:=stepsR_told (M:=unN) (P:=u32P big) (u32_one big) l () ⟨big,0,0⟩ rfl hs;have he:encS c l=told (u32B big) unN () l:=by rcases hc with ⟨rfl,rfl⟩|⟨rfl,rfl⟩ <;>rfl
 rw [he]
 have hsz:=str_size (told (u32B big) unN () l)
 have h:=decode_any (w:=w) disp32 (newG_32 hc (s:=strOfNums (told (u32B big) unN () l)) (out:=l) (by rw [hsz];exact Nat.le_trans hlen (by omega)) (by rw [byt_nums hrn];exact h1) (by rw [h2])) (by omega) (by simp) (by rw [hsz];exact Nat.le_trans hlen (by omega))
 rwa [List.append_nil] at h
end Dcd
namespace Dcd
open Go.RowKit Win Stp Mach Dec Go.Proofs.YtooiooledeblmaaGreatW.PrintMore
set_option maxRecDepth 100000 in
set_option maxHeartbeats 8000000 in
theorem dfeed_mod8 {T:TypeId} {R:Type} {rest:R→List Value} {N:R→Int→Option (R×List Int)} {I:R→Prop} {r0 rE:R} {oE:List Int} {w:World} {g:Nat} (s:ByteArray) (room:Int) (h:InAt T w g 0 nilS b40 [] (rest r0)) (hI:I r0)
  (hnx:∀(r r2:R) (x:Int) (em:List Int) (w:World) (rb:Nat) (v:Value) (b:B4) (l:List Int),I r→InAt T w g rb v b l (rest r)→0≤x→x≤255→l.length≤100000→N r x=some (r2,em)→
   Calls Tryz.prog 248 #[.pointer (some ⟨g,0,none⟩),.int .u8 x] w (NextPost T rest g rb v b l w r2 em))
  (hIN:∀(r r2:R) (x:Int) (em:List Int),I r→0≤x→x≤255→N r x=some (r2,em)→I r2∧em.length≤1)
  (hst:stepsR N r0 (byt s)=some (rE,oE)) (hs:s.size≤4000) (hr:room=4096):
  Calls Tryz.prog 246 #[.pointer (some ⟨g,0,none⟩),.string s,.int .i64 room] w (InFed T rest g s.size rE oE w):=by
 have hrm:4096≤room:=by omega
 clear hr;have H:=Lib.hid h;have HI:=Lib.hid hI;have HNx:=Lib.hid hnx;have HIN:=Lib.hid hIN;have HST:=Lib.hid hst;clear h hI hnx hIN hst;go_enter Tryz.func246,Tryz.ntmps246;go_upto_block 0 with fail;go_cut [8] (fun i wx=>InMid T rest g s.size rE oE w i wx∧oE.length≤4000)
 case first=>
  go_wp2_with fail;go_loopw [8] (fun i wr=>InRel T rest N I g s rE oE w i wr) (fun i _=>s.size-(intOf i).toNat)
  case atStart=>
   exact ⟨0,nilS,r0,[],oE,Nat.zero_le _,rfl,H.out.rebase w.heap.size (Nat.le_refl _),HI.out,Chg.refl _,HST.out,rfl,Nat.zero_le _⟩
  case round=>
   obtain ⟨k,v,r,o,o2,hk,rfl,hd,hi,hc,hst,hoe,hol⟩:=hrel;have HD:=Lib.hid hd;have HI':=Lib.hid hi;have HC:=Lib.hid hc;have HST':=Lib.hid hst;have HOe:=Lib.hid hoe;obtain ⟨A,c0,hv⟩:∃A c,v= .slice A o.length c:=by
    rcases hd.row.2 with ⟨h1,h2⟩|⟨g',cap,cur,h1,_⟩
    ·exact ⟨none,0,by rw [h1,h2]⟩
    ·exact ⟨_,_,h1⟩
   have h4:=hd.c4;rw [hv] at h4;have HV:=Lib.hid hv;have hheld:=held_calls g 4 A o.length c0 wr h4;have HH:=Lib.hid hheld;have hgoing:=going_calls g _ wr hd.base;have hge:({b40 with at_:=(k:Int)}:B4).going=true:=rfl;rw [hge] at hgoing;have HGg:=Lib.hid hgoing;clear hd hi hc hst hoe hv h4 hheld hge hgoing
   by_cases hlt:k<s.size
   ·have hdc:(byt s).drop k=(s[k].toNat:Int)::(byt s).drop (k+1):=by
     rw [List.drop_eq_getElem_cons (by rw [byt_length];exact hlt)]
     have:=byt_at s k hlt;rw [List.getD_eq_getElem?_getD,List.getElem?_eq_getElem (by rw [byt_length];exact hlt)] at this;rw [←this];rfl
    have hst2:=HST'.out;rw [hdc] at hst2;obtain ⟨r2,em,e2,q1,q2,q3⟩:=stepsR_cons hst2;obtain ⟨hi2,hem⟩:=HIN.out r r2 _ em HI'.out (by omega) (by have:=s[k].toNat_lt;omega) q1;have HN:=Lib.hid (HNx.out r r2 (s[k].toNat:Int) em wr w.heap.size v _ o HI'.out HD.out (by omega) (by have:=s[k].toNat_lt;omega) (by omega) q1)
    have HQ:=Lib.hid (And.intro q2 q3)
    have HI2:=Lib.hid hi2;clear hdc hst2 q1 q2 q3 hi2;have hrm2:(o.length:Int)<room:=by omega
    go_wp2_with fail;refine HH.out.mono ?_;rintro e w1 ⟨rfl,rfl⟩
    go_wp2_with fail;refine HGg.out.mono ?_;rintro e w1 ⟨rfl,rfl⟩
    go_wp2_with fail;refine HN.out.mono ?_;rintro e w2 ⟨rfl,v2,hd2,hc2⟩
    have heat:=eat_calls g _ 1 w2 hd2.base rfl (by decide) (by decide) (show (0:Int)≤(k:Int) by omega) (show (k:Int)≤1000000000 by omega)
    have HEt:=Lib.hid heat;have HD2:=Lib.hid hd2;have HC2:=Lib.hid hc2;clear heat hd2 hc2;go_wp2_with fail;refine HEt.out.mono ?_;rintro e w3 ⟨rfl,rfl⟩
    go_wp2_with fail;go_roundw
    case rel=>
     refine ⟨k+1,v2,r2,o++em,e2,by omega,by go_num,?_,HI2.out,?_,HQ.out.1,?_,?_⟩
     ·have:=HD2.out.set 0 (.int .i64 ((k:Int)+1)) (b':={b40 with at_:=((k+1:Nat):Int)}) (rs':=rest r2) (by simp [inCells])
      exact this
     ·exact chg_then HC.out (HC2.out.trans (is_g 0 _)) (fun i hi hh=>is_new HD.out.row hi hh)
     ·rw [HOe.out,HQ.out.2,List.append_assoc]
     ·rw [List.length_append];omega
    case measure=>simp [intOf];omega
   ·obtain rfl:k=s.size:=by omega
    clear hlt;have hdn:(byt s).drop s.size=[]:=by rw [←byt_length,List.drop_length]
    have hst2:=HST'.out;rw [hdn] at hst2;simp only [stepsR,Option.some.injEq,Prod.mk.injEq] at hst2;obtain ⟨rfl,rfl⟩:=hst2;have ho:=HOe.out;rw [List.append_nil] at ho;subst ho;clear hdn;go_wp2_with fail;go_meet;exact ⟨⟨v,rfl,HD.out,HC.out⟩,by omega⟩
 case rest=>
  obtain ⟨⟨v,rfl,hd,hc⟩,hol⟩:=hcut;have HD:=Lib.hid hd;have HC:=Lib.hid hc;have h4:=hd.c4;have f4:=hd.fz 4;have hnil:=hd.nil
  by_cases ho:oE=[]
  ·have hvn:=hnil ho
   rw [hvn] at h4;have ht:=tell_none g 4 room wc h4 f4;have HT:=Lib.hid ht;have HO:=Lib.hid ho;clear hd hc h4 f4 hnil ho hvn ht;go_wp2_with fail;refine HT.out.mono ?_;rintro e w1 ⟨rfl,rfl⟩
   go_wp2_with fail;go_ret2;obtain rfl:=HO.out;exact ⟨none,0,rfl,HD.out.told (Below.refl _ _) nilS,chg_then HC.out ((is_g (v:=nilS) 4 _).trans (is_g 4 _)) (fun i _ hi=>hi),World.ownsRow_nil _ _ _ _⟩
  ·have hpos:0<oE.length:=by
    rcases Nat.eq_zero_or_pos oE.length with h|h
    ·exact absurd (List.eq_nil_of_length_eq_zero h) ho
    ·exact h
   obtain ⟨r,c,hv,_,_⟩:=hd.row.form hpos;have hrow:=hd.row;have hrg:=hd.row_g;rw [hv] at h4 hrow hrg;have hne:r≠g:=fun e=>hrg (by rw [e];rfl)
   have ht:=tell_all g 4 r w.heap.size c oE room wc h4 f4 hrow hne hpos (by omega) (by omega)
   have HT:=Lib.hid ht;clear hd hc h4 f4 hnil ho hv ht hrow hrg hne;go_wp2_with fail;refine HT.out.mono ?_;rintro e w1 ⟨r1,c1,w2,v1,rfl,rfl,hown,hb⟩
   have HOW:=Lib.hid hown;have HB:=Lib.hid hb;clear hown hb;go_wp2_with fail;go_ret2;have hlt:=HOW.out.lt r1 rfl;have hgl:=HD.out.lt;refine ⟨some ⟨r1,0,none⟩,c1,rfl,HD.out.told HB.out v1,?_,?_⟩
   ·exact chg_then HC.out (((Chg.of_below HB.out).trans (is_g (v:=nilS) 4 _)).trans (is_g 4 _)) (fun i _ hi=>hi)
   ·have h1:=own_weaken HOW.out HC.out.size
    refine h1.kept (w':=_) (row:=some g) ⟨rfl,rfl,rfl,by simp [World.setCell],fun q hq hn=>?_⟩ (.inr (by simp [Value.ownBlock];omega))
    exact (Below.heap_setCell _ _ _ q (fun e=>hn (by rw [e]))).trans (Below.heap_setCell _ _ _ q (fun e=>hn (by rw [e])))
end Dcd
namespace Out
open Go.RowKit Win Stp Go.Proofs.YtooiooledeblmaaGreat.Lst
def frF (x:Int):Int:=fromL.getD x.toNat 0
set_option maxRecDepth 10000 in
theorem fr_rng0:∀k:Fin 256,0≤fromL.getD k.val 0∧fromL.getD k.val 0≤255:=by decide +kernel
theorem fr_rng {x:Int} (h0:0≤x) (h1:x≤255):0≤frF x∧frF x≤255:=fr_rng0 ⟨x.toNat,by omega⟩
set_option maxRecDepth 10000 in
theorem fr_to0:∀k:Fin 256,fromL.getD (toL.getD k.val 0).toNat 0=(k.val:Int):=by decide +kernel
theorem fr_to {x:Int} (h0:0≤x) (h1:x≤255):frF (toF x)=x:=by
 have h:=fr_to0 ⟨x.toNat,by omega⟩
 have e:((x.toNat:Nat):Int)=x:=Int.toNat_of_nonneg h0;exact h.trans e
def TRelB (w:World) (a f1 f2:Nat) (l:List Int) (Z:List Value) (i:Value) (wr:World):Prop:=
 ∃k:Nat,k≤l.length∧i= .int .i64 k∧wr.heap[a]? =some (.cells (rowCells ((l.take k).map frF++l.drop k) Z) 5 (f1,f2))∧Below w.heap.size w wr
theorem map_stepB {l:List Int} {k:Nat} (hk:k<l.length):((l.take k).map frF++l.drop k).set k (frF (l.getD k 0))=(l.take (k+1)).map frF++l.drop (k+1):=by
 have hl:((l.take k).map frF).length=k:=by rw [List.length_map,List.length_take];omega
 have ht:l.take (k+1)=l.take k++[l.getD k 0]:=by
  rw [List.take_succ_eq_append_getElem hk,List.getD_eq_getElem?_getD,List.getElem?_eq_getElem hk];rfl
 rw [List.set_append,hl,if_neg (Nat.lt_irrefl k),Nat.sub_self,Lst.drop_cons hk,List.set_cons_zero,ht,List.map_append,List.append_assoc]
 rfl
set_option maxRecDepth 100000 in
set_option maxHeartbeats 4000000 in
theorem back_calls (gt:Nat) (l:List Int) (w:World) (h:TabAt w gt) (hl:l.length≤100000) (hr:∀x∈l,0≤x∧x≤255):
  Calls Tryz.prog 247 #[.pointer (some ⟨gt,0,none⟩),.string (strOfNums l)] w fun e w'=>e= .returned (.string (strOfNums (l.map frF)))∧Below w.heap.size w w':=by
 have hgl:gt<w.heap.size:=(Array.getElem?_eq_some_iff.1 h).1;have hcv:=Lib.run_convert_string_bytes (P:=Tryz.prog) w 9 68 5 (strOfNums l) Tryz.underlying9 Tryz.underlying68 Tryz.underlying5;have hs:(strOfNums l).size=l.length:=str_size l;rw [hs] at hcv;obtain ⟨W,hW⟩:∃W,W=Lib.bytesWorld w 5 (strOfNums l):=⟨_,rfl⟩
 obtain ⟨Z,hZ⟩:∃Z,Z=List.replicate (grownCap w l.length 0 5-l.length) (Value.int .u8 0):=⟨_,rfl⟩
 obtain ⟨f1,hf1⟩:∃f,f=(Lib.bytesCells w 5 (strOfNums l)).size:=⟨_,rfl⟩
 obtain ⟨a,ha⟩:∃a,a=w.heap.size:=⟨_,rfl⟩
 obtain ⟨cap,hcap⟩:∃c,c=grownCap w l.length 0 5:=⟨_,rfl⟩
 have hnew:W.heap[a]? =some (.cells (rowCells l Z) 5 (f1,f1+1)):=by
  rw [hW,ha,Lib.bytesWorld_at_new,←hf1,bytesCells_row w l hr,←hZ]
 have hfl:l.length≤f1:=by
  rw [hf1,bytesCells_row w l hr]
  simp [rowCells,u8s]
 have hbw:Below w.heap.size w W:=by
  rw [hW]
  exact ⟨rfl,rfl,rfl,by rw [Lib.bytesWorld_size];omega,fun i hi=>Lib.bytesWorld_at_old w _ _ i hi⟩
 rw [←hW,←ha,←hcap] at hcv;have HT:=Lib.hid (show TabAt W gt from (hbw.block gt hgl).trans h)
 have HN:=Lib.hid hnew;have HB:=Lib.hid hbw;have HR:=Lib.hid hr;have HA:=Lib.hid (show w.heap.size=a∧gt<a from ⟨ha.symm,by omega⟩)
 clear hnew hbw hW hZ hf1 ha hs h hr hgl hcap;obtain ⟨S0,hS0⟩:∃S,S=strOfNums l:=⟨_,rfl⟩
 rw [←hS0] at hcv;rw [←hS0]
 clear hS0;go_enter Tryz.func247,Tryz.ntmps247;go_wp2_with fail;go_loopw [12] (fun i wr=>TRelB w a f1 (f1+1) l Z i wr∧TabAt wr gt) (fun i _=>l.length-(intOf i).toNat)
 case atStart=>exact ⟨⟨0,Nat.zero_le _,rfl,HN.out,HB.out⟩,HT.out⟩
 case round=>
  obtain ⟨⟨k,hk,rfl,hrow,hb⟩,htab⟩:=hrel;have HRow:=Lib.hid hrow;have HBr:=Lib.hid hb;have HTr:=Lib.hid htab;clear hrow hb htab;have hll:((l.take k).map frF++l.drop k).length=l.length:=by rw [List.length_append,List.length_map,List.length_take,List.length_drop];omega
  by_cases hlt:k<l.length
  ·have hc:=row_cell (k:=k) HRow.out (by omega)
   have hge:((l.take k).map frF++l.drop k).getD k 0=l.getD k 0:=by
    have e:((l.take k).map frF).length=k:=by rw [List.length_map,List.length_take];omega
    rw [List.getD_eq_getElem?_getD,List.getD_eq_getElem?_getD,List.getElem?_append_right (by omega),e,Nat.sub_self,List.getElem?_drop,Nat.add_zero]
   rw [hge] at hc;have hms:=map_stepB hlt;have hxr:=HR.out (l.getD k 0) (by rw [List.getD_eq_getElem?_getD,List.getElem?_eq_getElem hlt];exact List.getElem_mem _)
   have htf:frF (l.getD k 0)=fromL.getD (l.getD k 0).toNat 0:=rfl;generalize l.getD k 0=x at hc hms hxr htf;obtain ⟨x0,x1⟩:=hxr;have hct:=tab_cell2 (k:=x.toNat) HTr.out rfl rfl (by omega)
   rw [←htf] at hct;have hfz:=frozen_of2 (k:=k) HRow.out (by omega)
   have hset:(wr.setCell ⟨a,k,none⟩ (.int .u8 (frF x))).heap[a]? =some (.cells (rowCells ((l.take (k+1)).map frF++l.drop (k+1)) Z) 5 (f1,f1+1)):=by
    rw [setCell_row HRow.out,row_set (by omega),hms]
   have HS:=Lib.hid hset;have HT2:=Lib.hid (show TabAt (wr.setCell ⟨a,k,none⟩ (.int .u8 (frF x))) gt from (Below.heap_setCell wr ⟨a,k,none⟩ (.int .u8 (frF x)) gt (by have:=HA.out;show gt≠a;omega)).trans HTr.out)
   clear hge hms htf hset hll;generalize frF x=y at*;go_wp2_with fail;go_roundw
   case rel=>exact ⟨⟨k+1,hlt,by go_num,HS.out,HBr.out.setCell (by have:=HA.out;show w.heap.size≤a;omega) _⟩,HT2.out⟩
   case measure=>simp [intOf];omega
  ·obtain rfl:k=l.length:=by omega
   have hrow:=HRow.out;rw [List.take_length,List.drop_length,List.append_nil] at hrow;have hcb:=run_convert_bytes_arg (P:=Tryz.prog) (w:=wr) 68 5 Tryz.underlying68 Tryz.underlying5 a 0 l.length cap (l.map frF) (by rw [List.length_map]) (fun i hi=>by
    rw [Nat.zero_add]
    exact row_cell hrow (by rw [List.length_map];exact hi)) 9 Tryz.underlying9
   clear hrow hll;go_wp2_with fail;go_ret;exact ⟨rfl,HBr.out⟩
end Out
namespace Dcd
open Go.RowKit Win Stp Mach Dec Go.Proofs.YtooiooledeblmaaGreatW.PrintMore
structure M8 where
 need:Int
 b:Int
 c:Int
 gone:Bool
def m8R (gt:Nat) (r:M8):List Value:=[.int .i64 r.need,.int .u8 r.b,.int .u32 r.c,.bool r.gone,.pointer (some ⟨gt,0,none⟩)]
def m8L (x:Int):M8:=
 if x<224 then ⟨1,x,x%32,false⟩ else if x<240 then ⟨2,x,x%16,false⟩ else if x<248 then ⟨3,x,x%8,false⟩ else ⟨4,x,x%4,false⟩
def m8S (b x:Int):Bool:=if b=240 then decide (176≤x) else if b=241 then decide (x≠182∧x≠183) else if b=248 then decide (168≤x) else if b=249 then decide (x≤161) else true
def m8N (r:M8) (x:Int):Option (M8×List Int):=
 if r.need=0 then (if x<160 then some (r,[x]) else if (197≤x∧x≤223)∨(225≤x∧x≤249) then some (m8L x,[]) else none)
 else if x<160∨191<x∨(r.gone=false∧m8S r.b x=false) then none
 else if r.need=1 then some (⟨0,r.b,r.c*32+x%32,true⟩,[r.c*32+x%32]) else some (⟨r.need-1,r.b,r.c*32+x%32,true⟩,[])
def m8I (r:M8):Prop:=0≤r.need∧r.need≤4∧0≤r.b∧r.b≤255∧0≤r.c∧r.c≤134217727∧(r.need=4→r.c≤3)∧(r.need=3→r.c≤127)∧(r.need=2→r.c≤4095)∧(r.need=1→r.c≤131071)
set_option maxHeartbeats 4000000 in
theorem leadm_calls {w:World} {g gt rb:Nat} {v:Value} {b:B4} {l:List Int} {r:M8} (x:Int) (h:InAt 202 w g rb v b l (m8R gt r)) (h0:(197≤x∧x≤223)∨(225≤x∧x≤249)):
  Calls Tryz.prog 249 #[.pointer (some ⟨g,0,none⟩),.int .u8 x] w (LeadPost 202 g rb v b l (m8R gt (m8L x)) w):=by
 have h5:w.cell? ⟨g,5,none⟩=some (.int .i64 r.need):=h.cell 0;have h6:w.cell? ⟨g,6,none⟩=some (.int .u8 r.b):=h.cell 1;have h7:w.cell? ⟨g,7,none⟩=some (.int .u32 r.c):=h.cell 2;have h8:w.cell? ⟨g,8,none⟩=some (.bool r.gone):=h.cell 3;have f5:=h.fz 5;have f6:=h.fz 6;have f7:=h.fz 7;have f8:=h.fz 8;have H:=Lib.hid h;have a1:bits .and .u8 x 31=x%32:=bits_mask .u8 8 (by decide) wraps_u8 5 (by decide) x (by omega) (by omega)
 have a2:bits .and .u8 x 15=x%16:=bits_mask .u8 8 (by decide) wraps_u8 4 (by decide) x (by omega) (by omega)
 have a3:bits .and .u8 x 7=x%8:=bits_mask .u8 8 (by decide) wraps_u8 3 (by decide) x (by omega) (by omega)
 have a4:bits .and .u8 x 3=x%4:=bits_mask .u8 8 (by decide) wraps_u8 2 (by decide) x (by omega) (by omega)
 clear h;have hcase:(197≤x∧x<224)∨(225≤x∧x<240)∨(240≤x∧x<248)∨x=248∨x=249:=by omega
 rcases hcase with ⟨c,d⟩|⟨c,d⟩|⟨c,d⟩|c|c
 ·rw [show m8L x=⟨1,x,x%32,false⟩ by unfold m8L;rw [if_pos d]]
  go_enter Tryz.func249,Tryz.ntmps249;go_wp2_with fail;go_ret;exact ⟨rfl,(((H.out.setR 0 _).setR 2 _).setR 1 _).setR 3 _,(((is_g 5 _).trans (is_g 7 _)).trans (is_g 6 _)).trans (is_g 8 _)⟩
 ·rw [show m8L x=⟨2,x,x%16,false⟩ by unfold m8L;rw [if_neg (by omega),if_pos d]]
  go_enter Tryz.func249,Tryz.ntmps249;go_wp2_with fail;go_ret;exact ⟨rfl,(((H.out.setR 0 _).setR 2 _).setR 1 _).setR 3 _,(((is_g 5 _).trans (is_g 7 _)).trans (is_g 6 _)).trans (is_g 8 _)⟩
 ·rw [show m8L x=⟨3,x,x%8,false⟩ by unfold m8L;rw [if_neg (by omega),if_neg (by omega),if_pos d]]
  go_enter Tryz.func249,Tryz.ntmps249;go_wp2_with fail;go_ret;exact ⟨rfl,(((H.out.setR 0 _).setR 2 _).setR 1 _).setR 3 _,(((is_g 5 _).trans (is_g 7 _)).trans (is_g 6 _)).trans (is_g 8 _)⟩
 ·rw [show m8L x=⟨4,x,x%4,false⟩ by unfold m8L;rw [if_neg (by omega),if_neg (by omega),if_neg (by omega)]]
  obtain rfl:=c;go_enter Tryz.func249,Tryz.ntmps249;go_wp2_with fail;go_ret;exact ⟨rfl,(((H.out.setR 0 _).setR 2 _).setR 1 _).setR 3 _,(((is_g 5 _).trans (is_g 7 _)).trans (is_g 6 _)).trans (is_g 8 _)⟩
 ·rw [show m8L x=⟨4,x,x%4,false⟩ by unfold m8L;rw [if_neg (by omega),if_neg (by omega),if_neg (by omega)]]
  obtain rfl:=c;go_enter Tryz.func249,Tryz.ntmps249;go_wp2_with fail;go_ret;exact ⟨rfl,(((H.out.setR 0 _).setR 2 _).setR 1 _).setR 3 _,(((is_g 5 _).trans (is_g 7 _)).trans (is_g 6 _)).trans (is_g 8 _)⟩
theorem second_calls {w:World} {g gt rb:Nat} {v:Value} {b:B4} {l:List Int} {r:M8} (x:Int) (h:InAt 202 w g rb v b l (m8R gt r)) (h0:0≤x) (h1:x≤255) (hs:m8S r.b x=true):
  Calls Tryz.prog 250 #[.pointer (some ⟨g,0,none⟩),.int .u8 x] w fun e w'=>e= .returned (.bool true)∧w=w':=by
 have h6:w.cell? ⟨g,6,none⟩=some (.int .u8 r.b):=h.cell 1;clear h;unfold m8S at hs;generalize r.b=y at h6 hs
 by_cases k0:y=240
 ·subst k0
  rw [if_pos rfl,decide_eq_true_eq] at hs;go_enter Tryz.func250,Tryz.ntmps250;go_wp2_with fail;go_ret;exact ⟨rfl,rfl⟩
 ·rw [if_neg k0] at hs
  by_cases k1:y=241
  ·subst k1
   rw [if_pos rfl,decide_eq_true_eq] at hs;have q1:(x !=182)=true:=by simpa using hs.1
   have q2:(x !=183)=true:=by simpa using hs.2
   clear hs;go_enter Tryz.func250,Tryz.ntmps250;go_wp2_with fail;go_ret;exact ⟨rfl,rfl⟩
  ·rw [if_neg k1] at hs
   by_cases k2:y=248
   ·subst k2
    rw [if_pos rfl,decide_eq_true_eq] at hs;go_enter Tryz.func250,Tryz.ntmps250;go_wp2_with fail;go_ret;exact ⟨rfl,rfl⟩
   ·rw [if_neg k2] at hs
    by_cases k3:y=249
    ·subst k3
     rw [if_pos rfl,decide_eq_true_eq] at hs;go_enter Tryz.func250,Tryz.ntmps250;go_wp2_with fail;go_ret;exact ⟨rfl,rfl⟩
    ·clear hs
     go_enter Tryz.func250,Tryz.ntmps250;go_wp2_with fail;go_ret;exact ⟨rfl,rfl⟩
end Dcd
namespace Dcd
open Go.RowKit Win Stp Mach Dec Go.Proofs.YtooiooledeblmaaGreatW.PrintMore
set_option maxHeartbeats 8000000 in
theorem nextm_calls {w:World} {g gt rb:Nat} {v:Value} {b:B4} {l:List Int} {r r2:M8} {em:List Int} (x:Int) (h:InAt 202 w g rb v b l (m8R gt r)) (hI:m8I r) (h0:0≤x) (h1:x≤255) (hl:l.length≤100000) (hn:m8N r x=some (r2,em)):
  Calls Tryz.prog 248 #[.pointer (some ⟨g,0,none⟩),.int .u8 x] w (NextPost 202 (m8R gt) g rb v b l w r2 em):=by
 have h5:w.cell? ⟨g,5,none⟩=some (.int .i64 r.need):=h.cell 0;have h6:w.cell? ⟨g,6,none⟩=some (.int .u8 r.b):=h.cell 1;have h7:w.cell? ⟨g,7,none⟩=some (.int .u32 r.c):=h.cell 2;have h8:w.cell? ⟨g,8,none⟩=some (.bool r.gone):=h.cell 3;have f5:=h.fz 5;have f6:=h.fz 6;have f7:=h.fz 7;have f8:=h.fz 8;unfold m8N at hn
 by_cases hz:r.need=0
 ·rw [if_pos hz] at hn
  rw [hz] at h5
  by_cases hx:x<160
  ·rw [if_pos hx] at hn
   simp only [Option.some.injEq,Prod.mk.injEq] at hn;obtain ⟨rfl,rfl⟩:=hn;have w1:IntKind.u32.wrap x=x:=by rw [IntKind.wrap_u32];omega
   have ha:=h.alloc (.cells #[.int .u32 x] 31)
   have hh:=hold_calls g 4 rb v l x w.heap.size (w.alloc (.cells #[.int .u32 x] 31)) ha.c4 (ha.fz 4) ha.row ha.rbl ha.row_g (by rw [cell_of (heap_alloc_new _ _)];rfl) (by omega)
   have HA:=Lib.hid ha;have HH:=Lib.hid hh;clear h ha hh hI hz h6 h7 h8;go_enter Tryz.func248,Tryz.ntmps248;go_wp2_with fail;refine HH.out.mono ?_;rintro e w' ⟨rfl,r,c,w2,rfl,hown,hg,hat,hr⟩
   obtain ⟨hd,hc⟩:=HA.out.hold x hown hg hr;have HD:=Lib.hid hd;have HC:=Lib.hid hc;clear hd hc hown hg hat hr;go_wp2_with fail;go_ret;exact ⟨rfl,_,HD.out,(Chg.alloc _ _).trans HC.out⟩
  ·rw [if_neg hx] at hn
   split at hn
   case isFalse=>cases hn
   rename_i hr;simp only [Option.some.injEq,Prod.mk.injEq] at hn;obtain ⟨rfl,rfl⟩:=hn;have HL:=Lib.hid (leadm_calls x h hr)
   clear h hI hz h6 h7 h8 hr;go_enter Tryz.func248,Tryz.ntmps248;go_wp2_with fail;refine HL.out.mono ?_;rintro e w' ⟨rfl,hd,hc⟩
   have HD:=Lib.hid hd;have HC:=Lib.hid hc;clear hd hc;go_wp2_with fail;go_ret;exact ⟨rfl,_,by rw [List.append_nil];exact HD.out,HC.out⟩
 ·rw [if_neg hz] at hn
  split at hn
  ·cases hn
  rename_i hr;obtain ⟨i1,i2,i3,i4,i5,i6,i7,i8,i9,i10⟩:=hI;have hc16:r.c≤131071:=by omega
  have a1:bits .and .u8 x 31=x%32:=bits_mask .u8 8 (by decide) wraps_u8 5 (by decide) x (by omega) (by omega)
  have o1:bits .or .u32 (r.c*32) (x%32)=r.c*32+x%32:=bits_join .u32 32 (by decide) wraps_u32 5 _ _ (by omega) (by omega) (by omega) (by omega) (by omega) (by omega)
  have w1:IntKind.u32.wrap (r.c*32)=r.c*32:=by rw [IntKind.wrap_u32];omega
  obtain ⟨C,hC⟩:∃C,C=r.c*32+x%32:=⟨_,rfl⟩
  rw [←hC] at o1 hn;have lo1:¬x<160:=fun h=>hr (.inl h)
  have hi1:¬191<x:=fun h=>hr (.inr (.inl h))
  have hC0:0≤C∧C≤4294967295:=by omega
  obtain ⟨hC1,hC2⟩:=hC0;have HZ:=Lib.hid hz;have hn0:1≤r.need:=by omega
  have hz0:¬r.need=0:=hz;have HSc:=Lib.hid (fun hg:r.gone=false=>second_calls x h h0 h1 (by
   cases hq:m8S r.b x
   ·exact absurd (.inr (.inr ⟨hg,hq⟩)) hr
   ·rfl))
  have hd1:=((h.setR 3 (.bool true)).setR 2 (.int .u32 C))
  have hd2:=hd1.setR 0 (.int .i64 (r.need-1))
  have HD:=Lib.hid hd2;have HCg:=Lib.hid (((is_g (g:=g) (v:=v) (w:=w) 8 (.bool true)).trans (is_g 7 (.int .u32 C))).trans (is_g 5 (.int .i64 (r.need-1))))
  clear hd1 hd2 hC hz hr h i7 i8 i9 i10;obtain ⟨need,b1,c1,gone⟩:=r
  dsimp only at*
  have hgo:gone=true∨gone=false:=by cases gone <;>simp
  rcases hgo with rfl|rfl
  all_goals
   by_cases hn1:need=1
   ·rw [if_pos hn1] at hn
    simp only [Option.some.injEq,Prod.mk.injEq] at hn;obtain ⟨rfl,rfl⟩:=hn;subst hn1;rw [show (1:Int)-1=0 from rfl] at HD HCg;clear hn0 HZ;go_enter Tryz.func248,Tryz.ntmps248
    first
    |(go_upto_region 12 with fail;refine (HSc.out (by trivial)).mono ?_;rintro e w2 ⟨rfl,rfl⟩;go_wp2_with fail)
    |go_upto_region 12 with fail
    generalize ((w.setCell ⟨g,8,none⟩ (.bool true)).setCell ⟨g,7,none⟩ (.int .u32 C)).setCell ⟨g,5,none⟩ (.int .i64 0)=w3 at HD HCg ⊢;have q7:w3.cell? ⟨g,7,none⟩=some (.int .u32 C):=HD.out.cell 2;have qlt:=HD.out.lt;have ha:=(HD.out.alloc (.cells #[.int .u32 C] 31)).drewN 1;have hh:=hold_calls g 4 rb v l C w3.heap.size (w3.alloc (.cells #[.int .u32 C] 31)).drew ha.c4 (ha.fz 4) ha.row ha.rbl ha.row_g (by show World.cell? (w3.alloc (.cells #[.int .u32 C] 31)) ⟨w3.heap.size,0,none⟩=_;rw [cell_of (heap_alloc_new _ _)];rfl) (by omega)
    have HA:=Lib.hid ha;have HH:=Lib.hid hh;clear ha hh h5 h6 h7 h8 f5 f6 f7 f8;go_region_with (go_at_call 234;refine HH.out.mono ?_;rintro e w' ⟨rfl,r',c,w2,rfl,hown,hg,hat,hr⟩;obtain ⟨hd,hc⟩:=HA.out.hold C hown hg hr;have HD2:=Lib.hid hd;have HC2:=Lib.hid hc;clear hd hc hown hg hat hr)
    all_goals
     go_wp2_with fail;go_ret;exact ⟨rfl,_,HD2.out,HCg.out.trans ((((Chg.alloc _ _).trans (Chg.drew _)).mono (fun _ h=>h)).trans HC2.out)⟩
   ·rw [if_neg hn1] at hn
    simp only [Option.some.injEq,Prod.mk.injEq] at hn;obtain ⟨rfl,rfl⟩:=hn;have hn2:¬need-1=0:=by omega
    go_enter Tryz.func248,Tryz.ntmps248;go_wp2_with fail
    try (refine (HSc.out (by trivial)).mono ?_;rintro e w2 ⟨rfl,rfl⟩;go_wp2_with fail)
    go_ret;exact ⟨rfl,v,by rw [List.append_nil];exact HD.out,HCg.out⟩
end Dcd
end Go.Proofs.YtooiooledeblmaaGreat
