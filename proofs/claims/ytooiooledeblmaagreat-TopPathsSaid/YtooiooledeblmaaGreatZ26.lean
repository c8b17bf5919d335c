/- The document's compressor: what it asks of a scalar. The document's compressor: whether a scalar is near; its units; the easiest way. The document's compressor: bytes put; a scalar's units; the easiest way. -/
import Derived.Test.YtooiooledeblmaaGreatZ25
import Derived.Deep.QuietTactic
import Derived.BigQuiet
set_option linter.unusedVariables false
set_option linter.unusedSimpArgs false
namespace Go.Proofs.YtooiooledeblmaaGreat
namespace Rfc
open Go.RowKit Win Stp Go.Proofs.YtooiooledeblmaaGreat.Lst Enc
theorem rpass_calls (c:Int) (w:World):Calls Tryz.prog 87 #[.int .u32 c] w fun e w'=>e= .returned (.bool (passB c))∧w=w':=by
 by_cases h:(32≤c∧c<128)∨c=0∨c=9∨c=10∨c=13
 ·rw [passB_iff.2 h]
  by_cases h2:c=0∨c=9∨c=10∨c=13
  ·rcases h2 with rfl|rfl|rfl|rfl
   all_goals
    clear h;go_enter Tryz.func87,Tryz.ntmps87;go_wp2;go_ret;exact ⟨rfl,rfl⟩
  ·have k0:(c==0)=false:=by rw [beq_eq_false_iff_ne];omega
   have k9:(c==9)=false:=by rw [beq_eq_false_iff_ne];omega
   have k10:(c==10)=false:=by rw [beq_eq_false_iff_ne];omega
   have k13:(c==13)=false:=by rw [beq_eq_false_iff_ne];omega
   have h3:32≤c:=by omega
   have h4:c≤127:=by omega
   clear h h2;go_enter Tryz.func87,Tryz.ntmps87;go_wp2;go_ret;exact ⟨rfl,rfl⟩
 ·have e:passB c=false:=by rw [←Bool.not_eq_true,passB_iff];exact h
  rw [e]
  have k0:(c==0)=false:=by rw [beq_eq_false_iff_ne];omega
  have k9:(c==9)=false:=by rw [beq_eq_false_iff_ne];omega
  have k10:(c==10)=false:=by rw [beq_eq_false_iff_ne];omega
  have k13:(c==13)=false:=by rw [beq_eq_false_iff_ne];omega
  have hcs:¬32≤c∨(32≤c∧¬c≤127):=by omega
  clear h e;rcases hcs with h1|⟨h1,h2⟩
  all_goals
   go_enter Tryz.func87,Tryz.ntmps87;go_wp2;go_ret;exact ⟨rfl,rfl⟩
def lowI (c:Int):Int:=if 128≤c∧c<13312 then c/128 else if 57344≤c∧c<65536 then (c-44032)/128 else -1
def idxR (c:Int) (o:Option Nat):Int:=match o with
 |some n=>249+(n:Int)
 |none=>lowI c
def ridx (c:Int):Int:=if (wIndex c).2=true then (wIndex c).1 else -1
theorem ridx_eq (c:Int):ridx c=idxR c (idxFrom c 0 specials):=by
 unfold ridx wIndex
 cases idxFrom c 0 specials with
 |some n=>rfl
 |none=>
  unfold idxR lowI;simp only
  split
  ·rfl
  ·split <;>rfl
theorem idx_step (c:Int) {j:Nat} (h:j<7):idxFrom c j (specials.drop j)=if hld (specials.getD j 0) c=true then some j else idxFrom c (j+1) (specials.drop (j+1)):=by
 have h7:specials.length=7:=rfl;rw [List.drop_eq_getElem_cons (by omega),List.getD_eq_getElem?_getD,List.getElem?_eq_getElem (by omega)]
 rfl
theorem off_sp:∀j:Fin 7,wOffset (249+(j.val:Int))=(specials.getD j.val 0,true)∧0≤specials.getD j.val 0∧specials.getD j.val 0≤65535:=by decide +kernel
theorem off_low {x:Int} (h0:1≤x) (h1:x≤167):(wOffset x).1=if x≤103 then x*128 else x*128+44032:=by
 unfold wOffset;rw [if_neg (by omega)]
 by_cases h:x≤103
 ·rw [if_pos h,if_pos h]
 ·rw [if_neg h,if_neg h,if_pos h1]
theorem low_at {c x:Int} (h0:1≤x) (h1:x≤167) (h:hld (wOffset x).1 c=true):lowI c=x:=by
 rw [off_low h0 h1,hld_iff] at h;unfold lowI
 by_cases hx:x≤103
 ·rw [if_pos hx] at h;rw [if_pos (by omega)];omega
 ·rw [if_neg hx] at h;rw [if_neg (by omega),if_pos (by omega)];omega
theorem low_none {c:Int} (h:∀y:Int,1≤y→y≤167→hld (wOffset y).1 c=false):lowI c= -1:=by
 have key:∀y:Int,1≤y→y≤167→¬((wOffset y).1≤c∧c-(wOffset y).1<128):=fun y h0 h1 hh=>by
  have:=h y h0 h1;rw [hld_iff.2 hh] at this
  cases this
 unfold lowI
 by_cases ha:128≤c∧c<13312
 ·have:=key (c/128) (by omega) (by omega)
  rw [off_low (by omega) (by omega),if_pos (by omega)] at this;omega
 ·rw [if_neg ha]
  by_cases hb:57344≤c∧c<65536
  ·have:=key ((c-44032)/128) (by omega) (by omega)
   rw [off_low (by omega) (by omega),if_neg (by omega)] at this;omega
  ·rw [if_neg hb]
def IPost (w:World) (c:Int) (e:Ending) (w':World):Prop:=e= .returned (.int .i64 (ridx c))∧Below w.heap.size w w'
set_option maxHeartbeats 4000000 in
theorem rindex_calls (c:Int) (w:World) (h0:0≤c) (h1:c≤4294967295):Calls Tryz.prog 113 #[.int .u32 c] w (IPost w c):=by
 unfold IPost;obtain ⟨R,hR⟩:∃R,R=ridx c:=⟨_,rfl⟩
 rw [←hR]
 rw [ridx_eq] at hR;have HR:=Lib.hid hR;clear hR;go_enter Tryz.func113,Tryz.ntmps113;go_wp2_with fail;go_loopw [3] (fun v3 wr=>∃j x:Nat,x=249+j∧j≤7∧v3= .int .i64 x∧R=idxR c (idxFrom c j (specials.drop j))∧Below w.heap.size w wr) (fun v3 _=>256-(intOf v3).toNat)
 case atStart=>exact ⟨0,249,rfl,by decide,rfl,HR.out,Below.refl _ _⟩
 case round=>
  obtain ⟨j,x,hx,hj,rfl,hr,hb⟩:=hrel;have HB:=Lib.hid hb;clear hb
  by_cases hlt:x≤255
  ·obtain ⟨e1,s0,s1⟩:=off_sp ⟨j,by omega⟩
   simp only at e1 s0 s1;have hof:=roffset_calls (x:Int) wr (by omega) (by omega)
   rw [show (x:Int)=249+(j:Int) by omega,e1] at hof;rw [show 249+(j:Int)=(x:Int) by omega] at hof;rw [idx_step c (by omega)] at hr;generalize specials.getD j 0=o at s0 s1 hof hr;have hho:=fun w=>rholds_calls o c w s0 (by omega) h0 h1
   have HX:=Lib.hid hx;have HOf:=Lib.hid hof;clear hof e1 hx
   cases hh:hld o c with
   |true=>
    rw [hh,if_pos rfl] at hr;rw [hh] at hho;have HHo:=Lib.hid hho;have HRr:=Lib.hid hr;clear hh hho hr;go_wp2_with fail;refine HOf.out.mono ?_;rintro e w1 ⟨rfl,hb1⟩
    have HB1:=Lib.hid (HB.out.trans (Below.mono hb1 HB.out.size))
    clear hb1;go_wp2_with (go_at_call 95;refine (HHo.out _).mono ?_;rintro e w2 ⟨rfl,rfl⟩)
    go_ret;refine ⟨?_,HB1.out⟩
    have:R=(x:Int):=by rw [HRr.out];unfold idxR;have:=HX.out;simp only;omega
    rw [this]
    rfl
   |false=>
    rw [hh,if_neg (by decide)] at hr;rw [hh] at hho;have HHo:=Lib.hid hho;have HRr:=Lib.hid hr;clear hh hho hr;go_wp2_with fail;refine HOf.out.mono ?_;rintro e w1 ⟨rfl,hb1⟩
    have HB1:=Lib.hid (HB.out.trans (Below.mono hb1 HB.out.size))
    clear hb1;go_wp2_with (go_at_call 95;refine (HHo.out _).mono ?_;rintro e w2 ⟨rfl,rfl⟩)
    go_roundw
    case rel=>exact ⟨j+1,x+1,by have:=HX.out;omega,by have:=HX.out;omega,by go_num,HRr.out,HB1.out⟩
    case measure=>simp [intOf];omega
  ·obtain rfl:j=7:=by omega
   have hr2:R=lowI c:=hr;have HRr:=Lib.hid hr2;clear hr hr2 hx HR;go_wp2_with fail;go_loopw [6] (fun v6 wr=>∃y:Nat,1≤y∧y≤168∧v6= .int .i64 y∧(∀z:Int,1≤z→z<y→hld (wOffset z).1 c=false)∧Below w.heap.size w wr) (fun v6 _=>168-(intOf v6).toNat)
   case atStart=>exact ⟨1,by decide,by decide,rfl,fun z h0 h1=>by omega,HB.out⟩
   case round=>
    obtain ⟨y,hy0,hy1,rfl,hno,hb⟩:=hrel;have HNo:=Lib.hid hno;have HB:=Lib.hid hb;clear hb hno
    by_cases hly:y≤167
    ·have hol:=off_low (x:=(y:Int)) (by omega) (by omega)
     have hor:0≤(wOffset (y:Int)).1∧(wOffset (y:Int)).1≤70000:=by rw [hol];split <;>omega
     have hof:=roffset_calls (y:Int) wr (by omega) (by omega)
     have hat:=low_at (c:=c) (x:=(y:Int)) (by omega) (by omega)
     have hsn:hld (wOffset (y:Int)).1 c=false→∀z:Int,1≤z→z<((y+1:Nat):Int)→hld (wOffset z).1 c=false:=fun h z z0 z1=>by
      by_cases e:z=(y:Int)
      ·rw [e];exact h
      ·exact HNo.out z z0 (by omega)
     generalize (wOffset (y:Int)).1=o at hor hof hat hsn;generalize (wOffset (y:Int)).2=ok at hof;have hho:=fun w=>rholds_calls o c w hor.1 (by omega) h0 h1
     have HOf:=Lib.hid hof;clear hof hol
     cases hh:hld o c with
     |true=>
      have HAt:=Lib.hid (hat hh)
      rw [hh] at hho;have HHo:=Lib.hid hho;clear hh hho hat hsn;go_wp2_with fail;refine HOf.out.mono ?_;rintro e w1 ⟨rfl,hb1⟩
      have HB1:=Lib.hid (HB.out.trans (Below.mono hb1 HB.out.size))
      clear hb1;go_wp2_with (go_at_call 95;refine (HHo.out _).mono ?_;rintro e w2 ⟨rfl,rfl⟩)
      go_ret;refine ⟨?_,HB1.out⟩
      rw [HRr.out,HAt.out]
      rfl
     |false=>
      have HSn:=Lib.hid (hsn hh)
      rw [hh] at hho;have HHo:=Lib.hid hho;clear hh hho hat hsn;go_wp2_with fail;refine HOf.out.mono ?_;rintro e w1 ⟨rfl,hb1⟩
      have HB1:=Lib.hid (HB.out.trans (Below.mono hb1 HB.out.size))
      clear hb1;go_wp2_with (go_at_call 95;refine (HHo.out _).mono ?_;rintro e w2 ⟨rfl,rfl⟩)
      go_roundw
      case rel=>exact ⟨y+1,by omega,by omega,by go_num,HSn.out,HB1.out⟩
      case measure=>simp [intOf];omega
    ·have hn:=low_none (c:=c) (fun z z0 z1=>HNo.out z z0 (by omega))
     have HN:=Lib.hid hn;clear hn;go_wp2_with fail;go_ret;exact ⟨by rw [HRr.out,HN.out];rfl,HB.out⟩
def OPost (w:World) (c:Int) (e:Ending) (w':World):Prop:=e= .returned (.tuple #[.int .u32 (ownC c).1,.bool (ownC c).2])∧Below w.heap.size w w'
theorem rown_calls (c:Int) (w:World) (h0:0≤c) (h1:c≤4294967295):Calls Tryz.prog 112 #[.int .u32 c] w (OPost w c):=by
 unfold OPost
 by_cases hc:c>65535
 ·have e:ownC c=(c/128*128,true):=by unfold ownC;rw [if_pos (by omega)]
  have e1:c.tdiv 128=c/128:=Int.tdiv_eq_ediv_of_nonneg h0;rw [e]
  go_enter Tryz.func112,Tryz.ntmps112;go_wp2_with fail;go_ret2;exact ⟨rfl,Below.refl _ _⟩
 ·have e:ownC c=((wOffset (wIndex c).1).1,(wIndex c).2):=by unfold ownC;rw [if_neg (by omega)]
  have hr:=idx_rng h0 h1;have HI:=Lib.hid (rindex_calls c w h0 h1)
  unfold IPost ridx at HI
  cases hw:(wIndex c).2 with
  |false=>
   have hz:(wIndex c).1=0:=by
    unfold wIndex at hw ⊢
    split at hw
    ·cases hw
    ·split at hw
     ·cases hw
     ·split at hw
      ·cases hw
      ·rename_i h2 h3;rw [if_neg h2,if_neg h3]
   rw [hz,hw,show (wOffset 0).1=0 from by decide +kernel] at e;rw [hw,if_neg (by decide)] at HI;rw [e]
   go_enter Tryz.func112,Tryz.ntmps112;go_wp2_with fail;refine HI.out.mono ?_;rintro e w1 ⟨rfl,hb1⟩
   have HB1:=Lib.hid hb1;clear hb1;go_wp2_with fail;go_ret2;exact ⟨rfl,HB1.out⟩
  |true=>
   have ho2:=(index_own h0 hw).2;rw [hw,if_pos rfl] at HI;rw [hw] at e;rw [e]
   have HO:=Lib.hid (fun w=>roffset_calls (wIndex c).1 w hr.1 hr.2)
   rw [ho2] at HO;generalize (wOffset (wIndex c).1).1=o at HO ⊢;generalize (wIndex c).1=x at HI HO hr;obtain ⟨r0,r1⟩:=hr;clear e hw ho2;go_enter Tryz.func112,Tryz.ntmps112;go_wp2_with fail;refine HI.out.mono ?_;rintro e w1 ⟨rfl,hb1⟩
   have HB1:=Lib.hid hb1;clear hb1;go_wp2_with fail;refine (HO.out _).mono ?_;rintro e w2 ⟨rfl,hb2⟩
   have HB2:=Lib.hid (HB1.out.trans (Below.mono hb2 HB1.out.size))
   clear hb2;go_wp2_with fail;go_ret2;exact ⟨rfl,HB2.out⟩
end Rfc
namespace Rfc
open Go.RowKit Win Stp Go.Proofs.YtooiooledeblmaaGreat.Lst Enc
section
variable {B:Nat} {w:World} {g gw go gu cu:Nat} {v:Value} {x:Int} {S:List Int} {m:E} {d:Int}
theorem sfind_calls (c:Int) (h:StAt B w g gw go gu cu v x S m d) (hG:EG m) (h0:0≤c) (h1:c≤4294967295):Calls Tryz.prog 90 #[.pointer (some ⟨gw,0,none⟩),.int .u32 c] w fun e w'=>e= .returned (.int .i64 (if (wFind m.o c).2=true then (wFind m.o c).1 else -1))∧w=w':=by
 have:=rfind_calls gw go gu cu m.o m.u c w h.win hG.rng h0 h1
 rwa [find_same] at this
theorem reasy_calls (c:Int) (h:StAt B w g gw go gu cu v x S m d) (hG:EG m) (h0:0≤c) (h1:c≤4294967295):Calls Tryz.prog 88 #[.pointer (some ⟨g,0,none⟩),.int .u32 c] w fun e w'=>e= .returned (.bool (easyB m.o c))∧w=w':=by
 have f1:=h.f1;have HP:=Lib.hid (rpass_calls c)
 have hF:=sfind_calls c h hG h0 h1;have hsp:=find_spec (c:=c) hG;have hpi:=passB_iff (c:=c)
 unfold easyB;generalize passB c=p at HP hpi
 cases p with
 |true=>
  have hc:c<128:=by have:=hpi.1 rfl;omega
  rw [decide_eq_true hc,Bool.or_true]
  clear hsp hpi hF h hG;go_enter Tryz.func88,Tryz.ntmps88;go_wp2_with (go_at_call 87;refine (HP.out _).mono ?_;rintro e w1 ⟨rfl,rfl⟩)
  go_ret;exact ⟨rfl,rfl⟩
 |false=>
  have hn:¬((32≤c∧c<128)∨c=0∨c=9∨c=10∨c=13):=fun hh=>by have:=hpi.2 hh;cases this
  by_cases h32:c<32
  ·rw [decide_eq_true (show c<128 by omega),Bool.or_true]
   clear hsp hpi hF h hG hn;go_enter Tryz.func88,Tryz.ntmps88;go_wp2_with (go_at_call 87;refine (HP.out _).mono ?_;rintro e w1 ⟨rfl,rfl⟩)
   go_ret;exact ⟨rfl,rfl⟩
  ·rw [decide_eq_false (show ¬c<128 by omega),Bool.or_false]
   generalize wFind m.o c=r at hF hsp ⊢;obtain ⟨n,z⟩:=r
   cases z with
   |true=>
    have hn0:=(hsp rfl).1;rw [if_pos rfl] at hF;have HF:=Lib.hid hF;simp only at hn0;clear hsp hpi hF h hG hn;go_enter Tryz.func88,Tryz.ntmps88;go_wp2_with (first|(go_at_call 87;refine (HP.out _).mono ?_;rintro e w1 ⟨rfl,rfl⟩)|(go_at_call 90;refine HF.out.mono ?_;rintro e w1 ⟨rfl,rfl⟩))
    go_ret;exact ⟨rfl,rfl⟩
   |false=>
    rw [if_neg (by simp)] at hF;have HF:=Lib.hid hF;have h32':decide (c<32)=false:=decide_eq_false h32;clear hsp hpi hF h hG hn h32;go_enter Tryz.func88,Tryz.ntmps88;go_wp2_with (first|(go_at_call 87;refine (HP.out _).mono ?_;rintro e w1 ⟨rfl,rfl⟩)|(go_at_call 90;refine HF.out.mono ?_;rintro e w1 ⟨rfl,rfl⟩))
    go_ret;exact ⟨rfl,rfl⟩
theorem rsoft_calls (h:StAt B w g gw go gu cu v x S m d) (hG:EG m) (h0:0≤d) (h1:d≤4294967295):Calls Tryz.prog 89 #[.pointer (some ⟨g,0,none⟩)] w fun e w'=>e= .returned (.bool (softB m.o d))∧w=w':=by
 have f4:=h.f4;have f5:=h.f5;have hnx:=h.nx;unfold softB
 cases hd:(d==2147483648) with
 |true=>
  have hd2:(d !=2147483648)=false:=by rw [bne,hd];rfl
  rw [hd2] at f5;rw [Bool.true_or]
  clear h hG hnx hd hd2;go_enter Tryz.func89,Tryz.ntmps89;go_wp2_with fail;go_ret;exact ⟨rfl,rfl⟩
 |false=>
  have hd2:(d !=2147483648)=true:=by rw [bne,hd];rfl
  rw [hd2] at f5;rw [Bool.false_or]
  obtain rfl:x=d:=hnx (by rw [beq_eq_false_iff_ne] at hd;exact hd)
  have HE:=Lib.hid (reasy_calls x h hG h0 h1)
  clear h hG hnx hd hd2;go_enter Tryz.func89,Tryz.ntmps89;go_wp2_with (go_at_call 88;refine HE.out.mono ?_;rintro e w1 ⟨rfl,rfl⟩)
  go_ret;exact ⟨rfl,rfl⟩
theorem rtwins_calls (c:Int) (h:StAt B w g gw go gu cu v x S m d) (h0:0≤c) (h1:c≤4294967295) (d0:0≤d) (d1:d≤4294967295):Calls Tryz.prog 93 #[.pointer (some ⟨g,0,none⟩),.int .u32 c] w fun e w'=>e= .returned (.bool (twinsB c d))∧Below w.heap.size w w':=by
 have HO:=Lib.hid (rown_calls c w h0 h1)
 have hrg:0≤(ownC c).1∧(ownC c).1≤4294967295:=own_rng h0 h1;have H:=Lib.hid h;have hnx:=h.nx;unfold OPost at HO;unfold twinsB;generalize ownC c=r at HO hrg ⊢;obtain ⟨o,ok⟩:=r;obtain ⟨r0,r1⟩:=hrg;simp only at r0 r1;clear h
 cases ok with
 |false=>
  go_enter Tryz.func93,Tryz.ntmps93;go_wp2_with fail;refine HO.out.mono ?_;rintro e w1 ⟨rfl,hb⟩
  have HB:=Lib.hid hb;clear hb;go_wp2_with fail;go_ret;exact ⟨rfl,HB.out⟩
 |true=>
  cases hd:(d !=2147483648) with
  |false=>
   go_enter Tryz.func93,Tryz.ntmps93;go_wp2_with fail;refine HO.out.mono ?_;rintro e w1 ⟨rfl,hb⟩
   have f5:=(H.out.below hb).f5;rw [hd] at f5;have HB:=Lib.hid hb;clear hb;go_wp2_with fail;go_ret;exact ⟨rfl,HB.out⟩
  |true=>
   obtain rfl:x=d:=hnx (by simpa using hd)
   have HH:=Lib.hid (fun w=>rholds_calls o x w r0 r1 d0 d1)
   go_enter Tryz.func93,Tryz.ntmps93;go_wp2_with fail;refine HO.out.mono ?_;rintro e w1 ⟨rfl,hb⟩
   have f5:=(H.out.below hb).f5;have f4:=(H.out.below hb).f4;rw [hd] at f5;have HB:=Lib.hid hb;clear hb;go_wp2_with (go_at_call 95;refine (HH.out _).mono ?_;rintro e w2 ⟨rfl,rfl⟩)
   go_ret;exact ⟨rfl,HB.out⟩
theorem rin_calls (n c:Int) (h:StAt B w g gw go gu cu v x S m d) (hG:EG m) (n0:0≤n) (n8:n<8) (hc:hld (wAt m.o n) c=true) (h1:c≤1114111):Calls Tryz.prog 96 #[.pointer (some ⟨g,0,none⟩),.int .i64 n,.int .u32 c] w fun e w'=>e= .returned (.int .u8 (128+c-wAt m.o n))∧w=w':=by
 have f1:=h.f1;have r0:=h.win.f0;obtain ⟨k,rfl⟩:∃k:Nat,n=(k:Int):=⟨n.toNat,by omega⟩
 have hk:k<8:=by omega
 have hcell:=h.win.off k hk;have ha:=hG.at_ n0 n8;have hw:wAt m.o (k:Int)=m.o.getD k 0:=by unfold wAt;rw [if_pos (by omega)];simp
 rw [hw] at ha hc ⊢;generalize m.o.getD k 0=o at*;rw [hld_iff] at hc;obtain ⟨c0,c1⟩:=hc;obtain ⟨a0,a1⟩:=ha;clear h hG hw n0 n8;go_enter Tryz.func96,Tryz.ntmps96;go_wp2_with fail;go_ret;exact ⟨rfl,rfl⟩
end
theorem rstatic_calls (c:Int) (w:World) (h0:0≤c) (h1:c≤4294967295):Calls Tryz.prog 97 #[.int .u32 c] w fun e w'=>e= .returned (.int .i64 (staticC c).1)∧Below w.heap.size w w':=by
 obtain ⟨R,hR⟩:∃R,R=(staticC c).1:=⟨_,rfl⟩
 rw [←hR]
 have HR:=Lib.hid hR;clear hR;go_enter Tryz.func97,Tryz.ntmps97;go_wp2_with fail;go_loopw [3] (fun v3 wr=>∃k:Nat,1≤k∧k≤8∧v3= .int .i64 k∧findFrom c 1 (statics.drop 1)=findFrom c k (statics.drop k)∧Below w.heap.size w wr) (fun v3 _=>8-(intOf v3).toNat)
 case atStart=>exact ⟨1,Nat.le_refl _,by decide,rfl,rfl,Below.refl _ _⟩
 case round=>
  obtain ⟨k,hk1,hk8,rfl,hf,hb⟩:=hrel;have HB:=Lib.hid hb;clear hb
  by_cases hlt:k<8
  ·have hrg:=static_rng2 hlt
   rw [find_step c statics k hlt] at hf;obtain ⟨o,ho⟩:∃o,o=statics.getD k 0:=⟨_,rfl⟩
   rw [←ho] at hrg hf;obtain ⟨r0,r1⟩:=hrg;have hh:=rholds_calls o c;have HOo:=Lib.hid ho
   cases hx:hld o c with
   |true=>
    rw [hx] at hf hh;rw [if_pos rfl] at hf;have HV:=Lib.hid (show (staticC c).1=(k:Int) by unfold staticC;rw [hf];rfl)
    have HH:=Lib.hid (fun w=>hh w r0 (by omega) h0 h1)
    clear hf hh hx ho;go_wp2_with fail;refine (rstatics_calls _).mono ?_;rintro e w1 ⟨rfl,hrow,hb1,_⟩
    have hcell:=hrow.cell k (by exact hlt)
    rw [←HOo.out] at hcell;have HB1:=Lib.hid (HB.out.trans (Below.mono hb1 HB.out.size))
    clear hrow hb1;go_wp2_with (go_at_call 95;refine (HH.out _).mono ?_;rintro e w2 ⟨rfl,rfl⟩)
    go_ret;exact ⟨by rw [HR.out,HV.out];rfl,HB1.out⟩
   |false=>
    rw [hx] at hf hh;rw [if_neg (by decide)] at hf;have HF:=Lib.hid hf;have HH:=Lib.hid (fun w=>hh w r0 (by omega) h0 h1)
    clear hf hh hx ho;go_wp2_with fail;refine (rstatics_calls _).mono ?_;rintro e w1 ⟨rfl,hrow,hb1,_⟩
    have hcell:=hrow.cell k (by exact hlt)
    rw [←HOo.out] at hcell;have HB1:=Lib.hid (HB.out.trans (Below.mono hb1 HB.out.size))
    clear hrow hb1;go_wp2_with (go_at_call 95;refine (HH.out _).mono ?_;rintro e w2 ⟨rfl,rfl⟩)
    go_roundw
    case rel=>exact ⟨k+1,by omega,hlt,by go_num,HF.out,HB1.out⟩
    case measure=>simp [intOf];omega
  ·obtain rfl:k=8:=by omega
   have HV:=Lib.hid (show (staticC c).1=0 by unfold staticC;rw [hf];rfl)
   clear hf;go_wp2_with fail;go_ret;exact ⟨by rw [HR.out,HV.out];rfl,HB.out⟩
end Rfc
namespace Rfc
open Go.RowKit Win Stp Go.Proofs.YtooiooledeblmaaGreat.Lst Enc
theorem St.below {B:Nat} {w w':World} {g:Nat} {S:List Int} {m:E} {d:Int} (h:St B w g S m d) (hb:Below w.heap.size w w'):St B w' g S m d:=by
 obtain ⟨gw,go,gu,cu,v,x,h⟩:=h;exact ⟨gw,go,gu,cu,v,x,h.below hb⟩
theorem St.bs {B:Nat} {w:World} {g:Nat} {S:List Int} {m:E} {d:Int} (h:St B w g S m d):B≤w.heap.size:=by
 obtain ⟨gw,go,gu,cu,v,x,h⟩:=h;exact h.bs
theorem lst_lit (w:World) (xs:List Int):Lst (w.alloc (.cells (xs.map fun x=>Value.int .u8 x).toArray 5)) .u8 (some ⟨w.heap.size,0,none⟩) xs:=fun j hj=>by
 refine ⟨_,rfl,?_⟩
 rw [Addr.add_lit,cell_of (heap_alloc_new _ _)]
 simp [hj]
theorem rput {B:Nat} {w:World} {g:Nat} {S:List Int} {m:E} {d:Int} (xs:List Int) (h:St B w g S m d) (hl:(S++xs).length≤500000):Calls Tryz.prog 52 #[.pointer (some ⟨g,0,none⟩),.slice (some ⟨w.heap.size,0,none⟩) xs.length xs.length] (w.alloc (.cells (xs.map fun x=>Value.int .u8 x).toArray 5)) (SPost B w g (.tuple #[]) (S++xs) m d):=by
 have hb:Below w.heap.size w (w.alloc (.cells (xs.map fun x=>Value.int .u8 x).toArray 5)):=(Below.refl _ _).alloc (Nat.le_refl _) _;refine (put_calls (h.below hb) (lst_lit w xs) rfl (by intro e;cases e) hl).mono ?_;rintro e w' ⟨rfl,h1,h2⟩
 exact ⟨rfl,h1,(hb.mono h.bs).trans h2⟩
theorem conv_bytes (w:World) (l:List Int) (hr:∀x∈l,0≤x∧x≤255):∃W cap,(convert 9 68 (.string (strOfNums l))).run Tryz.prog w= .ok (.slice (some ⟨w.heap.size,0,none⟩) l.length cap) W∧Below w.heap.size w W∧Lst W .u8 (some ⟨w.heap.size,0,none⟩) l:=by
 have hcv:=Lib.run_convert_string_bytes (P:=Tryz.prog) w 9 68 5 (strOfNums l) Tryz.underlying9 Tryz.underlying68 Tryz.underlying5;rw [Out.str_size l] at hcv;refine ⟨_,_,hcv,⟨rfl,rfl,rfl,by rw [Lib.bytesWorld_size];omega,fun i hi=>Lib.bytesWorld_at_old w _ _ i hi⟩,fun j hj=>⟨_,rfl,?_⟩⟩
 have hn:=Lib.bytesWorld_at_new w 5 (strOfNums l)
 rw [Out.bytesCells_row w l hr] at hn;rw [Addr.add_lit,Nat.zero_add]
 exact Out.row_cell hn hj
def unitsQ (q:Bool) (c:Int):List Int:=(if (q&&tagB c)=true then [240] else [])++Out.uni16B true c
theorem unitsQ_c (c:Int):unitsQ true c=unitsC c:=by
 unfold unitsQ unitsC Out.uni16B Out.unitB tagB
 by_cases h:65536≤c
 ·rw [if_pos h,if_neg (show ¬c<65536 by omega),if_neg (by simp;omega)]
  rfl
 ·rw [if_neg h,if_pos (show c<65536 by omega),Bool.true_and]
  rfl
section
variable {B:Nat} {w:World} {g:Nat} {S:List Int} {m:E} {d:Int}
set_option maxHeartbeats 2000000 in
theorem rsunits_calls (q:Bool) (c:Int) (h:St B w g S m d) (h0:0≤c) (hb:isB c=true) (hl:S.length≤400000):Calls Tryz.prog 86 #[.pointer (some ⟨g,0,none⟩),.int .u32 c,.bool q] w (SPost B w g (.tuple #[]) (S++unitsQ q c) m d):=by
 unfold unitsQ;obtain ⟨P,hP⟩:∃P:List Int,P=(if (q&&tagB c)=true then [240] else []):=⟨_,rfl⟩
 obtain ⟨U,hU⟩:∃U,U=Out.uni16B true c:=⟨_,rfl⟩
 rw [←hP,←hU]
 have HU:=Lib.hid hU;clear hU;have H:=Lib.hid h;have HBs:=Lib.hid hb;have HPp:=Lib.hid hP;have hPl:P.length≤1:=by rw [hP];split <;>simp
 clear h hb;obtain ⟨z,hz⟩:∃z:Bool,z=(q&&tagB c):=⟨_,rfl⟩
 rw [←hz] at hP;have HPz:=Lib.hid hP;have hc:(q=true∧57344≤c∧c≤62207∧z=true)∨(q=false∧z=false)∨(q=true∧¬57344≤c∧z=false)∨(q=true∧57344≤c∧¬c≤62207∧z=false):=by
  rw [hz]
  unfold tagB
  cases q with
  |false=>simp
  |true=>
   by_cases c1:57344≤c <;>by_cases c2:c≤62207 <;>simp [c1,c2]
 clear hP hz;go_enter Tryz.func86,Tryz.ntmps86;go_upto_region 0 with fail;go_cut [14] from 6 to 14 (fun v wx=>v= .bool z∧w=wx)
 case first=>
  rcases hc with ⟨rfl,c1,c2,rfl⟩|⟨rfl,rfl⟩|⟨rfl,c1,rfl⟩|⟨rfl,c1,c2,rfl⟩
  all_goals
   go_wp2_with fail;go_meet;exact ⟨rfl,rfl⟩
 case rest=>
 obtain ⟨rfl,rfl⟩:=hcut;clear hc;go_upto_if 14 with fail;go_cut [] (fun wx=>St B wx g (S++P) m d∧Below B w wx)
 case first=>
  have hP:=HPz.out
  cases z with
  |true=>
   rw [if_pos rfl] at hP;subst hP;have HK:=Lib.hid (rput [240] H.out (by simp;omega))
   go_wp2_with fail;refine HK.out.mono ?_;rintro e w1 ⟨rfl,h1,h2⟩
   have H1:=Lib.hid h1;have H2:=Lib.hid h2;clear h1 h2;go_wp2_with fail;go_meet;exact ⟨H1.out,H2.out⟩
  |false=>
   rw [if_neg (by decide)] at hP;subst hP;go_wp2_with fail;go_meet;rw [List.append_nil]
   exact ⟨H.out,Below.refl _ _⟩
 case rest=>
  obtain ⟨h1,h2⟩:=hcut;have hls:Lst (wc.alloc (.cells #[.int .u32 c] 31)) .u32 (some ⟨wc.heap.size,0,none⟩) [c]:=fun j hj=>by
   have:j=0:=by simp at hj;omega
   subst this;exact ⟨_,rfl,by rw [Addr.add_lit,cell_of (heap_alloc_new _ _)];rfl⟩
  have hby:=Ref.bytes4_calls true (cap:=1) hls (by simp) (fun x hx=>by rw [List.mem_singleton.1 hx];exact ⟨h0,HBs.out⟩)
  have hfl:[c].flatMap (Out.uni16B true)=Out.uni16B true c:=by simp
  rw [hfl] at hby;have hur:∀x∈Out.uni16B true c,0≤x∧x≤255:=by
   have:=(Out.isB_iff.1 HBs.out).1;unfold Out.uni16B Out.unitB
   split <;>simp <;>omega
  have hul:=Out.uni16B_len true c;rw [←HU.out] at hby hur hul;have h3:=h1.below ((Below.refl _ _).alloc (Nat.le_refl _) (.cells #[.int .u32 c] 31))
  have HBy:=Lib.hid hby;have HUr:=Lib.hid hur;have H3:=Lib.hid h3;have H2:=Lib.hid (h2.alloc h1.bs (.cells #[.int .u32 c] 31))
  clear hby hur h1 h2 h3 hls;go_wp2_with fail;refine HBy.out.mono ?_;rintro e w1 ⟨rfl,hb1⟩
  obtain ⟨W,cap,hcv,hbW,hLW⟩:=conv_bytes w1 U HUr.out;have H4:=Lib.hid (H3.out.below (hb1.trans (hbW.mono hb1.size)))
  have H5:=Lib.hid ((H2.out.trans (hb1.mono H3.out.bs)).trans (hbW.mono (Nat.le_trans H3.out.bs hb1.size)))
  have HK:=Lib.hid (put_calls H4.out hLW rfl (by intro e;cases e) (c:=cap) (by rw [List.length_append,List.length_append];omega))
  clear hb1 hbW hLW;obtain ⟨US,hUS⟩:∃s,s=strOfNums U:=⟨_,rfl⟩
  rw [←hUS] at hcv ⊢;clear hUS;go_wp2_with fail;refine HK.out.mono ?_;rintro e w2 ⟨rfl,h6,h7⟩
  have H6:=Lib.hid h6;have H7:=Lib.hid (H5.out.trans h7)
  clear h6 h7;go_wp2_with fail;go_end0;exact ⟨rfl,by rw [←List.append_assoc];exact H6.out,H7.out⟩
end
end Rfc
namespace Rfc
open Go.RowKit Win Stp Go.Proofs.YtooiooledeblmaaGreat.Lst Enc
def EasyPost (B:Nat) (w:World) (g:Nat) (S:List Int) (m:E) (d:Int) (r:Option (List Int)) (e:Ending) (w':World):Prop:=
 match r with
 |some x=>SPost B w g (.bool true) (S++x) m d e w'
 |none=>SPost B w g (.bool false) S m d e w'
theorem St.of {B:Nat} {w:World} {g gw go gu cu:Nat} {v:Value} {x:Int} {S:List Int} {m:E} {d:Int} (h:StAt B w g gw go gu cu v x S m d):St B w g S m d:=⟨gw,go,gu,cu,v,x,h⟩
theorem St.same {B:Nat} {w:World} {g:Nat} {S:List Int} {m m':E} {d:Int} (h:St B w g S m d) (ho:m'.o=m.o) (hu:m'.u=m.u) (ha:m'.act=m.act) (hn:m'.uni=m.uni):St B w g S m' d:=by
 obtain ⟨gw,go,gu,cu,v,x,h⟩:=h;exact ⟨gw,go,gu,cu,v,x,by rw [hn,ha];exact h.blk,by rw [ho,hu];exact h.win,h.row,h.nx,h.sl,h.bg,h.bw,h.bo,h.bu,h.bs⟩
section
variable {B:Nat} {w:World} {g:Nat} {S:List Int} {m:E} {d:Int}
set_option maxHeartbeats 4000000 in
theorem easiest_calls (c:Int) (h:St B w g S m d) (hG:EG m) (h0:0≤c) (h1:c≤1114111) (hl:S.length≤400000):
  Calls Tryz.prog 92 #[.pointer (some ⟨g,0,none⟩),.int .u32 c] w (EasyPost B w g S m d (simpleC m c)):=by
 have HP:=Lib.hid (rpass_calls c)
 unfold simpleC
 cases hp:passB c with
 |true=>
  rw [if_pos rfl]
  rw [hp] at HP;have hb:c≤127:=by have:=passB_iff.1 hp;omega
  have HK:=Lib.hid (rput [c] h (by simp;omega))
  clear h hG hp;go_enter Tryz.func92,Tryz.ntmps92;go_wp2_with fail;refine (HP.out _).mono ?_;rintro e w1 ⟨rfl,rfl⟩
  go_wp2_with fail;refine HK.out.mono ?_;rintro e w1 ⟨rfl,hd,hc⟩
  have HD:=Lib.hid hd;have HC:=Lib.hid hc;clear hd hc;go_wp2_with fail;go_ret;exact ⟨rfl,HD.out,HC.out⟩
 |false=>
  rw [if_neg (by decide)]
  rw [hp] at HP
  by_cases h32:c<32
  ·rw [if_pos h32]
   have HK:=Lib.hid (rput [1,c] h (by simp;omega))
   clear h hG hp;go_enter Tryz.func92,Tryz.ntmps92;go_wp2_with fail;refine (HP.out _).mono ?_;rintro e w1 ⟨rfl,rfl⟩
   go_wp2_with fail;refine HK.out.mono ?_;rintro e w1 ⟨rfl,hd,hc⟩
   have HD:=Lib.hid hd;have HC:=Lib.hid hc;clear hd hc;go_wp2_with fail;go_ret;exact ⟨rfl,HD.out,HC.out⟩
  ·rw [if_neg h32]
   have H:=Lib.hid h;obtain ⟨gw,go,gu,cu,v,x,hs⟩:=h;have f1:=hs.f1;have f3:=hs.f3;have r0:=hs.win.f0;obtain ⟨k,hk⟩:∃k:Nat,m.act=(k:Int):=⟨m.act.toNat,by have:=hG.act;omega⟩
   have hk8:k<8:=by have:=hG.act;omega
   have hcell:=hs.win.off k hk8;have ha:=hG.at_ hG.act.1 hG.act.2;have hw:wAt m.o m.act=m.o.getD k 0:=by unfold wAt;rw [hk,if_pos (by omega)];simp
   have hri:=fun n (hh:hld (wAt m.o m.act) c=true)=>rin_calls m.act c (hs.drewN n) hG hG.act.1 hG.act.2 hh h1
   rw [hw] at ha ⊢;rw [hw,hk] at hri;rw [hk] at f3;generalize m.o.getD k 0=o at ha hcell hri ⊢;have HH:=Lib.hid (fun w=>rholds_calls o c w (by omega) (by omega) h0 (by omega))
   cases hh:hld o c with
   |false=>
    rw [hh] at HH;rw [if_neg (by decide)]
    clear hs hG hp hri hh hw;go_enter Tryz.func92,Tryz.ntmps92;go_wp2_with fail;refine (HP.out _).mono ?_;rintro e w1 ⟨rfl,rfl⟩
    go_wp2_with fail;go_quiet ((go_at_call 95;exact Calls.quiet_of_same ((HH.out _).mono (fun e w' h=>⟨h.1,h.2.symm⟩))))
    go_wp2_with fail;go_ret;exact ⟨rfl,H.out.below (below_drewN (Below.refl _ _) _),below_drewN (Below.refl _ _) _⟩
   |true=>
    rw [hh] at HH;rw [if_pos rfl]
    have HR:=Lib.hid (fun n=>hri n hh)
    have hoc:o≤c∧c-o<128:=hld_iff.1 hh;have HK:=Lib.hid (fun n=>rput [128+c-o] (H.out.below (below_drewN (Below.refl w.heap.size w) n)) (by simp;omega))
    clear hs hG hp hri hh hw;go_enter Tryz.func92,Tryz.ntmps92;go_wp2_with fail;refine (HP.out _).mono ?_;rintro e w1 ⟨rfl,rfl⟩
    go_wp2_with fail;go_quiet ((go_at_call 95;exact Calls.quiet_of_same ((HH.out _).mono (fun e w' h=>⟨h.1,h.2.symm⟩))))
    go_wp2_with fail;refine (HR.out _).mono ?_;rintro e w2 ⟨rfl,rfl⟩
    go_wp2_with fail;refine (HK.out _).mono ?_;rintro e w3 ⟨rfl,hd,hc⟩
    have HD:=Lib.hid hd;have HC:=Lib.hid ((below_drewN (Below.refl B w) _).trans hc)
    clear hd hc;go_wp2_with fail;go_ret;exact ⟨rfl,HD.out,HC.out⟩
end
theorem StAt.setO {B:Nat} {w:World} {g gw go gu cu:Nat} {v:Value} {x:Int} {S:List Int} {m:E} {d:Int} (h:StAt B w g gw go gu cu v x S m d) (k:Nat) (o:Int):StAt B (w.setCell ⟨go,k,none⟩ (.int .u32 o)) g gw go gu cu v x S {m with o:=m.o.set k o} d:=by
 obtain ⟨n1,n2,n3⟩:=h.ne;exact ⟨(Below.heap_setCell w _ _ g (fun e=>n2 e.symm)).trans h.blk,refAt_setO h.win k o,Out.own_chg h.row (Chg.set (S:=fun i=>i=go) w rfl k _) (fun j hj e=>own_ne h.row h.win.offs.blk (by decide) (e▸hj)),h.nx,h.sl,h.bg,h.bw,h.bo,h.bu,by simpa [World.setCell] using h.bs⟩
def TPost (B:Nat) (w:World) (g gw go:Nat) (v:Value) (x:Int) (S:List Int) (m:E) (d:Int) (e:Ending) (w':World):Prop:=e= .returned (.tuple #[])∧(∃gu cu,StAt B w' g gw go gu cu v x S m d)∧Below B w w'
theorem stouch_calls {B:Nat} {w:World} {g gw go gu cu:Nat} {v:Value} {x:Int} {S:List Int} {m:E} {d:Int} (n:Int) (h:StAt B w g gw go gu cu v x S m d) (hr:rTouch m.u n=wTouch m.u n):Calls Tryz.prog 91 #[.pointer (some ⟨gw,0,none⟩),.int .i64 n] w (TPost B w g gw go v x S {m with u:=wTouch m.u n} d):=by
 refine (rtouch_calls gw go gu cu m.o m.u n w h.win).mono ?_;rintro e w' ⟨rfl,hc,gu',cu',hw,hg⟩
 obtain ⟨n1,n2,n3⟩:=h.ne;rw [hr] at hw;refine ⟨rfl,⟨gu',cu',(hc.block g h.lt (fun e=>n1 e.symm)).trans h.blk,hw,Out.own_chg h.row hc (fun j hj e=>own_ne h.row h.win.blk (by decide) (e▸hj)),h.nx,h.sl,h.bg,h.bw,h.bo,?_,Nat.le_trans h.bs hc.size⟩,⟨hc.os,hc.tape,hc.output,hc.size,fun i hi=>hc.block i (Nat.lt_of_lt_of_le hi h.bs) (fun e=>by have:=h.bw;omega)⟩⟩
 rcases hg with rfl|hg
 ·exact h.bu
 ·exact Nat.le_trans h.bs hg
set_option maxRecDepth 100000 in
set_option maxHeartbeats 8000000 in
theorem rlay_calls {B:Nat} {w:World} {g:Nat} {S:List Int} {m:E} {d:Int} (c ix pr:Int) (h:St B w g S m d) (hG:EG m) (h0:0≤c) (h1:c≤1114111) (hl:S.length≤400000) (ho:(ownC c).2=true) (i0:0≤ix) (i1:ix≤240) (p0:0≤pr) (p1:pr≤255):
  Calls Tryz.prog 94 #[.pointer (some ⟨g,0,none⟩),.int .u32 c,.int .i64 ix,.int .i64 pr] w (SPost B w g (.tuple #[]) (S++layE m c ix pr) (layM m c) d):=by
 obtain ⟨gw,go,gu,cu,v,x,hs⟩:=h;have hor:=old_rng hG;have hown:=own_hld h0 ho;have hor2:=own_rng (c:=c) h0 (by omega)
 have hGl:=hG.lay h0 h1 ho;have HOwn:=Lib.hid (rown_calls c w h0 (by omega))
 have HIx:=Lib.hid (fun w=>rindex_calls c w h0 (by omega))
 have hts:=touch_same hG hor.1 hor.2;have hlo:=hG.lo;have f1:=hs.f1;have r1:=hs.win.f1;have u0:=hs.win.use 0 (by decide)
 have hixr:=idx_rng (c:=c) h0 (by omega)
 have hix:c≤65535→ridx c=(wIndex c).1:=fun hc=>by
  unfold ridx;have:(wIndex c).2=true:=by
   unfold ownC at ho;rw [if_neg (by omega)] at ho;exact ho
  rw [if_pos this]
 unfold OPost at HOwn;rw [ho] at HOwn;unfold IPost at HIx;have hpr:((wPair (oldC m) c).2.2=true∧65535<c∧(wPair (oldC m) c).1=oldC m*32+(c-65536)/128/256∧(wPair (oldC m) c).2.1=(c-65536)/128%256)∨((wPair (oldC m) c).2.2=false∧c≤65535):=by
  unfold wPair
  by_cases hc:65536≤c
  ·rw [if_pos ⟨hor.1,hor.2,hc,h1⟩];exact .inl ⟨rfl,by omega,rfl,rfl⟩
  ·rw [if_neg (by omega)];exact .inr ⟨rfl,by omega⟩
 have hmE:layM m c={m with o:=m.o.set (oldC m).toNat (ownC c).1,act:=oldC m,u:=wTouch m.u (oldC m),uni:=false}:=rfl;rw [hmE] at hGl;unfold layE;rw [hmE]
 obtain ⟨n,hn⟩:∃n:Nat,oldC m=(n:Int):=⟨(oldC m).toNat,by omega⟩
 have hu0:m.u.getD 0 0=(n:Int):=by rw [←hn];rfl
 rw [hu0] at u0;rw [hn] at hor hts hpr hGl ⊢;obtain ⟨o,ho2⟩:∃o,o=(ownC c).1:=⟨_,rfl⟩
 rw [←ho2] at HOwn hown hor2 hGl ⊢;rw [hld_iff] at hown;generalize wIndex c=xc at hix hixr ⊢;generalize wPair (n:Int) c=pc at hpr ⊢;obtain ⟨pa,pb,pk⟩:=pc;obtain ⟨xi,xk⟩:=xc;simp only [Int.toNat_natCast] at hpr hix hixr hGl ⊢;have hn8:n<8:=by omega
 obtain ⟨E1,hE1⟩:∃E1,E1=(if pk=true then [pr,pa,pb] else [ix+(n:Int),xi]):=⟨_,rfl⟩
 rw [←hE1]
 have hEl:E1.length≤3:=by rw [hE1];split <;>simp
 have HE1:=Lib.hid hE1;have H:=Lib.hid hs;have HG:=Lib.hid hG;have HGl:=Lib.hid hGl;have HTs:=Lib.hid hts;have HPr:=Lib.hid hpr;have HIxx:=Lib.hid hix;have hwat:wAt (m.o.set n o) (n:Int)=o:=wAt_set2 (by omega) (by omega) hlo;have HWat:=Lib.hid hwat;have HOwn2:=Lib.hid hown;clear hs hG hE1 hGl hts hpr hix hn hu0 ho ho2 hmE hwat hlo hor;obtain ⟨hixr0,hixr1⟩:=hixr;obtain ⟨hown0,hown1⟩:=hown;go_enter Tryz.func94,Tryz.ntmps94;go_wp2_with fail;refine HOwn.out.mono ?_;rintro e w1 ⟨rfl,hb⟩
 have H1:=Lib.hid (H.out.below hb)
 have HB1:=Lib.hid (hb.mono H.out.bs)
 clear hb f1 r1 u0 H;go_upto_if 27 with fail;go_cut [11] (fun v wx=>St B wx g (S++E1) m d∧Below B w wx)
 case first=>
  have hE:=HE1.out;rcases HPr.out with ⟨rfl,hc,rfl,rfl⟩|⟨rfl,hc⟩
  ·rw [if_pos rfl] at hE
   have hcm:(n:Int)*32=32*(n:Int):=Int.mul_comm _ _;have HK:=Lib.hid (rput [pr,32*(n:Int)+(c-65536)/128/256,(c-65536)/128%256] (St.of H1.out) (by rw [List.length_append];simp;omega))
   rw [hcm] at hE;have HE:=Lib.hid hE;clear hE hcm;go_wp2_with fail;refine HK.out.mono ?_;rintro e w2 ⟨rfl,hd,hc⟩
   have HD:=Lib.hid hd;have HC:=Lib.hid (HB1.out.trans hc)
   clear hd hc;go_wp2_with fail;go_meet;rw [HE.out]
   exact ⟨HD.out,HC.out⟩
  ·rw [if_neg (by decide)] at hE
   have HE:=Lib.hid hE;have hix:=HIxx.out hc;rw [hix] at HIx;clear hE hix;go_wp2_with fail;refine (HIx.out _).mono ?_;rintro e w2 ⟨rfl,hb2⟩
   have H2:=Lib.hid (H1.out.below hb2)
   have HB2:=Lib.hid (HB1.out.trans (hb2.mono H1.out.bs))
   have HK:=Lib.hid (rput [ix+(n:Int),xi] (St.of H2.out) (by rw [List.length_append];simp;omega))
   clear hb2;go_wp2_with fail;refine HK.out.mono ?_;rintro e w3 ⟨rfl,hd,hc⟩
   have HD:=Lib.hid hd;have HC:=Lib.hid (HB2.out.trans hc)
   clear hd hc;go_wp2_with fail;go_meet;rw [HE.out]
   exact ⟨HD.out,HC.out⟩
 case rest=>
  obtain ⟨hst,hbc⟩:=hcut;obtain ⟨gw,go,gu,cu,v,x,hs⟩:=hst;have f1:=hs.f1;have r0:=hs.win.f0;have hoc:=hs.win.off n hn8;have hof:=hs.win.offs.frozen n;have hso:=hs.setO n o;have HB2:=Lib.hid (hbc.setCell (p:=⟨go,n,none⟩) (by exact hs.bo) (.int .u32 o))
  have g1:=hso.f1;have HT:=Lib.hid (stouch_calls (n:Int) hso HTs.out)
  clear hs hbc hso HPr;go_wp2_with fail;refine HT.out.mono ?_;rintro e w3 ⟨rfl,⟨gu3,cu3,h3⟩,hb3⟩
  have q3:=h3.f3;have q2:=h3.f2;have z3:=h3.fz 3;have z2:=h3.fz 2;have h4:=h3.set 3 (.int .i64 (n:Int)) (x':=x) (d':=d) (m':={m with o:=m.o.set n o,u:=wTouch m.u (n:Int),act:=(n:Int)}) rfl rfl rfl h3.nx;have h5:=h4.set 2 (.bool false) (x':=x) (d':=d) (m':={m with o:=m.o.set n o,u:=wTouch m.u (n:Int),act:=(n:Int),uni:=false}) rfl rfl rfl h4.nx;have HB5:=Lib.hid (((HB2.out.trans hb3).trans (h3.setB 3 (.int .i64 (n:Int)))).trans (h4.setB 2 (.bool false)))
  have hrin:=rin_calls (n:Int) c h5 HGl.out (by omega) (by omega) (by show hld (wAt (m.o.set n o) (n:Int)) c=true;rw [HWat.out];exact hld_iff.2 HOwn2.out) h1;rw [show wAt ({m with o:=m.o.set n o,u:=wTouch m.u (n:Int),act:=(n:Int),uni:=false}:E).o (n:Int)=o from HWat.out] at hrin;have HRin:=Lib.hid hrin;have hk:=rput [128+c-o] (St.of h5) (by rw [List.length_append,List.length_append];simp;omega)
  have hsz:((w3.setCell ⟨g,3,none⟩ (.int .i64 (n:Int))).setCell ⟨g,2,none⟩ (.bool false)).heap.size=w3.heap.size:=by simp [World.setCell]
  rw [hsz] at hk;have HK:=Lib.hid hk;clear h3 h4 h5 hb3 hrin hk hsz;go_wp2_with fail;refine HRin.out.mono ?_;rintro e w6 ⟨rfl,rfl⟩
  go_wp2_with fail;refine HK.out.mono ?_;rintro e w7 ⟨rfl,hd,hc⟩
  have HD:=Lib.hid hd;have HC:=Lib.hid (HB5.out.trans hc)
  clear hd hc;go_wp2_with fail;go_end0;exact ⟨rfl,by rw [←List.append_assoc];exact HD.out,HC.out⟩
end Rfc
namespace Rfc
open Go.RowKit Win Stp Go.Proofs.YtooiooledeblmaaGreat.Lst Enc
def rplainC (m:E) (c:Int):E×List Int:=
 if m.uni=true then (m,unitsC c) else if (passB c||(decide (128≤c)&&decide (c≤255)))=true then (m,[c]) else if c<32 then (m,[1,c]) else ({m with uni:=true},15::unitsC c)
section
variable {B:Nat} {w:World} {g:Nat} {S:List Int} {m:E} {d:Int}
set_option maxHeartbeats 4000000 in
theorem rplain_calls (c:Int) (h:St B w g S m d) (h0:0≤c) (hb:isB c=true) (hl:S.length≤300000):Calls Tryz.prog 53 #[.pointer (some ⟨g,0,none⟩),.int .u32 c] w (SPost B w g (.tuple #[]) (S++(rplainC m c).2) (rplainC m c).1 d):=by
 unfold rplainC;have HP:=Lib.hid (rpass_calls c)
 have H:=Lib.hid h;have HBs:=Lib.hid hb;obtain ⟨gw,go,gu,cu,v,x,hs⟩:=h;have f2:=hs.f2;clear hs hb
 cases hu:m.uni with
 |true=>
  rw [hu] at f2;rw [if_pos rfl]
  have hk:=rsunits_calls true c H.out h0 HBs.out (by omega)
  rw [unitsQ_c] at hk;have HK:=Lib.hid hk;clear hk;go_enter Tryz.func53,Tryz.ntmps53;go_wp2_with fail;refine HK.out.mono ?_;rintro e w1 ⟨rfl,hd,hc⟩
  have HD:=Lib.hid hd;have HC:=Lib.hid hc;clear hd hc;go_wp2_with fail;go_end0;exact ⟨rfl,HD.out,HC.out⟩
 |false=>
  rw [hu] at f2;rw [if_neg (by decide)]
  have hpi:=passB_iff (c:=c)
  generalize passB c=p at HP hpi ⊢
  by_cases hp:p=true∨(128≤c∧c≤255)
  ·rw [if_pos (by simp;exact hp)]
   have hcl:c≤255:=by
    rcases hp with hp|hp
    ·have:=hpi.1 hp;omega
    ·exact hp.2
   have hw:IntKind.u8.wrap c=c:=by rw [IntKind.wrap_u8];omega
   have HK:=Lib.hid (rput [c] H.out (by simp;omega))
   have hq:p=true∨(p=false∧128≤c∧c≤255):=by
    rcases hp with hp|hp
    ·exact .inl hp
    ·cases p with
     |true=>exact .inl rfl
     |false=>exact .inr ⟨rfl,hp.1,hp.2⟩
   clear hpi hp;rcases hq with rfl|⟨rfl,q1,q2⟩
   all_goals
    go_enter Tryz.func53,Tryz.ntmps53;go_wp2_with fail;refine (HP.out _).mono ?_;rintro e w1 ⟨rfl,rfl⟩
    go_wp2_with fail;refine HK.out.mono ?_;rintro e w1 ⟨rfl,hd,hc⟩
    have HD:=Lib.hid hd;have HC:=Lib.hid hc;clear hd hc;go_wp2_with fail;go_end0;exact ⟨rfl,HD.out,HC.out⟩
  ·rw [if_neg (by simp;simp at hp;exact hp)]
   have hpf:p=false:=by
    cases p with
    |true=>exact absurd (.inl rfl) hp
    |false=>rfl
   subst hpf;have hnp:¬((32≤c∧c<128)∨c=0∨c=9∨c=10∨c=13):=fun hh=>by have:=hpi.2 hh;cases this
   have hn2:¬(128≤c∧c≤255):=fun hh=>hp (.inr hh)
   clear hpi hp
   by_cases h32:c<32
   ·rw [if_pos h32]
    have k1:decide (128≤c)=false:=decide_eq_false (by omega)
    have HK:=Lib.hid (rput [1,c] H.out (by simp;omega))
    clear hnp hn2;go_enter Tryz.func53,Tryz.ntmps53;go_wp2_with fail;refine (HP.out _).mono ?_;rintro e w1 ⟨rfl,rfl⟩
    go_wp2_with fail;refine HK.out.mono ?_;rintro e w1 ⟨rfl,hd,hc⟩
    have HD:=Lib.hid hd;have HC:=Lib.hid hc;clear hd hc;go_wp2_with fail;go_end0;exact ⟨rfl,HD.out,HC.out⟩
   ·rw [if_neg h32]
    have k1:128≤c:=by omega
    have k2:decide (c≤255)=false:=decide_eq_false (by omega)
    have k3:decide (c<32)=false:=decide_eq_false h32;have HK:=Lib.hid (rput [15] H.out (by simp;omega))
    clear hnp hn2 h32;go_enter Tryz.func53,Tryz.ntmps53;go_wp2_with fail;refine (HP.out _).mono ?_;rintro e w1 ⟨rfl,rfl⟩
    go_wp2_with fail;refine HK.out.mono ?_;rintro e w1 ⟨rfl,⟨gw1,go1,gu1,cu1,v1,x1,hd⟩,hc⟩
    have q2:=hd.f2;have z2:=hd.fz 2;have hs2:=hd.set 2 (.bool true) (x':=x1) (d':=d) (m':={m with uni:=true}) rfl rfl rfl hd.nx;have HC:=Lib.hid (hc.trans (hd.setB 2 (.bool true)))
    have hk2:=rsunits_calls true c (St.of hs2) h0 HBs.out (by rw [List.length_append];simp;omega)
    rw [unitsQ_c] at hk2;have HK2:=Lib.hid hk2;clear hd hc hs2 hk2;go_wp2_with fail;refine HK2.out.mono ?_;rintro e w2 ⟨rfl,hd,hc⟩
    have HD:=Lib.hid hd;have HC2:=Lib.hid (HC.out.trans hc)
    clear hd hc;go_wp2_with fail;go_end0;exact ⟨rfl,by have:=HD.out;rw [List.append_assoc] at this;exact this,HC2.out⟩
def rdoubleC (m:E) (c d:Int):E×List Int:=
 if (easyB m.o c&&softB m.o d)=true then (backC m c,(224+(backC m c).act)::(simpleC (backC m c) c).getD [])
 else if twinsB c d=true then (layM m c,layE m c 232 241) else (m,unitsC c)
set_option maxRecDepth 100000 in
set_option maxHeartbeats 8000000 in
theorem rdouble_calls (c:Int) (h:St B w g S m d) (hG:EG m) (h0:0≤c) (hb:isB c=true) (d0:0≤d) (d1:d≤4294967295) (hl:S.length≤300000):Calls Tryz.prog 54 #[.pointer (some ⟨g,0,none⟩),.int .u32 c] w (SPost B w g (.tuple #[]) (S++(rdoubleC m c d).2) (rdoubleC m c d).1 d):=by
 have hc1:=isB_rng hb;have H:=Lib.hid h;have HBs:=Lib.hid hb;obtain ⟨gw,go,gu,cu,v,x,hs⟩:=h;have HE:=Lib.hid (reasy_calls c hs hG h0 (by omega))
 have HSo:=Lib.hid (rsoft_calls hs hG d0 d1)
 have HTw:=Lib.hid (rtwins_calls c hs h0 (by omega) d0 d1)
 unfold rdoubleC;obtain ⟨z,hz⟩:∃z:Bool,z=(easyB m.o c&&softB m.o d):=⟨_,rfl⟩
 rw [←hz]
 have hc:(easyB m.o c=true∧softB m.o d=true∧z=true)∨(easyB m.o c=true∧softB m.o d=false∧z=false)∨(easyB m.o c=false∧z=false):=by
  rw [hz]
  cases easyB m.o c <;>cases softB m.o d <;>simp
 clear hz;generalize easyB m.o c=ze at HE hc;generalize softB m.o d=zs at HSo hc
 cases z with
 |true=>
  rw [if_pos rfl]
  have hze:ze=true∧zs=true:=by rcases hc with ⟨a,b,_⟩|⟨_,_,h⟩|⟨_,h⟩ <;>first|exact ⟨a,b⟩|cases h
  obtain ⟨rfl,rfl⟩:=hze;have f1:=hs.f1;have f3:=hs.f3;have HF:=Lib.hid (sfind_calls c hs hG h0 (by omega))
  have hGb:=hG.back (c:=c)
  have hac:=hGb.act;have hsp:=find_spec (c:=c) hG;have hbk:backC m c={m with beh:=true,act:=(backC m c).act,u:=wTouch m.u (backC m c).act,uni:=false}:=rfl;have hba:(backC m c).act=if (wFind m.o c).2=true then (wFind m.o c).1 else m.act:=rfl
  obtain ⟨n,hn⟩:∃n,n=(backC m c).act:=⟨_,rfl⟩
  rw [←hn] at hac hbk hba ⊢;have hts:=touch_same hG hac.1 hac.2;have HT:=Lib.hid (stouch_calls n hs hts)
  generalize backC m c=mb at hGb hbk hn ⊢;obtain ⟨Q,hQ⟩:∃Q,Q=(simpleC mb c).getD []:=⟨_,rfl⟩
  rw [←hQ]
  have HQ:=Lib.hid hQ;have HGb:=Lib.hid hGb;have HBk:=Lib.hid hbk;have HNn:=Lib.hid hn;obtain ⟨n0,n8⟩:=hac;generalize wFind m.o c=r at HF hsp hba;obtain ⟨f,zf⟩:=r;simp only at hba HF hsp;have hfc:(zf=true∧0≤f∧n=f)∨(zf=false∧n=m.act):=by
   cases zf with
   |true=>exact .inl ⟨rfl,(hsp rfl).1,by rw [hba,if_pos rfl]⟩
   |false=>exact .inr ⟨rfl,by rw [hba,if_neg (by decide)]⟩
  clear hs hG hGb hbk hba hsp hts hQ hn hc;go_enter Tryz.func54,Tryz.ntmps54;go_wp2_with fail;refine HE.out.mono ?_;rintro e w1 ⟨rfl,rfl⟩
  go_wp2_with fail;refine HSo.out.mono ?_;rintro e w1 ⟨rfl,rfl⟩
  go_wp2_with fail;refine HF.out.mono ?_;rintro e w1 ⟨rfl,rfl⟩
  go_upto_if 19 with fail;go_cut [4] (fun v4 wx=>v4= .int .i64 n∧w=wx)
  case first=>
   rcases hfc with ⟨rfl,hf,rfl⟩|⟨rfl,rfl⟩
   ·rw [if_pos rfl]
    go_wp2_with fail;go_meet;exact ⟨rfl,rfl⟩
   ·rw [if_neg (by decide)]
    go_wp2_with fail;go_meet;exact ⟨rfl,rfl⟩
  case rest=>
   obtain ⟨rfl,rfl⟩:=hcut;clear hfc HF HE HSo;go_wp2_with fail;refine HT.out.mono ?_;rintro e w3 ⟨rfl,⟨gu3,cu3,h3⟩,hb3⟩
   have q3:=h3.f3;have q2:=h3.f2;have z3:=h3.fz 3;have z2:=h3.fz 2;have h4:=h3.set 3 (.int .i64 n) (x':=x) (d':=d) (m':={m with u:=wTouch m.u n,act:=n}) rfl rfl rfl h3.nx;have h5:=h4.set 2 (.bool false) (x':=x) (d':=d) (m':={m with u:=wTouch m.u n,act:=n,uni:=false}) rfl rfl rfl h4.nx;have HB5:=Lib.hid ((hb3.trans (h3.setB 3 (.int .i64 n))).trans (h4.setB 2 (.bool false)))
   have h6:St B ((w3.setCell ⟨g,3,none⟩ (.int .i64 n)).setCell ⟨g,2,none⟩ (.bool false)) g S mb d:=by
    refine (St.of h5).same ?_ ?_ ?_ ?_ <;>rw [HBk.out]
   have hk:=rput [224+n] h6 (by rw [List.length_append];simp;omega)
   have hsz:((w3.setCell ⟨g,3,none⟩ (.int .i64 n)).setCell ⟨g,2,none⟩ (.bool false)).heap.size=w3.heap.size:=by simp [World.setCell]
   rw [hsz] at hk;have HK:=Lib.hid hk;clear h3 h4 h5 h6 hb3 hk hsz;go_wp2_with fail;refine HK.out.mono ?_;rintro e w6 ⟨rfl,hd,hc⟩
   have HEa:=Lib.hid (easiest_calls c hd HGb.out h0 hc1 (by rw [List.length_append];simp;omega))
   have HC:=Lib.hid (HB5.out.trans hc)
   clear hd hc;go_wp2_with fail;refine HEa.out.mono ?_;intro e w7 hp;have hq:=HQ.out;unfold EasyPost at hp
   cases hsi:simpleC mb c with
   |some X=>
    rw [hsi] at hp hq;obtain ⟨rfl,hd,hc⟩:=hp;have HQ2:=Lib.hid (show Q=X from hq)
    have HD:=Lib.hid hd;have HC2:=Lib.hid (HC.out.trans hc)
    clear hd hc hsi hq;go_wp2_with fail;go_end0;exact ⟨rfl,by have:=HD.out;rw [List.append_assoc] at this;rw [HQ2.out];exact this,HC2.out⟩
   |none=>
    rw [hsi] at hp hq;obtain ⟨rfl,hd,hc⟩:=hp;have HQ2:=Lib.hid (show Q=[] from hq)
    have HD:=Lib.hid hd;have HC2:=Lib.hid (HC.out.trans hc)
    clear hd hc hsi hq;go_wp2_with fail;go_end0;exact ⟨rfl,by rw [HQ2.out];exact HD.out,HC2.out⟩
 |false=>
  rw [if_neg (by decide)]
  have ho:=own_of_twins (c:=c) (d:=d)
  have hk2:=fun (w':World) (h':St B w' g S m d)=>rsunits_calls true c h' h0 HBs.out (by omega)
  rw [unitsQ_c] at hk2;have HU:=Lib.hid hk2;have HLy:=Lib.hid (fun (w':World) (h':St B w' g S m d) (ho:(ownC c).2=true)=>rlay_calls c 232 241 h' hG h0 hc1 (by omega) ho (by decide) (by decide) (by decide) (by decide))
  generalize twinsB c d=tw at HTw ho ⊢;have hc2:(ze=true∧zs=false)∨ze=false:=by rcases hc with ⟨_,_,h⟩|⟨a,b,_⟩|⟨a,_⟩ <;>first|exact .inl ⟨a,b⟩|exact .inr a|cases h
  clear hs hG hk2 hc
  cases tw with
  |true=>
   have HO:=Lib.hid (ho rfl)
   rw [if_pos rfl]
   clear ho;rcases hc2 with ⟨rfl,rfl⟩|rfl
   all_goals
    go_enter Tryz.func54,Tryz.ntmps54;go_wp2_with (first|(go_at_call 88;refine HE.out.mono ?_;rintro e w1 ⟨rfl,rfl⟩)|(go_at_call 89;refine HSo.out.mono ?_;rintro e w1 ⟨rfl,rfl⟩))
    refine HTw.out.mono ?_;rintro e w1 ⟨rfl,hb1⟩
    have HL1:=Lib.hid (HLy.out _ (H.out.below hb1) HO.out)
    have HB1:=Lib.hid (hb1.mono H.out.bs)
    clear hb1;go_wp2_with fail;refine HL1.out.mono ?_;rintro e w2 ⟨rfl,hd,hc⟩
    have HD:=Lib.hid hd;have HC:=Lib.hid (HB1.out.trans hc)
    clear hd hc;go_wp2_with fail;go_end0;exact ⟨rfl,HD.out,HC.out⟩
  |false=>
   rw [if_neg (by decide)]
   clear ho;rcases hc2 with ⟨rfl,rfl⟩|rfl
   all_goals
    go_enter Tryz.func54,Tryz.ntmps54;go_wp2_with (first|(go_at_call 88;refine HE.out.mono ?_;rintro e w1 ⟨rfl,rfl⟩)|(go_at_call 89;refine HSo.out.mono ?_;rintro e w1 ⟨rfl,rfl⟩))
    refine HTw.out.mono ?_;rintro e w1 ⟨rfl,hb1⟩
    have HU1:=Lib.hid (HU.out _ (H.out.below hb1))
    have HB1:=Lib.hid (hb1.mono H.out.bs)
    clear hb1;go_wp2_with fail;refine HU1.out.mono ?_;rintro e w2 ⟨rfl,hd,hc⟩
    have HD:=Lib.hid hd;have HC:=Lib.hid (HB1.out.trans hc)
    clear hd hc;go_wp2_with fail;go_end0;exact ⟨rfl,HD.out,HC.out⟩
end
end Rfc
end Go.Proofs.YtooiooledeblmaaGreat
