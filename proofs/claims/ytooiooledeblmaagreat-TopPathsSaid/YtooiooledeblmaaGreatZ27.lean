/- The document's compressor: the single mode. The document's bytes by SCSU. From a codec's text to another one's; the document's text by each codec. TopKept: the walk. Arguments, as the rows hand them over; a nil slice has no room. TopPaths: the walk. -/
import Derived.Test.YtooiooledeblmaaGreatZ22
import Derived.Test.YtooiooledeblmaaGreatZ26
set_option linter.unusedVariables false
set_option linter.unusedSimpArgs false
namespace Go.Proofs.YtooiooledeblmaaGreat
namespace Rfc
open Go.RowKit Win Stp Go.Proofs.YtooiooledeblmaaGreat.Lst Enc
section
variable {B:Nat} {w:World} {g:Nat} {S:List Int} {m:E} {d:Int}
theorem static_at {c:Int} (h:(staticC c).2.2=true):(staticC c).2.1=statics.getD (staticC c).1.toNat 0:=by
 unfold staticC at h ⊢
 by_cases hf:(findFrom c 1 (statics.drop 1)).2=true
 ·rw [if_pos hf]
 ·rw [if_neg hf] at h;cases h
theorem static_none {c:Int} (h:(staticC c).2.2=false):(staticC c).1=0:=by
 unfold staticC at h ⊢
 by_cases hf:(findFrom c 1 (statics.drop 1)).2=true
 ·rw [if_pos hf] at h;cases h
 ·rw [if_neg hf]
def restC (m:E) (c d:Int):E×List Int:=
 if (!twinsB c d&&(staticC c).2.2)=true then (m,[1+(staticC c).1,c-(staticC c).2.1])
 else if (twinsB c d||(decide (65536≤c)&&softB m.o d))=true then (layM m c,layE m c 24 11)
 else if (decide (c<65536)&&(softB m.o d||tagB c))=true then (m,[14,c/256,c%256])
 else ({m with uni:=true},15::unitsC c)
set_option maxRecDepth 100000 in
set_option maxHeartbeats 16000000 in
theorem rsingle_calls (c:Int) (h:St B w g S m d) (hG:EG m) (h0:0≤c) (hb:isB c=true) (d0:0≤d) (d1:d≤4294967295) (hl:S.length≤300000):Calls Tryz.prog 55 #[.pointer (some ⟨g,0,none⟩),.int .u32 c] w (SPost B w g (.tuple #[]) (S++(singleC m c d).2) (singleC m c d).1 d):=by
 have hc1:=isB_rng hb;have HBs:=Lib.hid hb;have HEa:=Lib.hid (easiest_calls c h hG h0 hc1 (by omega))
 have HG:=Lib.hid hG;unfold singleC
 cases hs:simpleC m c with
 |some X=>
  rw [hs] at HEa;unfold EasyPost at HEa;clear hs h hG hb;go_enter Tryz.func55,Tryz.ntmps55;go_wp2_with fail;refine HEa.out.mono ?_;rintro e w1 ⟨rfl,hd,hc⟩
  have HD:=Lib.hid hd;have HC:=Lib.hid hc;clear hd hc;go_wp2_with fail;go_end0;exact ⟨rfl,HD.out,HC.out⟩
 |none=>
  rw [hs] at HEa;unfold EasyPost at HEa;clear hs;simp only
  by_cases hf:(wFind m.o c).2=true
  ·rw [if_pos hf]
   have hsp:=find_spec hG hf;obtain ⟨k,hk⟩:∃k:Nat,(wFind m.o c).1=(k:Int):=⟨(wFind m.o c).1.toNat,by omega⟩
   have HFi:=Lib.hid (fun (w':World) (gw go gu cu:Nat) (v:Value) (x:Int) (hs:StAt B w' g gw go gu cu v x S m d)=>sfind_calls c hs hG h0 (by omega))
   rw [if_pos hf] at HFi;rw [hk] at hsp HFi ⊢;have hts:=touch_same hG hsp.1 hsp.2.1;have HT:=Lib.hid (fun (w':World) (gw go gu cu:Nat) (v:Value) (x:Int) (hs:StAt B w' g gw go gu cu v x S m d)=>stouch_calls (k:Int) hs hts)
   have hk8:k<8:=by omega
   have hw:wAt m.o (k:Int)=m.o.getD k 0:=by unfold wAt;rw [if_pos (by omega)];simp
   have ha:=hG.at_ hsp.1 hsp.2.1;have hhc:=hsp.2.2;have HRin:=Lib.hid (fun (w':World) (gw go gu cu:Nat) (v:Value) (x:Int) (hs:StAt B w' g gw go gu cu v x S {m with u:=wTouch m.u (k:Int)} d)=>rin_calls (k:Int) c hs (hG.touch hsp.1 hsp.2.1 rfl rfl hG.act) hsp.1 hsp.2.1 hhc hc1)
   have hoc:=hld_iff.1 hhc;rw [hw] at ha hoc HRin ⊢;obtain ⟨o,ho⟩:∃o,o=m.o.getD k 0:=⟨_,rfl⟩
   rw [←ho] at ha hoc HRin ⊢;have HW:=Lib.hid ho.symm;have HHo:=Lib.hid (fun w=>rholds_calls o d w (by omega) (by omega) d0 d1)
   clear hf hk hts h hG hb hhc hsp hw ho;obtain ⟨ha0,ha1⟩:=ha;obtain ⟨hoc0,hoc1⟩:=hoc;have hcs:(d !=2147483648)=false∨((d !=2147483648)=true∧hld o d=false)∨((d !=2147483648)=true∧hld o d=true):=by
    cases (d !=2147483648) <;>cases hld o d <;>simp
   rcases hcs with k1|⟨k1,k2⟩|⟨k1,k2⟩
   ·rw [k1,Bool.false_and,if_neg (by decide)]
    go_enter Tryz.func55,Tryz.ntmps55;go_wp2_with fail;refine HEa.out.mono ?_;rintro e w1 ⟨rfl,⟨gw,go,gu,cu,v,x,hd⟩,hc⟩
    have f1:=hd.f1;have HF1:=Lib.hid (HFi.out _ gw go gu cu v x hd)
    have HT1:=Lib.hid (HT.out _ gw go gu cu v x hd)
    have HC1:=Lib.hid hc;clear hd hc;go_wp2_with fail;refine HF1.out.mono ?_;rintro e w2 ⟨rfl,rfl⟩
    go_wp2_with fail;refine HT1.out.mono ?_;rintro e w2 ⟨rfl,⟨gu2,cu2,hs2⟩,hb2⟩
    have HC2:=Lib.hid (HC1.out.trans hb2)
    have HS2:=Lib.hid hs2;have g1:=hs2.f1;have g4:=hs2.f4;have g5:=hs2.f5;have r0:=hs2.win.f0;have hnx:=hs2.nx;have hcell:=hs2.win.off k hk8;rw [show (({m with u:=wTouch m.u (k:Int)}:E).o.getD k 0)=o from HW.out] at hcell;rw [k1] at g5;have HR2:=Lib.hid (fun n=>HRin.out _ gw go gu2 cu2 v x (hs2.drewN n))
    have HK:=Lib.hid (fun n=>rput [1+(k:Int),128+c-o] (St.of (HS2.out.drewN n)) (by rw [List.length_append];simp;omega))
    clear hs2 hb2 hnx;go_wp2_with fail;go_quiet (fail)
    go_wp2_with fail;refine (HR2.out _).mono ?_;rintro e w3 ⟨rfl,rfl⟩
    go_wp2_with fail;refine (HK.out _).mono ?_;rintro e w4 ⟨rfl,hd,hc⟩
    have HD:=Lib.hid hd;have HC:=Lib.hid ((HC2.out.trans (below_drewN (Below.refl B w2) _)).trans hc)
    clear hd hc;go_wp2_with fail;go_end0;exact ⟨rfl,HD.out,HC.out⟩
   ·rw [k1,k2,Bool.true_and,if_neg (by decide)]
    rw [k2] at HHo;go_enter Tryz.func55,Tryz.ntmps55;go_wp2_with fail;refine HEa.out.mono ?_;rintro e w1 ⟨rfl,⟨gw,go,gu,cu,v,x,hd⟩,hc⟩
    have f1:=hd.f1;have HF1:=Lib.hid (HFi.out _ gw go gu cu v x hd)
    have HT1:=Lib.hid (HT.out _ gw go gu cu v x hd)
    have HC1:=Lib.hid hc;clear hd hc;go_wp2_with fail;refine HF1.out.mono ?_;rintro e w2 ⟨rfl,rfl⟩
    go_wp2_with fail;refine HT1.out.mono ?_;rintro e w2 ⟨rfl,⟨gu2,cu2,hs2⟩,hb2⟩
    have HC2:=Lib.hid (HC1.out.trans hb2)
    have HS2:=Lib.hid hs2;have g1:=hs2.f1;have g4:=hs2.f4;have g5:=hs2.f5;have r0:=hs2.win.f0;have hnx:=hs2.nx;have hcell:=hs2.win.off k hk8;rw [show (({m with u:=wTouch m.u (k:Int)}:E).o.getD k 0)=o from HW.out] at hcell;rw [k1] at g5;have HR2:=Lib.hid (fun n=>HRin.out _ gw go gu2 cu2 v x (hs2.drewN n))
    have HK:=Lib.hid (fun n=>rput [1+(k:Int),128+c-o] (St.of (HS2.out.drewN n)) (by rw [List.length_append];simp;omega))
    obtain rfl:x=d:=hnx (by simpa using k1)
    clear hs2 hb2 hnx;go_wp2_with fail;go_quiet ((go_at_call 95;exact Calls.quiet_of_same ((HHo.out _).mono (fun e w' h=>⟨h.1,h.2.symm⟩))))
    go_wp2_with fail;refine (HR2.out _).mono ?_;rintro e w3 ⟨rfl,rfl⟩
    go_wp2_with fail;refine (HK.out _).mono ?_;rintro e w4 ⟨rfl,hd,hc⟩
    have HD:=Lib.hid hd;have HC:=Lib.hid ((HC2.out.trans (below_drewN (Below.refl B w2) _)).trans hc)
    clear hd hc;go_wp2_with fail;go_end0;exact ⟨rfl,HD.out,HC.out⟩
   ·rw [k1,k2,Bool.true_and,if_pos rfl]
    rw [k2] at HHo;go_enter Tryz.func55,Tryz.ntmps55;go_wp2_with fail;refine HEa.out.mono ?_;rintro e w1 ⟨rfl,⟨gw,go,gu,cu,v,x,hd⟩,hc⟩
    have f1:=hd.f1;have HF1:=Lib.hid (HFi.out _ gw go gu cu v x hd)
    have HT1:=Lib.hid (HT.out _ gw go gu cu v x hd)
    have HC1:=Lib.hid hc;clear hd hc;go_wp2_with fail;refine HF1.out.mono ?_;rintro e w2 ⟨rfl,rfl⟩
    go_wp2_with fail;refine HT1.out.mono ?_;rintro e w2 ⟨rfl,⟨gu2,cu2,hs2⟩,hb2⟩
    have HC2:=Lib.hid (HC1.out.trans hb2)
    have HS2:=Lib.hid hs2;have g1:=hs2.f1;have g4:=hs2.f4;have g5:=hs2.f5;have r0:=hs2.win.f0;have hnx:=hs2.nx;have hcell:=hs2.win.off k hk8;rw [show (({m with u:=wTouch m.u (k:Int)}:E).o.getD k 0)=o from HW.out] at hcell;rw [k1] at g5;have HR2:=Lib.hid (fun n=>HRin.out _ gw go gu2 cu2 v x (hs2.drewN n))
    have HK:=Lib.hid (fun n=>rput [16+(k:Int),128+c-o] (St.of (HS2.out.drewN n)) (by rw [List.length_append];simp;omega))
    obtain rfl:x=d:=hnx (by simpa using k1)
    clear hs2 hb2 hnx;go_wp2_with fail;go_quiet ((go_at_call 95;exact Calls.quiet_of_same ((HHo.out _).mono (fun e w' h=>⟨h.1,h.2.symm⟩))))
    go_wp2_with fail;refine (HR2.out _).mono ?_;rintro e w3 ⟨rfl,rfl⟩
    go_wp2_with fail;refine (HK.out _).mono ?_;rintro e w4 ⟨rfl,⟨gw4,go4,gu4,cu4,v4,x4,hd⟩,hc⟩
    have q3:=hd.f3;have z3:=hd.fz 3;have HD:=Lib.hid (hd.set 3 (.int .i64 (k:Int)) (x':=x4) (d':=x) (m':={m with u:=wTouch m.u (k:Int),act:=(k:Int)}) rfl rfl rfl hd.nx)
    have HC:=Lib.hid (((HC2.out.trans (below_drewN (Below.refl B w2) _)).trans hc).trans (hd.setB 3 (.int .i64 (k:Int))))
    clear hd hc;go_wp2_with fail;go_end0;exact ⟨rfl,St.of HD.out,HC.out⟩
  ·rw [if_neg hf]
   have HFi:=Lib.hid (fun (w':World) (gw go gu cu:Nat) (v:Value) (x:Int) (hs:StAt B w' g gw go gu cu v x S m d)=>sfind_calls c hs hG h0 (by omega))
   rw [if_neg hf] at HFi;have HSt:=Lib.hid (fun w=>rstatic_calls c w h0 (by omega))
   have HTw:=Lib.hid (fun (w':World) (gw go gu cu:Nat) (v:Value) (x:Int) (hs:StAt B w' g gw go gu cu v x S m d)=>rtwins_calls c hs h0 (by omega) d0 d1)
   have HSo:=Lib.hid (fun (w':World) (gw go gu cu:Nat) (v:Value) (x:Int) (hs:StAt B w' g gw go gu cu v x S m d)=>rsoft_calls hs hG d0 d1)
   have HLy:=Lib.hid (fun (w':World) (h':St B w' g S m d) (ho:(ownC c).2=true)=>rlay_calls c 24 11 h' hG h0 hc1 (by omega) ho (by decide) (by decide) (by decide) (by decide))
   have hw1:=own_of_twins (c:=c) (d:=d)
   have hw2:=own_of_big (c:=c)
   have hst:=static_spec (c:=c)
   have hsa:=static_at (c:=c)
   have hsn:=static_none (c:=c)
   have hrest:restC m c d=restC m c d:=rfl
   show Calls _ _ _ _ (SPost B w g (.tuple #[]) (S++(restC m c d).2) (restC m c d).1 d)
   obtain ⟨M,X,hMX⟩:∃M X,restC m c d=(M,X):=⟨_,_,rfl⟩
   rw [hMX]
   unfold restC at hMX;generalize twinsB c d=tw at HTw hMX hw1;generalize softB m.o d=sf at HSo hMX;generalize staticC c=sc at HSt hMX hst hsa hsn;obtain ⟨sn,so,sb⟩:=sc;simp only at HSt hMX hst hsa hsn ⊢;have HR:=Lib.hid hMX;have HW1:=Lib.hid hw1;have HW2:=Lib.hid hw2;have HST:=Lib.hid (And.intro hst hsa)
   have hsbn:(sb=true∧0<sn)∨(sb=false∧sn=0):=by
    cases sb with
    |true=>exact .inl ⟨rfl,by have:=(hst rfl).1;omega⟩
    |false=>exact .inr ⟨rfl,hsn rfl⟩
   have HSbn:=Lib.hid hsbn;clear hf h hG hb hw1 hw2 hst hsa hsn hrest hMX hsbn;go_enter Tryz.func55,Tryz.ntmps55;go_wp2_with fail;refine HEa.out.mono ?_;rintro e w1 ⟨rfl,⟨gw,go,gu,cu,v,x,hd⟩,hc⟩
   have f1:=hd.f1;have HF1:=Lib.hid (HFi.out _ gw go gu cu v x hd)
   have HD1:=Lib.hid hd;have HC1:=Lib.hid hc;clear hd hc;go_wp2_with fail;refine HF1.out.mono ?_;rintro e w2 ⟨rfl,rfl⟩
   go_wp2_with fail;refine (HSt.out _).mono ?_;rintro e w2 ⟨rfl,hb2⟩
   have HD2:=Lib.hid (HD1.out.below hb2)
   have HC2:=Lib.hid (HC1.out.trans (hb2.mono HD1.out.bs))
   have HT2:=Lib.hid (HTw.out _ gw go gu cu v x HD2.out)
   have HTw3:=HTw;clear hb2 f1 HF1 HSt HTw HFi HEa;go_upto_region 9 with fail;go_cut [77] from 70 to 77 (fun v wx=>v= .bool (!tw&&sb)∧Below w2.heap.size w2 wx)
   case first=>
    rcases HSbn.out with ⟨rfl,h1⟩|⟨rfl,rfl⟩
    ·go_wp2_with fail
     refine HT2.out.mono ?_;rintro e w3 ⟨rfl,hb3⟩
     have HB3:=Lib.hid hb3;clear hb3;go_wp2_with fail;go_meet;exact ⟨by rw [Bool.and_true],HB3.out⟩
    ·go_wp2_with fail
     go_meet;exact ⟨by rw [Bool.and_false],Below.refl _ _⟩
   case rest=>
    obtain ⟨rfl,hb3⟩:=hcut;have HD3:=Lib.hid (HD2.out.below hb3)
    have HC3:=Lib.hid (HC2.out.trans (hb3.mono HD2.out.bs))
    clear hb3;generalize hq:(!tw&&sb)=q at HR ⊢
    cases q with
    |true=>
     have hr:=HR.out;rw [if_pos rfl] at hr;obtain ⟨rfl,rfl⟩:=Prod.mk.inj hr;have hsb:sb=true:=by cases sb <;>simp at hq ⊢
     obtain ⟨⟨s1,s2,s3,s4,s5⟩,s6⟩:=And.intro (HST.out.1 hsb) (HST.out.2 hsb)
     rw [hld_iff] at s5;obtain ⟨k,rfl⟩:∃k:Nat,sn=(k:Int):=⟨sn.toNat,by omega⟩
     rw [Int.toNat_natCast] at s6;have hk8:k<8:=by omega
     obtain ⟨s50,s51⟩:=s5;have HS6:=Lib.hid s6;clear hq hr hsb s6;go_wp2_with fail;refine (rstatics_calls _).mono ?_;rintro e w4 ⟨rfl,hrow,hb4,_⟩
     have hcell:=hrow.cell k hk8;rw [←HS6.out] at hcell;have hd4:=HD3.out.below hb4;have HK:=Lib.hid (rput [1+(k:Int),c-so] (St.of hd4) (by rw [List.length_append];simp;omega))
     have HC4:=Lib.hid (HC3.out.trans (hb4.mono HD3.out.bs))
     clear hrow hb4 hd4;go_wp2_with fail;refine HK.out.mono ?_;rintro e w5 ⟨rfl,hd,hc⟩
     have HD:=Lib.hid hd;have HC:=Lib.hid (HC4.out.trans hc)
     clear hd hc;go_wp2_with fail;go_end0;exact ⟨rfl,HD.out,HC.out⟩
    |false=>
     have hr:=HR.out;rw [if_neg (by decide)] at hr;have HR1:=Lib.hid hr;have HT3:=Lib.hid (HTw3.out _ gw go gu cu v x HD3.out)
     have HS3:=Lib.hid (HSo.out _ gw go gu cu v x HD3.out)
     clear hr hq HR HT2 HST HSbn;go_upto_region 11 with fail;go_cut [101] from 91 to 101 (fun v wx=>v= .bool (tw||(decide (65536≤c)&&sf))∧Below wc.heap.size wc wx)
     case first=>
      cases tw with
      |true=>
       go_wp2_with fail;refine HT3.out.mono ?_;rintro e w3 ⟨rfl,hb3⟩
       have HB3:=Lib.hid hb3;clear hb3;go_wp2_with fail;go_meet;exact ⟨rfl,HB3.out⟩
      |false=>
       by_cases hbig:c>65535
       ·have hb6:65536≤c:=by omega
        go_wp2_with fail;refine HT3.out.mono ?_;rintro e w3 ⟨rfl,hb3⟩
        have HB3:=Lib.hid hb3;have HS4:=Lib.hid (HSo.out _ gw go gu cu v x (HD3.out.below hb3))
        clear hb3;go_wp2_with fail;refine HS4.out.mono ?_;rintro e w4 ⟨rfl,rfl⟩
        go_wp2_with fail;go_meet;exact ⟨by rw [decide_eq_true hb6];rfl,HB3.out⟩
       ·have hb6:¬65536≤c:=by omega
        go_wp2_with fail;refine HT3.out.mono ?_;rintro e w3 ⟨rfl,hb3⟩
        have HB3:=Lib.hid hb3;clear hb3;go_wp2_with fail;go_meet;exact ⟨by rw [decide_eq_false (show ¬65536≤c by omega)];rfl,HB3.out⟩
     case rest=>
      obtain ⟨rfl,hb4⟩:=hcut;have HD4:=Lib.hid (HD3.out.below hb4)
      have HC4:=Lib.hid (HC3.out.trans (hb4.mono HD3.out.bs))
      clear hb4 HT3 HS3;generalize hq:(tw||(decide (65536≤c)&&sf))=q at HR1 ⊢
      cases q with
      |true=>
       have hr:=HR1.out;rw [if_pos rfl] at hr;obtain ⟨rfl,rfl⟩:=Prod.mk.inj hr;have how:(ownC c).2=true:=by
        cases tw with
        |true=>exact HW1.out rfl
        |false=>exact HW2.out (by simp at hq;exact hq.1)
       have HL:=Lib.hid (HLy.out _ (St.of HD4.out) how)
       clear hq hr how;go_wp2_with fail;refine HL.out.mono ?_;rintro e w5 ⟨rfl,hd,hc⟩
       have HD:=Lib.hid hd;have HC:=Lib.hid (HC4.out.trans hc)
       clear hd hc;go_wp2_with fail;go_end0;exact ⟨rfl,HD.out,HC.out⟩
      |false=>
       have hr:=HR1.out;rw [if_neg (by decide)] at hr;have HR2:=Lib.hid hr;have HS4:=Lib.hid (HSo.out _ gw go gu cu v x HD4.out)
       clear hr hq HR1;go_upto_region 13 with fail;go_cut [118] from 105 to 118 (fun u wx=>u= .bool (decide (c<65536)&&(sf||tagB c))∧wc=wx)
       case first=>
        by_cases hsm:c<65536
        ·cases sf with
         |true=>
          go_wp2_with (go_at_call 89;refine HS4.out.mono ?_;rintro e w4 ⟨rfl,rfl⟩)
          go_meet;exact ⟨by rw [decide_eq_true hsm];rfl,rfl⟩
         |false=>
          by_cases ht:57344≤c
          ·go_wp2_with (go_at_call 89;refine HS4.out.mono ?_;rintro e w4 ⟨rfl,rfl⟩)
           go_meet;exact ⟨by unfold tagB;rw [decide_eq_true hsm,decide_eq_true ht];rfl,rfl⟩
          ·have ht2:decide (57344≤c)=false:=decide_eq_false ht
           go_wp2_with (go_at_call 89;refine HS4.out.mono ?_;rintro e w4 ⟨rfl,rfl⟩)
           go_meet;exact ⟨by unfold tagB;rw [decide_eq_true hsm,ht2];rfl,rfl⟩
        ·have hs2:decide (c<65536)=false:=decide_eq_false hsm
         go_wp2_with fail;go_meet;exact ⟨by rw [hs2];rfl,rfl⟩
       case rest=>
        obtain ⟨rfl,rfl⟩:=hcut;have hr:=HR2.out
        by_cases hq:(decide (c<65536)&&(sf||tagB c))=true
        ·rw [if_pos hq] at hr
         obtain ⟨rfl,rfl⟩:=Prod.mk.inj hr;have hsm:c<65536:=by simp at hq;exact hq.1
         have huq:[14]++unitsQ false c=[14,c/256,c%256]:=by unfold unitsQ Out.uni16B Out.unitB;rw [if_pos hsm];simp
         have HUq:=Lib.hid huq;rw [hq]
         clear hr hq huq HS4 HR2;have HK:=Lib.hid (rput [14] (St.of HD4.out) (by rw [List.length_append];simp;omega))
         go_wp2_with fail;refine HK.out.mono ?_;rintro e w6 ⟨rfl,hd,hc⟩
         have HC6:=Lib.hid (HC4.out.trans hc)
         have HU:=Lib.hid (rsunits_calls false c hd h0 HBs.out (by rw [List.length_append];simp;omega))
         clear hd hc;go_wp2_with fail;refine HU.out.mono ?_;rintro e w7 ⟨rfl,hd,hc⟩
         have HD:=Lib.hid hd;have HC:=Lib.hid (HC6.out.trans hc)
         clear hd hc;go_wp2_with fail;go_end0;exact ⟨rfl,by have:=HD.out;rw [List.append_assoc] at this;rw [HUq.out] at this;exact this,HC.out⟩
        ·rw [if_neg hq] at hr
         obtain ⟨rfl,rfl⟩:=Prod.mk.inj hr;have htg:tagB c=false:=by
          cases ht:tagB c with
          |false=>rfl
          |true=>
           exfalso;apply hq;rw [ht]
           unfold tagB at ht;simp at ht ⊢;omega
         have huq:[15]++unitsQ false c=15::unitsC c:=by rw [←unitsQ_c];unfold unitsQ;rw [htg];rfl
         have HUq:=Lib.hid huq;have hq2:(decide (c<65536)&&(sf||tagB c))=false:=by simpa using hq
         rw [hq2]
         clear hr hq hq2 huq htg HS4 HR2;have HK:=Lib.hid (rput [15] (St.of HD4.out) (by rw [List.length_append];simp;omega))
         go_wp2_with fail;refine HK.out.mono ?_;rintro e w6 ⟨rfl,⟨gw6,go6,gu6,cu6,v6,x6,hd⟩,hc⟩
         have q2:=hd.f2;have z2:=hd.fz 2;have hs2:=hd.set 2 (.bool true) (x':=x6) (d':=d) (m':={m with uni:=true}) rfl rfl rfl hd.nx;have HC6:=Lib.hid ((HC4.out.trans hc).trans (hd.setB 2 (.bool true)))
         have HU:=Lib.hid (rsunits_calls false c (St.of hs2) h0 HBs.out (by rw [List.length_append];simp;omega))
         clear hd hc hs2;go_wp2_with fail;refine HU.out.mono ?_;rintro e w7 ⟨rfl,hd,hc⟩
         have HD:=Lib.hid hd;have HC:=Lib.hid (HC6.out.trans hc)
         clear hd hc;go_wp2_with fail;go_end0;exact ⟨rfl,by have:=HD.out;rw [List.append_assoc] at this;rw [HUq.out] at this;exact this,HC.out⟩
end
end Rfc
namespace Rfc
open Go.RowKit Win Stp Go.Proofs.YtooiooledeblmaaGreat.Lst Enc
theorem single_keep (m:E) (c d:Int):(singleC m c d).1.beh=m.beh∧(singleC m c d).1.plain=m.plain:=by
 unfold singleC
 cases simpleC m c with
 |some e=>exact ⟨rfl,rfl⟩
 |none=>
  simp only
  (repeat' split) <;>exact ⟨rfl,rfl⟩
theorem work_keep (m:E) (c d:Int):(workC m c d).1.beh=true∧(workC m c d).1.plain=m.plain∧(m.plain=true→(workC m c d).1.o=m.o∧(workC m c d).1.act=m.act):=by
 unfold workC
 split
 ·exact ⟨rfl,rfl,fun _=>⟨rfl,rfl⟩⟩
 ·split
  ·split
   ·exact ⟨rfl,rfl,fun _=>⟨rfl,rfl⟩⟩
   ·split <;>exact ⟨rfl,rfl,fun _=>⟨rfl,rfl⟩⟩
  ·rename_i hp
   split
   ·have:=single_keep {m with beh:=true} c d
    exact ⟨this.1,this.2,fun h=>absurd h hp⟩
   ·(repeat' split) <;>exact ⟨rfl,rfl,fun h=>absurd h hp⟩
theorem work_double {m:E} {c d:Int} (h1:(!m.beh&&(c==65279))=false) (h2:m.plain=false) (h3:m.uni=true):workC m c d=rdoubleC {m with beh:=true} c d:=by
 unfold workC rdoubleC;rw [if_neg (by rw [h1];decide),if_neg (by rw [h2];decide),if_neg (by rw [h3];decide)]
 rfl
theorem work_single {m:E} {c d:Int} (h1:(!m.beh&&(c==65279))=false) (h2:m.plain=false) (h3:m.uni=false):workC m c d=singleC {m with beh:=true} c d:=by
 unfold workC;rw [if_neg (by rw [h1];decide),if_neg (by rw [h2];decide),if_pos h3]
theorem work_plain {m:E} {c d:Int} (h1:(!m.beh&&(c==65279))=false) (h2:m.plain=true) (ho:m.o=firsts) (ha:m.act=0):workC m c d=rplainC {m with beh:=true} c:=by
 unfold workC rplainC;rw [if_neg (by rw [h1];decide),if_pos h2]
 split
 ·rfl
 ·rename_i hu
  unfold simpleC;simp only;have hw:wAt m.o m.act=128:=by rw [ho,ha];rfl
  have hp:=passB_iff (c:=c)
  rw [hw]
  generalize passB c=p at hp ⊢
  cases p with
  |true=>simp
  |false=>
   have hn:¬((32≤c∧c<128)∨c=0∨c=9∨c=10∨c=13):=fun hh=>by have:=hp.2 hh;cases this
   by_cases h32:c<32
   ·simp [h32,show ¬128≤c by omega]
   ·by_cases hh:128≤c∧c≤255
    ·have:hld 128 c=true:=hld_iff.2 (by omega)
     simp [h32,this,hh]
     omega
    ·have:hld 128 c=false:=by rw [←Bool.not_eq_true,hld_iff];omega
     simp [h32,this]
     omega
def stA (pl:Bool) (l:List Int) (k:Nat):E×List Int:=
 if k<l.length then pushes (e0 pl) (l.take (k+1)) else ((flushC (pushes (e0 pl) l).1).1,(pushes (e0 pl) l).2++(flushC (pushes (e0 pl) l).1).2)
def nxD (l:List Int) (k:Nat):Int:=if k+1<l.length then l.getD (k+1) 0 else 2147483648
structure BI (pl:Bool) (l:List Int) (k:Nat) (m:E):Prop where
 eg:EG m
 wt:m.wt=l.getD k 0
 beh:m.beh=decide (0<k)
 pln:m.plain=pl
 pf:pl=true→m.o=firsts∧m.act=0
theorem take_getD {l:List Int} {k:Nat} (h:k<l.length):l.take (k+1)=l.take k++[l.getD k 0]:=by
 rw [List.take_succ_eq_append_getElem h,List.getD_eq_getElem?_getD,List.getElem?_eq_getElem h]
 rfl
theorem sc_ne {l:List Int} (hs:∀x∈l,0≤x∧isB x=true) {k:Nat} (h:k<l.length):l.getD k 0≠2147483648∧0≤l.getD k 0∧isB (l.getD k 0)=true:=by
 have hm:l.getD k 0∈l:=by rw [List.getD_eq_getElem?_getD,List.getElem?_eq_getElem h];exact List.getElem_mem _
 have h1:=hs _ hm;have h2:=isB_rng h1.2;exact ⟨by omega,h1.1,h1.2⟩
theorem stA_succ {pl:Bool} {l:List Int} (hs:∀x∈l,0≤x∧isB x=true) {k:Nat} (h:k<l.length) (hw:(stA pl l k).1.wt=l.getD k 0):
  stA pl l (k+1)=({(workC (stA pl l k).1 (l.getD k 0) (nxD l k)).1 with wt:=nxD l k},(stA pl l k).2++(workC (stA pl l k).1 (l.getD k 0) (nxD l k)).2):=by
 have hne:=(sc_ne hs h).1;have e1:stA pl l k=pushes (e0 pl) (l.take (k+1)):=by unfold stA;rw [if_pos h]
 rw [e1] at hw ⊢;unfold stA nxD
 by_cases h2:k+1<l.length
 ·rw [if_pos h2,if_pos h2,take_getD h2,pushes_snoc]
  unfold pushC;rw [if_neg (by rw [hw];exact hne),hw]
 ·rw [if_neg h2,if_neg h2]
  have hl:l.take (k+1)=l:=List.take_of_length_le (by omega)
  rw [hl] at hw ⊢;unfold flushC;rw [if_neg (by rw [hw];exact hne),hw]
theorem bi_all {pl:Bool} {l:List Int} (hs:∀x∈l,0≤x∧isB x=true):∀k,k<l.length→BI pl l k (stA pl l k).1
 |0,h=>by
  have e:stA pl l 0=pushes (e0 pl) [l.getD 0 0]:=by
   unfold stA;rw [if_pos h,take_getD h]
   rfl
  rw [e]
  have e2:(pushes (e0 pl) [l.getD 0 0]).1={e0 pl with wt:=l.getD 0 0}:=rfl;rw [e2]
  exact ⟨(eg0 pl).same rfl rfl rfl,rfl,rfl,rfl,fun _=>⟨rfl,rfl⟩⟩
 |k+1,h=>by
  have ih:=bi_all (pl:=pl) hs k (by omega)
  have hs1:=stA_succ (pl:=pl) hs (k:=k) (by omega) ih.wt;have hk:=work_keep (stA pl l k).1 (l.getD k 0) (nxD l k)
  obtain ⟨n1,n2,n3⟩:=sc_ne hs (k:=k) (by omega)
  rw [hs1]
  have hnx:nxD l k=l.getD (k+1) 0:=by unfold nxD;rw [if_pos h]
  refine ⟨(ih.eg.work n2 (isB_rng n3)).same rfl rfl rfl,hnx,?_,?_,fun hp=>?_⟩
  ·show (workC _ _ _).1.beh=_
   rw [hk.1,decide_eq_true (by omega)]
  ·show (workC _ _ _).1.plain=_
   rw [hk.2.1,ih.pln]
  ·have:=hk.2.2 (by rw [ih.pln];exact hp)
   show (workC _ _ _).1.o=_∧(workC _ _ _).1.act=_
   rw [this.1,this.2]
   exact ih.pf hp
theorem stA_len (pl:Bool) (l:List Int) (k:Nat):(stA pl l k).2.length≤10*l.length+10:=by
 unfold stA
 split
 ·have:=pushes_len (l.take (k+1)) (e0 pl)
  rw [List.length_take] at this;omega
 ·have h1:=pushes_len l (e0 pl)
  have h2:=flush_len (pushes (e0 pl) l).1;simp only [List.length_append]
  omega
theorem stA_end (pl:Bool) (l:List Int):(stA pl l l.length).2=textC pl l:=by
 unfold stA;rw [if_neg (Nat.lt_irrefl _)]
 rfl
theorem stA_zero (pl:Bool) (l:List Int):(stA pl l 0).2=[]∧(stA pl l 0).1.o=firsts∧(stA pl l 0).1.u=used0∧(stA pl l 0).1.act=0∧(stA pl l 0).1.uni=false:=by
 cases l with
 |nil=>exact ⟨rfl,rfl,rfl,rfl,rfl⟩
 |cons x l=>exact ⟨rfl,rfl,rfl,rfl,rfl⟩
theorem StAt.next {B:Nat} {w:World} {g gw go gu cu:Nat} {v:Value} {x:Int} {S:List Int} {m:E} {d:Int} (h:StAt B w g gw go gu cu v x S m d) (x':Int) (hx:x'≠2147483648):StAt B ((w.setCell ⟨g,5,none⟩ (.bool true)).setCell ⟨g,4,none⟩ (.int .u32 x')) g gw go gu cu v x' S m x':=by
 obtain ⟨n1,n2,n3⟩:=h.ne;have k1:=heap_setCell_same w g 5 _ _ (.bool true) h.blk;have k2:=heap_setCell_same (w.setCell ⟨g,5,none⟩ (.bool true)) g 4 _ _ (.int .u32 x') k1;have hb:(x' !=2147483648)=true:=by simpa using hx
 refine ⟨by rw [k2,hb];rfl,?_,?_,fun _=>rfl,h.sl,h.bg,h.bw,h.bo,h.bu,by simpa [World.setCell] using h.bs⟩
 ·have a:=fun k (e:k≠g)=>(Below.heap_setCell (w.setCell ⟨g,5,none⟩ (.bool true)) ⟨g,4,none⟩ (.int .u32 x') k e).trans (Below.heap_setCell w ⟨g,5,none⟩ (.bool true) k e)
  exact h.win.keep (a gw n1) (a go n2) (a gu n3)
 ·refine Out.own_chg h.row ((Chg.set (S:=fun i=>i=g) w rfl 5 (.bool true)).trans (Chg.set (S:=fun i=>i=g) _ rfl 4 (.int .u32 x'))) (fun k hk e=>own_ne h.row h.blk (by decide) (e▸hk))
theorem st_new {w w1:World} (hr:RefAt w1 (w.heap.size+2) w.heap.size (w.heap.size+1) 8 firsts used0) (hb:Below w.heap.size w w1) {m:E} (ho:m.o=firsts) (hu:m.u=used0) (ha:m.act=0) (hn:m.uni=false):
  StAt w.heap.size (w1.alloc (.cells #[.slice none 0 0,.pointer (some ⟨w.heap.size+2,0,none⟩),.bool false,.int .i64 0,.int .u32 0,.bool false] 101)) w1.heap.size (w.heap.size+2) w.heap.size (w.heap.size+1) 8 (.slice none 0 0) 0 [] m 2147483648:=by
 have hsz:=hb.size;refine ⟨by rw [ha,hn];exact heap_alloc_new _ _,?_,World.ownsRow_nil _ _ _ _,fun h=>absurd rfl h,by simp,hsz,by omega,Nat.le_refl _,by omega,by simp;omega⟩
 rw [ho,hu]
 obtain ⟨l1,l2,l3⟩:=hr.lt;exact hr.keep (Below.heap_alloc _ _ _ l1) (Below.heap_alloc _ _ _ l2) (Below.heap_alloc _ _ _ l3)
def B15Rel (w:World) (pl:Bool) (l:List Int) (g:Nat) (v6:Value) (wr:World):Prop:=
 ∃k:Nat,k≤l.length∧v6= .int .i64 k∧(∃d,St w.heap.size wr g (stA pl l k).2 (stA pl l k).1 d)∧Below w.heap.size w wr
set_option maxRecDepth 100000 in
set_option maxHeartbeats 16000000 in
theorem bytes15_calls (pl:Bool) {A:Option Addr} {cap:Nat} {l:List Int} {w:World} (hL:Lst w .u32 A l) (hl:l.length≤1000) (hs:∀x∈l,0≤x∧isB x=true):Calls Tryz.prog 29 #[.slice A l.length cap,.bool pl] w (Ref.Str (textC pl l) w):=by
 obtain ⟨z1,z2,z3,z4,z5⟩:=stA_zero pl l;have HNew:=Lib.hid (fun (w1:World) (hr:RefAt w1 (w.heap.size+2) w.heap.size (w.heap.size+1) 8 firsts used0) (hb:Below w.heap.size w w1)=>st_new hr hb z2 z3 z4 z5)
 have HL:=Lib.hid hL;have HS:=Lib.hid hs;have HZ:=Lib.hid z1;clear hL hs z1 z2 z3 z4 z5;go_enter Tryz.func29,Tryz.ntmps29;go_wp2_with fail;refine (rnew_calls _).mono ?_;rintro e w1 ⟨rfl,hr,hb1,hsz⟩
 have HSt:=Lib.hid (HNew.out w1 hr hb1)
 have HB1:=Lib.hid (hb1.alloc hb1.size (.cells #[.slice none 0 0,.pointer (some ⟨w.heap.size+2,0,none⟩),.bool false,.int .i64 0,.int .u32 0,.bool false] 101))
 clear hr hb1 hsz HNew;go_wp2_with fail;generalize hg:w1.heap.size=g at HSt ⊢;clear hg;go_loopw [6] (fun v6 wr=>B15Rel w pl l g v6 wr) (fun v6 _=>l.length-(intOf v6).toNat)
 case atStart=>exact ⟨0,Nat.zero_le _,rfl,⟨_,by rw [HZ.out];exact St.of HSt.out⟩,HB1.out⟩
 case round=>
  obtain ⟨k,hk,rfl,⟨d,hst⟩,hb⟩:=hrel;have HB:=Lib.hid hb;clear hb
  by_cases hlt:k<l.length
  ·obtain ⟨gw,go,gu,cu,v,x,hd⟩:=hst
   have f5:=hd.f5;have f4:=hd.f4;have z5:=hd.fz 5;have z4:=hd.fz 4;have H5:=Lib.hid (hd.set 5 (.bool false) (x':=x) (d':=2147483648) (m':=(stA pl l k).1) rfl rfl rfl (fun h=>absurd rfl h))
   have HN:=Lib.hid (fun x' hx=>hd.next x' hx)
   have HBa:=Lib.hid (fun b=>HB.out.trans (hd.setB 5 (.bool b)))
   have HBb:=Lib.hid (fun x'=>(HB.out.trans (hd.setB 5 (.bool true))).setCell (p:=⟨g,4,none⟩) (by exact hd.bg) (.int .u32 x'))
   have hnx:nxD l k=if k+1<l.length then l.getD (k+1) 0 else 2147483648:=rfl
   obtain ⟨dn,hdn⟩:∃dn,dn=nxD l k:=⟨_,rfl⟩
   rw [←hdn] at hnx;have HNx:=Lib.hid hnx;have HDn:=Lib.hid hdn;have hlen:=stA_len pl l k;have HBI:=Lib.hid (bi_all (pl:=pl) HS.out k hlt)
   have HSu:=Lib.hid (stA_succ (pl:=pl) HS.out hlt HBI.out.wt)
   rw [←hdn] at HSu;clear hd hnx hdn;go_upto_region 5 with fail;go_upto_if 27 with fail;go_cut [] (fun wx=>St w.heap.size wx g (stA pl l k).2 (stA pl l k).1 dn∧Below w.heap.size w wx)
   case first=>
    have hnx:=HNx.out
    by_cases h2:k+1<l.length
    ·rw [if_pos h2] at hnx
     have hdd:(decide ((k:Int)+1<(l.length:Int)))=true:=decide_eq_true (by omega)
     rw [hdd]
     have hbw:=HBa.out true;obtain ⟨a,ha,hc⟩:=(HL.out.below hbw) (k+1) h2;rw [←hnx] at hc;have hne:dn≠2147483648:=by rw [hnx];exact (sc_ne HS.out h2).1
     have HN2:=Lib.hid (HN.out dn hne)
     subst ha;obtain ⟨j,hj⟩:∃j,j=k+1:=⟨_,rfl⟩
     rw [←hj] at hc h2;have hkj:(k:Int)+1=(j:Int):=by omega
     clear hnx hdd hbw hne hj;go_wp2_with fail;go_meet;exact ⟨St.of HN2.out,HBb.out dn⟩
    ·rw [if_neg h2] at hnx
     have hdd:(decide ((k:Int)+1<(l.length:Int)))=false:=decide_eq_false (by omega)
     rw [hdd]
     have HNn:=Lib.hid hnx;clear hnx hdd;go_wp2_with fail;go_meet;exact ⟨by rw [HNn.out];exact St.of H5.out,HBa.out false⟩
   case rest=>
    obtain ⟨hst,hbc⟩:=hcut;obtain ⟨a,ha,hc⟩:=(HL.out.below hbc) k hlt;obtain ⟨a0,ha0,hc0⟩:=(HL.out.below hbc) 0 (by omega)
    subst ha;injection ha0 with ha0
    subst ha0;rw [Addr.add_zero'] at hc0;obtain ⟨xn,x0,x1⟩:=sc_ne HS.out hlt;have hx2:=isB_rng x1;have hk0:k=0→l.getD 0 0=l.getD k 0:=fun e=>by rw [e]
    have hd0:0≤dn∧dn≤4294967295:=by
     rw [HNx.out]
     split
     ·rename_i h2
      have h3:=sc_ne HS.out h2;have:=isB_rng h3.2.2;omega
     ·omega
    have HBd:=Lib.hid hbc;have HSt:=Lib.hid hst;generalize l.getD k 0=x at hc HSu xn x0 x1 hx2 hk0;generalize (stA pl l k).1=m at HBI HSu HSt;generalize (stA pl l k).2=S at HSu HSt hlen;have hbeh:=HBI.out.beh;have hpln:=HBI.out.pln;obtain ⟨z,hz⟩:∃z:Bool,z=(!m.beh&&(x==65279)):=⟨_,rfl⟩
    have HZz:=Lib.hid hz;have hEG:EG {m with beh:=true}:=HBI.out.eg.same rfl rfl rfl;have hSm:St w.heap.size wc g S {m with beh:=true} dn:=HSt.out.same rfl rfl rfl rfl;have HK:=Lib.hid (rput [14,254,255] hSm (by rw [List.length_append];simp;omega))
    have HPl:=Lib.hid (rplain_calls x hSm x0 x1 (by omega))
    have HDo:=Lib.hid (rdouble_calls x hSm hEG x0 x1 hd0.1 hd0.2 (by omega))
    have HSi:=Lib.hid (rsingle_calls x hSm hEG x0 x1 hd0.1 hd0.2 (by omega))
    obtain ⟨gw,go,gu,cu,v,y,hd⟩:=hSm;have f2:=hd.f2;rw [hbeh] at hz;clear hst hbc hd hEG H5 HN HBa HBb f4 f5 z4 z5;go_upto_region 9 with fail;go_cut [42] from 43 to 50 (fun u wx=>u= .bool z∧wc=wx)
    case first=>
     by_cases hk1:k=0
     ·subst hk1
      rw [hk0 rfl] at hc0;rw [decide_eq_false (by omega),Bool.not_false,Bool.true_and] at hz;clear hk0;go_wp2_with fail;go_meet;exact ⟨by rw [hz],rfl⟩
     ·have hkb:((k:Int)==0)=false:=by rw [beq_eq_false_iff_ne];omega
      rw [decide_eq_true (by omega),Bool.not_true,Bool.false_and] at hz;subst hz;clear hk0 hk1;go_wp2_with fail;go_meet;exact ⟨rfl,rfl⟩
    case rest=>
     obtain ⟨rfl,rfl⟩:=hcut;have hzz:=HZz.out;clear hz hk0 hc0 hbeh hd0
     cases z with
     |true=>
      have hwk:workC m x dn=({m with beh:=true},[14,254,255]):=by unfold workC;rw [if_pos hzz.symm]
      have HWk:=Lib.hid hwk;clear hwk hzz;go_wp2_with fail;refine HK.out.mono ?_;rintro e w5 ⟨rfl,hd5,hb5⟩
      have H5:=Lib.hid hd5;have HB5:=Lib.hid (HBd.out.trans hb5)
      clear hd5 hb5;go_wp2_with fail;go_roundw
      case rel=>
       refine ⟨k+1,hlt,by go_num,⟨dn,?_⟩,HB5.out⟩
       rw [HSu.out,HWk.out]
       exact H5.out.same rfl rfl rfl rfl
      case measure=>simp [intOf];omega
     |false=>
      cases pl with
      |true=>
       have hpf:=HBI.out.pf rfl;have HWk:=Lib.hid (work_plain (d:=dn) hzz.symm hpln hpf.1 hpf.2)
       clear hzz hpf hpln;go_wp2_with fail;refine HPl.out.mono ?_;rintro e w5 ⟨rfl,hd5,hb5⟩
       have H5:=Lib.hid hd5;have HB5:=Lib.hid (HBd.out.trans hb5)
       clear hd5 hb5;go_wp2_with fail;go_roundw
       case rel=>
        refine ⟨k+1,hlt,by go_num,⟨dn,?_⟩,HB5.out⟩
        rw [HSu.out,HWk.out]
        exact H5.out.same rfl rfl rfl rfl
       case measure=>simp [intOf];omega
      |false=>
       cases hun:m.uni with
       |true=>
        have HWk:=Lib.hid (work_double (d:=dn) hzz.symm hpln hun)
        rw [show ({m with beh:=true}:E).uni=true from hun] at f2;clear hzz hpln hun;go_wp2_with fail;refine HDo.out.mono ?_;rintro e w5 ⟨rfl,hd5,hb5⟩
        have H5:=Lib.hid hd5;have HB5:=Lib.hid (HBd.out.trans hb5)
        clear hd5 hb5;go_wp2_with fail;go_roundw
        case rel=>
         refine ⟨k+1,hlt,by go_num,⟨dn,?_⟩,HB5.out⟩
         rw [HSu.out,HWk.out]
         exact H5.out.same rfl rfl rfl rfl
        case measure=>simp [intOf];omega
       |false=>
        have HWk:=Lib.hid (work_single (d:=dn) hzz.symm hpln hun)
        rw [show ({m with beh:=true}:E).uni=false from hun] at f2;clear hzz hpln hun;go_wp2_with fail;refine HSi.out.mono ?_;rintro e w5 ⟨rfl,hd5,hb5⟩
        have H5:=Lib.hid hd5;have HB5:=Lib.hid (HBd.out.trans hb5)
        clear hd5 hb5;go_wp2_with fail;go_roundw
        case rel=>
         refine ⟨k+1,hlt,by go_num,⟨dn,?_⟩,HB5.out⟩
         rw [HSu.out,HWk.out]
         exact H5.out.same rfl rfl rfl rfl
        case measure=>simp [intOf];omega
  ·obtain rfl:k=l.length:=by omega
   rw [stA_end] at hst;obtain ⟨gw,go,gu,cu,v,x,hd⟩:=hst;have f0:=hd.f0;have hcv:=Ref.conv_own hd.row rfl;obtain ⟨A',c',rfl⟩:=owns_form hd.row;clear hd;go_wp2_with fail;go_ret;exact ⟨rfl,HB.out⟩
end Rfc
namespace Dcd
open Go.RowKit Win Stp Out Go.Proofs.YtooiooledeblmaaGreat.Lst
def encF (c:Int):List Int→List Int:=if c=7 then Pun.textP else if c=9 then Enc.textC false else if c=10 then Enc.textC true else encS c
theorem EncOK.le {c:Int} {enc:List Int→List Int} {M M':Nat} (h:EncOK c enc M) (hm:M'≤M):EncOK c enc M':=
 ⟨Nat.le_trans hm h.top,h.lo,h.hi,fun l hs hl=>h.len l hs (Nat.le_trans hl hm),fun l hs hl h1=>h.pos l hs (Nat.le_trans hl hm) h1,fun hL hs hl hcap hn=>h.calls hL hs (Nat.le_trans hl hm) hcap hn⟩
theorem enc_ok {c:Int} (h1:1≤c) (h2:c≤10):EncOK c (encF c) 60:=by
 unfold encF
 by_cases h7:c=7
 ·subst h7
  rw [if_pos rfl]
  exact Pun.encOK_puny
 ·rw [if_neg h7]
  by_cases h9:c=9
  ·subst h9
   rw [if_pos rfl]
   exact (Enc.encOK_scsu false).le (by decide)
  ·rw [if_neg h9]
   by_cases h10:c=10
   ·subst h10
    rw [if_pos rfl]
    exact (Enc.encOK_scsu true).le (by decide)
   ·rw [if_neg h10]
    exact (encOK_all (by omega)).le (by decide)
theorem dec_ok {c:Int} (h1:1≤c) (h2:c≤10) {l:List Int} (hl:l.length≤60) (hs:Scal l) (w:World):Calls Tryz.prog 18 #[.int .i64 c,.string (strOfNums (encF c l))] w (DecG w l):=by
 have hl4:l.length≤400:=by omega
 have:c=1∨c=2∨c=3∨c=4∨c=5∨c=6∨c=7∨c=8∨c=9∨c=10:=by omega
 rcases this with rfl|rfl|rfl|rfl|rfl|rfl|rfl|rfl|rfl|rfl
 ·exact decode_8 hl4 hs w
 ·exact decode_16 (.inl ⟨rfl,rfl⟩) hl4 hs w
 ·exact decode_16 (.inr ⟨rfl,rfl⟩) hl4 hs w
 ·exact decode_32 (.inl ⟨rfl,rfl⟩) hl4 hs w
 ·exact decode_32 (.inr ⟨rfl,rfl⟩) hl4 hs w
 ·exact decode_6 hl4 hs w
 ·exact Pux.decode_7 hl hs w
 ·exact decode_b hl4 hs w
 ·exact decode_x (.inl rfl) hl4 hs w
 ·exact decode_x (.inr rfl) hl4 hs w
theorem ref_bytes {c:Int} (h1:1≤c) (h2:c≤10) {A:Option Addr} {cap:Nat} {l:List Int} {w:World} (hL:Lst w .u32 A l) (hl:l.length≤60) (hs:Scal l):Calls Tryz.prog 14 #[.int .i64 c,.slice A l.length cap] w (Ref.Str (encF c l) w):=by
 have hl4:l.length≤1000:=by omega
 have e8:∀l,told ebB unN () l=(l.flatMap mod8B).map toF:=fun l=>by
  show told (fun r c=>(mdB r c).map toF) unN () l=_
  rw [told_map,Ref.flat_told]
  rfl
 have:c=1∨c=2∨c=3∨c=4∨c=5∨c=6∨c=7∨c=8∨c=9∨c=10:=by omega
 rcases this with rfl|rfl|rfl|rfl|rfl|rfl|rfl|rfl|rfl|rfl
 ·have he:encF 1 l=l.flatMap uni8B:=(Ref.flat_told l).symm
  have HK:=Lib.hid (Ref.bytes3_calls (cap:=cap) hL hl4 hs)
  rw [←he] at HK;clear hL hs e8 he;go_enter Tryz.func14,Tryz.ntmps14;go_wp2_with fail;refine HK.out.mono ?_;rintro e w1 ⟨rfl,hb⟩
  have HB:=Lib.hid hb;clear hb;go_wp2_with fail;go_ret;exact ⟨rfl,HB.out⟩
 ·have he:encF 2 l=l.flatMap (uni16B true):=(Ref.flat_told l).symm
  have HK:=Lib.hid (Ref.bytes4_calls true (cap:=cap) hL hl4 hs)
  rw [←he] at HK;clear hL hs e8 he;go_enter Tryz.func14,Tryz.ntmps14;go_wp2_with fail;refine HK.out.mono ?_;rintro e w1 ⟨rfl,hb⟩
  have HB:=Lib.hid hb;clear hb;go_wp2_with fail;go_ret;exact ⟨rfl,HB.out⟩
 ·have he:encF 3 l=l.flatMap (uni16B false):=(Ref.flat_told l).symm
  have HK:=Lib.hid (Ref.bytes4_calls false (cap:=cap) hL hl4 hs)
  rw [←he] at HK;clear hL hs e8 he;go_enter Tryz.func14,Tryz.ntmps14;go_wp2_with fail;refine HK.out.mono ?_;rintro e w1 ⟨rfl,hb⟩
  have HB:=Lib.hid hb;clear hb;go_wp2_with fail;go_ret;exact ⟨rfl,HB.out⟩
 ·have he:encF 4 l=l.flatMap (uni32B true):=(Ref.flat_told l).symm
  have HK:=Lib.hid (Ref.bytes5_calls true (cap:=cap) hL hl4 hs)
  rw [←he] at HK;clear hL hs e8 he;go_enter Tryz.func14,Tryz.ntmps14;go_wp2_with fail;refine HK.out.mono ?_;rintro e w1 ⟨rfl,hb⟩
  have HB:=Lib.hid hb;clear hb;go_wp2_with fail;go_ret;exact ⟨rfl,HB.out⟩
 ·have he:encF 5 l=l.flatMap (uni32B false):=(Ref.flat_told l).symm
  have HK:=Lib.hid (Ref.bytes5_calls false (cap:=cap) hL hl4 hs)
  rw [←he] at HK;clear hL hs e8 he;go_enter Tryz.func14,Tryz.ntmps14;go_wp2_with fail;refine HK.out.mono ?_;rintro e w1 ⟨rfl,hb⟩
  have HB:=Lib.hid hb;clear hb;go_wp2_with fail;go_ret;exact ⟨rfl,HB.out⟩
 ·have he:encF 6 l=(l.flatMap mod8B).map toF:=e8 l
  have HK:=Lib.hid (Ref.bytes8_calls (cap:=cap) hL hl4 hs)
  rw [←he] at HK;clear hL hs e8 he;go_enter Tryz.func14,Tryz.ntmps14;go_wp2_with fail;refine HK.out.mono ?_;rintro e w1 ⟨rfl,hb⟩
  have HB:=Lib.hid hb;clear hb;go_wp2_with fail;go_ret;exact ⟨rfl,HB.out⟩
 ·have he:encF 7 l=Pun.textP l:=rfl
  have HK:=Lib.hid (Ref.bytes10_calls (cap:=cap) hL hl hs)
  rw [←he] at HK;clear hL hs e8 he;go_enter Tryz.func14,Tryz.ntmps14;go_wp2_with fail;refine HK.out.mono ?_;rintro e w1 ⟨rfl,hb⟩
  have HB:=Lib.hid hb;clear hb;go_wp2_with fail;go_ret;exact ⟨rfl,HB.out⟩
 ·have he:encF 8 l=told bocuB bocuN 64 l:=rfl
  have HK:=Lib.hid (Ref.bytes12_calls (cap:=cap) hL hl4 hs)
  rw [←he] at HK;clear hL hs e8 he;go_enter Tryz.func14,Tryz.ntmps14;go_wp2_with fail;refine HK.out.mono ?_;rintro e w1 ⟨rfl,hb⟩
  have HB:=Lib.hid hb;clear hb;go_wp2_with fail;go_ret;exact ⟨rfl,HB.out⟩
 ·have he:encF 9 l=Enc.textC false l:=rfl
  have HK:=Lib.hid (Rfc.bytes15_calls false (cap:=cap) hL hl4 hs)
  rw [←he] at HK;clear hL hs e8 he;go_enter Tryz.func14,Tryz.ntmps14;go_wp2_with fail;refine HK.out.mono ?_;rintro e w1 ⟨rfl,hb⟩
  have HB:=Lib.hid hb;clear hb;go_wp2_with fail;go_ret;exact ⟨rfl,HB.out⟩
 ·have he:encF 10 l=Enc.textC true l:=rfl
  have HK:=Lib.hid (Rfc.bytes15_calls true (cap:=cap) hL hl4 hs)
  rw [←he] at HK;clear hL hs e8 he;go_enter Tryz.func14,Tryz.ntmps14;go_wp2_with fail;refine HK.out.mono ?_;rintro e w1 ⟨rfl,hb⟩
  have HB:=Lib.hid hb;clear hb;go_wp2_with fail;go_ret;exact ⟨rfl,HB.out⟩
set_option maxRecDepth 100000 in
set_option maxHeartbeats 8000000 in
theorem text_any {c c2:Int} (h1:1≤c) (h2:c≤10) (k1:1≤c2) (k2:c2≤10) {l:List Int} (hs:Scal l) (hl:l.length≤60) (w:World):Calls Tryz.prog 15 #[.int .i64 c,.int .i64 c2,.string (strOfNums (encF c l))] w (EncPost w (encF c2 l)):=by
 have HE:=Lib.hid (fun (w0:World) (A:Option Addr) (cp:Nat) (hL:∀wx,Below w0.heap.size w0 wx→Lst wx .u32 A l) (hc:l.length≤cp) (hn:A=none→cp=0)=>(enc_ok k1 k2).calls hL hs hl hc hn)
 have HD:=Lib.hid (dec_ok h1 h2 hl hs)
 unfold DecG at HD;obtain ⟨S2,hS2⟩:∃S,S=encF c2 l:=⟨_,rfl⟩
 rw [←hS2] at HE ⊢;generalize strOfNums (encF c l)=s at HD ⊢;clear hS2;go_enter Tryz.func15,Tryz.ntmps15;go_wp2_with fail;refine (name_calls h1 h2 _).mono ?_;rintro e w1 ⟨⟨s1,rfl,hs1⟩,hb1⟩
 have HB1:=Lib.hid (((Below.refl _ w).alloc (Nat.le_refl _) _).trans (Below.mono hb1 (by simp)))
 have hr1:=(hb1.block w.heap.size (by simp)).trans (heap_alloc_new w _)
 have HR1:=Lib.hid hr1;clear hb1 hr1;go_wp2_with fail;refine (name_calls k1 k2 _).mono ?_;rintro e w2 ⟨⟨s2,rfl,hs2⟩,hb2⟩
 have HB2:=Lib.hid (HB1.out.trans (Below.mono hb2 HB1.out.size))
 have HR2:=Lib.hid ((hb2.block w.heap.size (Array.getElem?_eq_some_iff.1 HR1.out).1).trans HR1.out)
 clear hb2 HB1 HR1;go_wp2_with fail;refine (HD.out _).mono ?_;rintro e w3 ⟨A,cp,rfl,ho3,hn3,hb3⟩
 have hc:l.length≤cp:=by
  rcases ho3.2 with ⟨h1,h2⟩|⟨g',cap,cur,h1,_,_,h4,_⟩
  ·omega
  ·injection h1 with _ _ h1;omega
 have HB3:=Lib.hid (HB2.out.trans (Below.mono hb3 HB2.out.size))
 have HR3:=Lib.hid ((hb3.block w.heap.size (Array.getElem?_eq_some_iff.1 HR2.out).1).trans HR2.out)
 have HO3:=Lib.hid ho3;clear hb3 ho3 HB2 HR2;go_wp2_with fail;refine (HE.out _ A cp (fun wx hx=>(Lst.of_owns HO3.out).below (((Below.refl _ w3).alloc (Nat.le_refl _) _).trans (Below.mono hx (by simp)))) hc hn3).mono ?_;rintro e w4 ⟨rfl,hb4⟩
 have hR4:=(hb4.block w.heap.size (by have:=(Array.getElem?_eq_some_iff.1 HR3.out).1;simp;omega)).trans ((Below.heap_alloc w3 _ _ (Array.getElem?_eq_some_iff.1 HR3.out).1).trans HR3.out)
 have hP4:=(hb4.block w3.heap.size (by simp)).trans (heap_alloc_new w3 _)
 have hB4:=(HB3.out.trans ((Below.refl _ w3).alloc (Nat.le_refl _) _|>fun h=>Below.mono h HB3.out.size)).trans (Below.mono hb4 (by have:=HB3.out.size;simp;omega))
 have hne:w.heap.size<w3.heap.size:=(Array.getElem?_eq_some_iff.1 HR3.out).1;obtain ⟨p,hp⟩:∃p,p=w3.heap.size:=⟨_,rfl⟩
 rw [←hp] at hP4 hne;have HB4:=Lib.hid hB4;have HX:=Lib.hid (And.intro hR4 hP4)
 rw [←hp]
 clear hp HB3 HR3 HO3 hR4 hP4 hB4 hb4;go_wp2_with fail;obtain ⟨w5,hw5⟩:∃w5,w5=w4.alloc (.cells #[.int .i64 0,.int .i64 0] 39):=⟨_,rfl⟩
 rw [←hw5]
 have hr5:w5.heap[w.heap.size]? =some (.cells #[.int .i64 0,.int .i64 0] 39 (0,0)):=by rw [hw5,Below.heap_alloc _ _ _ (Array.getElem?_eq_some_iff.1 HX.out.1).1];exact HX.out.1
 have hp5:w5.heap[p]? =some (.cells #[.int .i64 0,.int .i64 0] 39 (0,0)):=by rw [hw5,Below.heap_alloc _ _ _ (Array.getElem?_eq_some_iff.1 HX.out.2).1];exact HX.out.2
 have hb5:Below w.heap.size w w5:=by rw [hw5];exact HB4.out.alloc HB4.out.size _
 have c0:w5.cell? ⟨w.heap.size,0,none⟩=some (.int .i64 0):=by rw [cell_of hr5];rfl
 have c1:w5.cell? ⟨w.heap.size,1,none⟩=some (.int .i64 0):=by rw [cell_of hr5];rfl
 have d0:w5.cell? ⟨p,0,none⟩=some (.int .i64 0):=by rw [cell_of hp5];rfl
 have d1:w5.cell? ⟨p,1,none⟩=some (.int .i64 0):=by rw [cell_of hp5];rfl
 have f0:=frozen_of hr5 0;have f1:=frozen_of hr5 1;have HB5:=Lib.hid hb5;clear HB4 HX hw5 hr5 hp5 hb5;go_region_with fail;go_wp2_with fail;have e0:((w5.setCell ⟨w.heap.size,0,none⟩ (.int .i64 0)).setCell ⟨w.heap.size,1,none⟩ (.int .i64 0)).drew.cell? ⟨w.heap.size,0,none⟩=some (.int .i64 0):=by
  show ((w5.setCell ⟨w.heap.size,0,none⟩ (.int .i64 0)).setCell ⟨w.heap.size,1,none⟩ (.int .i64 0)).cell? ⟨w.heap.size,0,none⟩=_
  rw [World.cell?_setCell_other _ _ _ _ (by simp),World.cell?_setCell_same _ _ _ c0]
 have e1:((w5.setCell ⟨w.heap.size,0,none⟩ (.int .i64 0)).setCell ⟨w.heap.size,1,none⟩ (.int .i64 0)).drew.cell? ⟨w.heap.size,1,none⟩=some (.int .i64 0):=by
  show ((w5.setCell ⟨w.heap.size,0,none⟩ (.int .i64 0)).setCell ⟨w.heap.size,1,none⟩ (.int .i64 0)).cell? ⟨w.heap.size,1,none⟩=_
  rw [World.cell?_setCell_same (u:=.int .i64 0) _ _ _ (by rw [World.cell?_setCell_other _ _ _ _ (by simp)];exact c1)]
 refine bodyPost_ret (v:=.tuple #[.string (strOfNums S2),.agg #[.int .i64 0,.int .i64 0]]) (by simp [results,Tryz.results15,go_sem,e0,e1]) rfl ⟨rfl,below_drewN ((HB5.out.setCell (p:=⟨w.heap.size,0,none⟩) (Nat.le_refl _) _).setCell (p:=⟨w.heap.size,1,none⟩) (Nat.le_refl _) _) 1⟩
end Dcd
namespace Dcd
open Go.RowKit Win Stp Out Go.Proofs.YtooiooledeblmaaGreat.Lst Dec
theorem small_any {w:World} {A:Option Addr} {c:Nat} {l:List Int} {most:Int} (hm:most≤1000000) (hL:Lst w .u32 A l) (h0:∀x∈l,0≤x):Calls Tryz.prog 9 #[.slice A l.length c,.int .i64 most] w (SmallPost w l most):=by
 by_cases hl:l.length≤1000000
 ·exact small_calls hL h0 hl
 ·refine (small_great (A:=A) (c:=c) (w:=w) (show most<(l.length:Int) by omega)).mono ?_
  rintro e w' ⟨rfl,rfl⟩
  exact ⟨⟨false,rfl,fun h=>by cases h⟩,Below.refl _ _⟩
end Dcd
namespace Open
open Go.ChangeShapes Go.WideShapes Go.RowKit Go.Proofs.YtooiooledeblmaaGreatW.PrintWords
section
variable {H:Type} {enc:TypeId×Value→H} {P:Program} {W:World} {base:Nat} {spare:Nat→Bool} {held:Bool}
end
end Open
namespace Dcd
open Go.RowKit Win Stp Out Go.Proofs.YtooiooledeblmaaGreat.Lst Go.Proofs.YtooiooledeblmaaGreatW.PrintWords
theorem lst_arg {w:World} {k:IntKind} {A:Option Addr} {n:Nat} {l:List Int} (h:(Kd.int k).C w A n l):Lst w k A l:=fun j hj=>by
 obtain ⟨h1,h2,h3⟩:=h;obtain ⟨ad,rfl,hc⟩:=h3 (by omega)
 obtain ⟨c,hl,hK,hcell⟩:=hc j _ (List.getElem?_eq_getElem hj)
 refine ⟨ad,rfl,?_⟩
 have hs:(Kd.int k).sz=1:=rfl;rw [hs] at hcell;have hc1:c=[.int k l[j]]:=hK;subst hc1;have:=hcell 0 _ rfl;rw [Nat.mul_one,Nat.add_zero] at this;rw [this,List.getD_eq_getElem?_getD,List.getElem?_eq_getElem hj]
 rfl
theorem u32_pos {l:List Int} (hg:∀x∈l,(Lit.int .u32 x).wf=true):∀x∈l,0≤x:=by
 intro x hx;have:=hg x hx;simp [Lit.wf,IntKind.min,IntKind.max,IntKind.signed,IntKind.bits] at this;omega
end Dcd
namespace Dcd
open Go.RowKit Win Stp Out Go.Proofs.YtooiooledeblmaaGreat.Lst Go.Proofs.YtooiooledeblmaaGreatW.PrintMore Go.Proofs.YtooiooledeblmaaGreatW.PrintWords
attribute [local go_sem] max2_int min2_int max_two min_two
theorem there_calls (c:Int) (w:World):Calls Tryz.prog 13 #[.int .i64 c] w fun e w'=>e= .returned (.bool (decide (1≤c)&&decide (c≤10)))∧w=w':=by
 by_cases h1:1≤c
 ·rw [decide_eq_true h1]
  go_enter Tryz.func13,Tryz.ntmps13;go_wp2_with fail;go_ret;exact ⟨rfl,rfl⟩
 ·rw [decide_eq_false h1]
  go_enter Tryz.func13,Tryz.ntmps13;go_wp2_with fail;go_ret;exact ⟨rfl,rfl⟩
def PathsOut (w:World) (e:Ending) (w':World):Prop:=e= .returned (.bool true)∧Below w.heap.size w w'
theorem fail_ne (w:World):(binOp .neq 39 (.agg #[.int .i64 0,.int .i64 0]) (.agg #[.int .i64 0,.int .i64 0])).run Tryz.prog w= .ok (.bool false) w:=by kernel_rfl
set_option maxRecDepth 100000 in
set_option maxHeartbeats 16000000 in
theorem paths_main {w:World} {A P:Option Addr} {cap pc:Nat} {l ps:List Int} (h:Lst w .u32 A l) (h0:∀x∈l,0≤x) (hp:Lst w .i64 P ps) (hpl:ps.length≤9223372036854775807):
  Calls Tryz.prog 6 #[.slice A l.length cap,.slice P ps.length pc] w (PathsOut w):=by
 have H:=Lib.hid h;have H0:=Lib.hid h0;have HP:=Lib.hid hp;clear h h0 hp;go_enter Tryz.func6,Tryz.ntmps6;go_wp2_with fail;refine (live_calls _).mono ?_;rintro e w1 ⟨rfl,hb1⟩
 have HB1:=Lib.hid hb1;have HL1:=Lib.hid (H.out.below hb1)
 clear hb1;go_wp2_with fail;refine (small_any (by decide) HL1.out H0.out).mono ?_;rintro e w2 ⟨⟨b,rfl,hb⟩,hb2⟩
 have HB2:=Lib.hid (HB1.out.trans (Below.mono hb2 HB1.out.size))
 have HL2:=Lib.hid (HL1.out.below hb2)
 clear hb2;have hlv:∀wx,Below w.heap.size w wx→Calls Tryz.prog 8 #[] wx (fun e w'=>e= .returned (.bool true)∧Below w.heap.size w w'):=fun wx hx=>(live_calls wx).mono (fun e w' h=>⟨h.1,hx.trans (Below.mono h.2 hx.size)⟩)
 have HLv:=Lib.hid hlv;clear hlv
 by_cases hall:b=true∧ps.length≠0∧ps.length≤12
 ·obtain ⟨rfl,hn0,hn12⟩:=hall
  obtain ⟨hlen,hs⟩:=hb rfl;have HS:=Lib.hid hs;clear hb hs;have hz1:(((ps.length:Nat):Int)==0)=false:=by rw [beq_eq_false_iff_ne];omega
  have hz2:¬(12:Int)<(ps.length:Int):=by omega
  go_wp2_with fail;go_loopw [33] (fun v33 wr=>∃k:Nat,k≤ps.length∧v33= .int .i64 k∧(∀j,j<k→1≤ps.getD j 0∧ps.getD j 0≤10)∧w2=wr) (fun v33 _=>ps.length-(intOf v33).toNat)
  case atStart=>exact ⟨0,Nat.zero_le _,rfl,fun j hj=>by omega,rfl⟩
  case round=>
   obtain ⟨k,hk,rfl,hal,rfl⟩:=hrel;have HAl:=Lib.hid hal;clear hal
   by_cases hlt:k<ps.length
   ·obtain ⟨a,ha,hc⟩:=(HP.out.below HB2.out) k hlt
    subst ha;obtain ⟨c,hcc⟩:∃c,c=ps.getD k 0:=⟨_,rfl⟩
    rw [←hcc] at hc;have HCc:=Lib.hid hcc;have hth:=there_calls c;clear hcc
    by_cases hin:1≤c∧c≤10
    ·rw [decide_eq_true hin.1,decide_eq_true hin.2] at hth
     have HTh:=Lib.hid hth;have HIn:=Lib.hid hin;clear hin hth;go_wp2_with (go_at_call 13;refine (HTh.out _).mono ?_;rintro e w3 ⟨rfl,rfl⟩)
     go_roundw
     case rel=>
      refine ⟨k+1,hlt,by go_num,fun j hj=>?_,trivial⟩
      by_cases e:j=k
      ·rw [e,←HCc.out];exact HIn.out
      ·exact HAl.out j (by omega)
     case measure=>simp [intOf];omega
    ·have hd:(decide (1≤c)&&decide (c≤10))=false:=by
      rw [←Bool.not_eq_true]
      simpa using hin
     rw [hd] at hth;have HTh:=Lib.hid hth;clear hin hd hth;go_wp2_with (go_at_call 13;refine (HTh.out _).mono ?_;rintro e w3 ⟨rfl,rfl⟩)
     go_ret;exact ⟨rfl,HB2.out⟩
   ·obtain rfl:k=ps.length:=by omega
    obtain ⟨a,ha,hc⟩:=(HP.out.below HB2.out) 0 (by omega)
    subst ha;rw [Addr.add_zero'] at hc;have hc0:=HAl.out 0 (by omega)
    have HR0:=Lib.hid (ref_bytes hc0.1 hc0.2 (cap:=cap) HL2.out (by omega) HS.out)
    have hF0:strOfNums (encF (ps.getD 0 0) l)=strOfNums (encF (ps.getD (0%ps.length) 0) l):=by rw [Nat.zero_mod]
    have hFe:strOfNums (encF (ps.getD (ps.length%ps.length) 0) l)=strOfNums (encF (ps.getD 0 0) l):=by rw [Nat.mod_self]
    unfold Ref.Str at HR0;obtain ⟨S0,hS0⟩:∃S,S=strOfNums (encF (ps.getD 0 0) l):=⟨_,rfl⟩
    rw [←hS0] at HR0 hF0 hFe;generalize ps.getD 0 0=p0 at hc HR0;have HF0:=Lib.hid hF0;have HFe:=Lib.hid hFe;clear hF0 hFe hS0 hc0;go_wp2_with fail;refine HR0.out.mono ?_;rintro e w3 ⟨rfl,hb3⟩
    have HB3:=Lib.hid (HB2.out.trans (Below.mono hb3 HB2.out.size))
    clear hb3 hc;go_wp2_with fail;go_loopw [8,49] (fun v8 v49 wr=>∃k:Nat,k≤ps.length∧v49= .int .i64 k∧v8= .string (strOfNums (encF (ps.getD (k%ps.length) 0) l))∧Below w.heap.size w wr) (fun _ v49 _=>ps.length-(intOf v49).toNat)
    case atStart=>exact ⟨0,Nat.zero_le _,rfl,by rw [HF0.out],HB3.out⟩
    case round=>
     obtain ⟨k,hk,rfl,rfl,hb⟩:=hrel;have HB:=Lib.hid hb;clear hb
     by_cases hlt2:k<ps.length
     ·rw [Nat.mod_eq_of_lt hlt2]
      have hck:=HAl.out k hlt2;obtain ⟨n,hn⟩:∃n,n=(k+1)%ps.length:=⟨_,rfl⟩
      have hnl:n<ps.length:=by rw [hn];exact Nat.mod_lt _ (by omega)
      have hcn:=HAl.out n hnl;obtain ⟨a1,ha1,q1⟩:=(HP.out.below HB.out) n hnl;injection ha1 with ha1
      subst ha1;obtain ⟨a2,ha2,q2⟩:=(HP.out.below HB.out) k hlt2;injection ha2 with ha2
      subst ha2;have hmd:Int.tmod ((k:Int)+1) (ps.length:Int)=(n:Int):=by
       rw [Int.tmod_eq_emod_of_nonneg (by omega),hn,show (k:Int)+1=((k+1:Nat):Int) by omega]
       exact (Int.natCast_emod (k+1) ps.length).symm
      have hnz:(ps.length:Int)≠0:=by omega
      have HTx:=Lib.hid (text_any hck.1 hck.2 hcn.1 hcn.2 HS.out (by omega) wr)
      have HRf:=Lib.hid (fun (wx:World) (hx:Below w.heap.size w wx)=>ref_bytes hcn.1 hcn.2 (cap:=cap) (H.out.below hx) (by omega) HS.out)
      have HNn:=Lib.hid hn;unfold EncPost at HTx;unfold Ref.Str at HRf;obtain ⟨SN,hSN⟩:∃S,S=strOfNums (encF (ps.getD n 0) l):=⟨_,rfl⟩
      rw [←hSN] at HTx HRf;have HSN:=Lib.hid hSN;generalize strOfNums (encF (ps.getD k 0) l)=SK at HTx ⊢;generalize ps.getD k 0=ck at q2 HTx hck;generalize ps.getD n 0=cn at q1 HTx HRf hcn;clear hn hSN hck hcn;go_wp2_with fail;refine HTx.out.mono ?_;rintro e w4 ⟨rfl,hb4⟩
      have hf:=FailAt.new w4;have c0:=hf.c0;have c1:=hf.c1;have HB5:=Lib.hid ((HB.out.trans (Below.mono hb4 HB.out.size)).trans (Below.mono (bel_alloc (w:=w4) (.cells #[.int .i64 0,.int .i64 0] 39)) (HB.out.trans (Below.mono hb4 HB.out.size)).size))
      clear hb4 hf;go_upto_region 16 with fail;generalize hr:w4.heap.size=r at c0 c1 ⊢;generalize w4.alloc (.cells #[.int .i64 0,.int .i64 0] 39)=w5 at c0 c1 HB5 ⊢;have hfn:=fail_ne w5;have HR5:=Lib.hid (HRf.out w5 HB5.out)
      clear hr;go_wp2_with fail;refine HR5.out.mono ?_;rintro e w6 ⟨rfl,hb6⟩
      have HB6:=Lib.hid (HB5.out.trans (Below.mono hb6 HB5.out.size))
      clear hb6;go_wp2_with fail;go_roundw
      case rel=>exact ⟨k+1,hlt2,by go_num,by rw [←HNn.out,HSN.out],HB6.out⟩
      case measure=>simp [intOf];omega
     ·obtain rfl:k=ps.length:=by omega
      rw [HFe.out]
      go_wp2_with fail;go_ret;exact ⟨by simp,HB.out⟩
 ·have hc:b=false∨(b=true∧ps.length=0)∨(b=true∧ps.length≠0∧12<ps.length):=by
   cases b with
   |false=>exact .inl rfl
   |true=>
    right
    by_cases h1:ps.length=0
    ·exact .inl ⟨rfl,h1⟩
    ·exact .inr ⟨rfl,h1,by
      apply Classical.byContradiction;intro h2;exact hall ⟨rfl,h1,by omega⟩⟩
  clear hall hb;rcases hc with rfl|⟨rfl,h1⟩|⟨rfl,h1,h2⟩
  ·go_wp2_with fail
   refine (HLv.out _ HB2.out).mono ?_;rintro e w3 ⟨rfl,hb3⟩
   have HB3:=Lib.hid hb3;clear hb3;go_wp2_with fail;go_ret;exact ⟨rfl,HB3.out⟩
  ·have hz1:(((ps.length:Nat):Int)==0)=true:=by rw [h1];rfl
   clear h1;go_wp2_with fail;refine (HLv.out _ HB2.out).mono ?_;rintro e w3 ⟨rfl,hb3⟩
   have HB3:=Lib.hid hb3;clear hb3;go_wp2_with fail;go_ret;exact ⟨rfl,HB3.out⟩
  ·have hz1:(((ps.length:Nat):Int)==0)=false:=by rw [beq_eq_false_iff_ne];omega
   have hz2:(12:Int)<(ps.length:Int):=by omega
   clear h1;go_wp2_with fail;refine (HLv.out _ HB2.out).mono ?_;rintro e w3 ⟨rfl,hb3⟩
   have HB3:=Lib.hid hb3;clear hb3;go_wp2_with fail;go_ret;exact ⟨rfl,HB3.out⟩
theorem topPaths_row (A:Option Addr) (cap:Nat) (l:List Int) (P:Option Addr) (pc:Nat) (ps:List Int) (w:World) (hr:(Kd.int .u32).C w A l.length l) (hc:l.length≤cap) (hm:l.length≤maxLen) (hg:∀x∈l,(Lit.int .u32 x).wf=true) (hr2:(Kd.int .i64).C w P ps.length ps) (hc2:ps.length≤pc) (hm2:ps.length≤maxLen) (hg2:∀x∈ps,(Lit.int .i64 x).wf=true):
  Calls Tryz.prog 6 #[.slice A l.length cap,.slice P ps.length pc] w fun e w'=>e= .returned (.bool true)∧Below w.heap.size w w':=
 paths_main (lst_arg hr) (u32_pos hg) (lst_arg hr2) (by have:=hm2;unfold maxLen at this;omega)
end Dcd
end Go.Proofs.YtooiooledeblmaaGreat
