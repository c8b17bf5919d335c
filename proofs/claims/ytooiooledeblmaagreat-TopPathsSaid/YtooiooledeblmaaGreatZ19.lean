/- The compressor: a scalar in the single mode. The compressor: a scalar is worked off. The compressor: made, flushed, ended; is it done? The compressor as a machine over scalars; plain; and what a feeding has done. -/
import Derived.Test.YtooiooledeblmaaGreatZ18
set_option linter.unusedVariables false
set_option linter.unusedSimpArgs false
namespace Go.Proofs.YtooiooledeblmaaGreat
namespace Enc
open Go.RowKit Win Stp Go.Proofs.YtooiooledeblmaaGreatW.PrintMore
theorem findFrom_spec {c:Int}:∀{l:List Int} {k:Nat},(findFrom c k l).2=true→∃j:Nat,j<l.length∧(findFrom c k l).1=((k+j:Nat):Int)∧hld (l.getD j 0) c=true
 |[],k,h=>by cases h
 |x::l,k,h=>by
  unfold findFrom at h ⊢
  by_cases hx:hld x c=true
  ·rw [if_pos hx]
   exact ⟨0,by simp,by simp,hx⟩
  ·rw [if_neg hx] at h ⊢
   obtain ⟨j,h1,h2,h3⟩:=findFrom_spec h;refine ⟨j+1,by simpa using h1,?_,h3⟩
   rw [h2]
   have:k+1+j=k+(j+1):=by omega
   rw [this]
theorem find_spec {m:E} (hG:EG m) {c:Int} (h:(wFind m.o c).2=true):0≤(wFind m.o c).1∧(wFind m.o c).1<8∧hld (wAt m.o (wFind m.o c).1) c=true:=by
 unfold wFind at h ⊢;obtain ⟨j,h1,h2,h3⟩:=findFrom_spec h;rw [hG.lo] at h1;rw [h2,Nat.zero_add]
 refine ⟨by omega,by omega,?_⟩
 unfold wAt;rw [if_pos (by omega)]
 simpa using h3
theorem static_spec {c:Int} (h:(staticC c).2.2=true):1≤(staticC c).1∧(staticC c).1<8∧0≤(staticC c).2.1∧(staticC c).2.1≤12288∧hld (staticC c).2.1 c=true:=by
 unfold staticC at h ⊢
 by_cases hf:(findFrom c 1 (statics.drop 1)).2=true
 ·rw [if_pos hf]
  obtain ⟨j,h1,h2,h3⟩:=findFrom_spec hf;have h7:(statics.drop 1).length=7:=rfl;rw [h7] at h1;have e:((1+j:Nat):Int).toNat=1+j:=by omega
  have e2:(statics.drop 1).getD j 0=statics.getD (1+j) 0:=by rw [List.getD_eq_getElem?_getD,List.getD_eq_getElem?_getD,List.getElem?_drop]
  have:=static_rng2 (k:=1+j) (by omega)
  simp only [h2,e]
  rw [e2] at h3;exact ⟨by omega,by omega,this.1,this.2,h3⟩
 ·rw [if_neg hf] at h
  cases h
def singleC (m:E) (c d:Int):E×List Int:=
 match simpleC m c with
 |some e=>(m,e)
 |none=>
  if (wFind m.o c).2=true then
   if ((d !=2147483648)&&hld (wAt m.o (wFind m.o c).1) d)=true then ({m with u:=wTouch m.u (wFind m.o c).1,act:=(wFind m.o c).1},[16+(wFind m.o c).1,128+c-wAt m.o (wFind m.o c).1])
   else ({m with u:=wTouch m.u (wFind m.o c).1},[1+(wFind m.o c).1,128+c-wAt m.o (wFind m.o c).1])
  else if (!twinsB c d&&(staticC c).2.2)=true then (m,[1+(staticC c).1,c-(staticC c).2.1])
  else if (twinsB c d||(decide (65536≤c)&&softB m.o d))=true then (layM m c,layE m c 24 11)
  else if (decide (c<65536)&&(softB m.o d||tagB c))=true then (m,[14,c/256,c%256])
  else ({m with uni:=true},15::unitsC c)
theorem own_of_twins {c d:Int} (h:twinsB c d=true):(ownC c).2=true:=by
 unfold twinsB at h;simp only [Bool.and_eq_true] at h;exact h.1.1
theorem own_of_big {c:Int} (h:65536≤c):(ownC c).2=true:=by unfold ownC;rw [if_pos h]
section
variable {w:World} {g gw:Nat} {b:B4} {l:List Int} {m:E}
set_option maxRecDepth 100000 in
set_option maxHeartbeats 16000000 in
theorem single_calls (c d:Int) (h:EncAt w g gw b l m) (hG:EG m) (h0:0≤c) (h1:c≤1114111) (d0:0≤d) (d1:d≤4294967295) (hl:l.length<999900):
  Calls Tryz.prog 205 #[.pointer (some ⟨g,0,none⟩),.int .u32 c,.int .u32 d] w (KeepPost w g gw b (l++(singleC m c d).2) (singleC m c d).1):=by
 have hsi:=simple_calls c h hG h0 h1 (by omega)
 have HG:=Lib.hid hG;unfold singleC;clear h hG
 cases hs:simpleC m c with
 |some e=>
  rw [hs] at hsi;have HSi:=Lib.hid hsi;clear hs hsi;go_enter Tryz.func205,Tryz.ntmps205;go_wp2_with fail;refine HSi.out.mono ?_;rintro e1 w1 ⟨rfl,hd,hc⟩
  have HD:=Lib.hid hd;have HC:=Lib.hid hc;clear hd hc;go_wp2_with fail;go_end0;exact ⟨rfl,HD.out,HC.out⟩
 |none=>
  rw [hs] at hsi;have HSi:=Lib.hid hsi;clear hs hsi;simp only
  by_cases hf:(wFind m.o c).2=true
  ·rw [if_pos hf]
   have hsp:=find_spec HG.out hf;have HFi:=Lib.hid (fun (w:World) (h:EncAt w g gw b l m)=>find_calls gw m.o m.u c w h.win HG.out.rng h0 (by omega))
   have hat:=HG.out.at_ hsp.1 hsp.2.1;generalize hff:wFind m.o c=r at hf hsp HFi hat ⊢;obtain ⟨n,ok⟩:=r;simp only at hf hsp hat ⊢;subst hf;obtain ⟨n0,n8,hh⟩:=hsp;rw [hld_iff] at hh;obtain ⟨x,hx⟩:∃x,x=wAt m.o n:=⟨_,rfl⟩
   have HX:=Lib.hid hx;rw [←hx] at hh hat ⊢;clear hff hx;obtain ⟨hh1,hh2⟩:=hh;obtain ⟨a1,a2⟩:=hat;have HH:=Lib.hid (fun w=>holds_calls x d w (by omega) (by omega) d0 d1)
   have hcs:(d !=2147483648)=false∨((d !=2147483648)=true∧hld x d=false)∨((d !=2147483648)=true∧hld x d=true):=by cases (d !=2147483648) <;>cases hld x d <;>simp
   rcases hcs with k1|⟨k1,k2⟩|⟨k1,k2⟩
   ·rw [k1,Bool.false_and,if_neg (by decide)]
    go_enter Tryz.func205,Tryz.ntmps205;go_wp2_with fail;refine HSi.out.mono ?_;rintro e1 w1 ⟨rfl,hd,hc⟩
    have h6:=hd.c6;have HF2:=Lib.hid (HFi.out w1 hd)
    have HT:=Lib.hid (touch_calls gw m.o m.u n w1 hd.win (HG.out.mem n))
    have HD:=Lib.hid hd;have HC:=Lib.hid hc;clear hd hc;go_wp2_with fail;refine HF2.out.mono ?_;rintro e1 w2 ⟨rfl,rfl⟩
    go_wp2_with fail;refine HT.out.mono ?_;rintro e1 w2 ⟨rfl,hw,hcw⟩
    have hd2:=HD.out.wins hw hcw;have h6b:=hd2.c6;have HAt:=Lib.hid (at_calls gw m.o (wTouch m.u n) n w2 hw)
    have HHe:=Lib.hid (held_calls n c hd2 (by show 0≤wAt m.o n;rw [←HX.out];omega) (by show wAt m.o n≤c;rw [←HX.out];omega) (by show c-wAt m.o n<128;rw [←HX.out];omega) h1)
    have e3:wAt ({m with o:=m.o,u:=wTouch m.u n}:E).o n=x:=HX.out.symm;rw [e3] at HHe;rw [←HX.out] at HAt;have HD2:=Lib.hid hd2;have HC2:=Lib.hid (efs_gw (g:=g) hcw)
    clear hw hcw hd2 e3;go_wp2_with fail;refine HHe.out.mono ?_;rintro e1 w3 ⟨rfl,rfl⟩
    have HK:=Lib.hid (keep_calls [1+n,128+c-x] HD2.out (by omega) (by simp))
    go_wp2_with fail;refine HK.out.mono ?_;rintro e w9 ⟨rfl,hd9,hc9⟩
    have HD9:=Lib.hid hd9;have HC9:=Lib.hid hc9;clear hd9 hc9;go_wp2_with fail;go_end0;exact ⟨rfl,HD9.out,(HC.out.trans HC2.out).trans HC9.out⟩
   ·rw [k1,k2,Bool.true_and,if_neg (by decide)]
    rw [k2] at HH;clear k2;go_enter Tryz.func205,Tryz.ntmps205;go_wp2_with fail;refine HSi.out.mono ?_;rintro e1 w1 ⟨rfl,hd,hc⟩
    have h6:=hd.c6;have HF2:=Lib.hid (HFi.out w1 hd)
    have HT:=Lib.hid (touch_calls gw m.o m.u n w1 hd.win (HG.out.mem n))
    have HD:=Lib.hid hd;have HC:=Lib.hid hc;clear hd hc;go_wp2_with fail;refine HF2.out.mono ?_;rintro e1 w2 ⟨rfl,rfl⟩
    go_wp2_with fail;refine HT.out.mono ?_;rintro e1 w2 ⟨rfl,hw,hcw⟩
    have hd2:=HD.out.wins hw hcw;have h6b:=hd2.c6;have HAt:=Lib.hid (at_calls gw m.o (wTouch m.u n) n w2 hw)
    have HHe:=Lib.hid (held_calls n c hd2 (by show 0≤wAt m.o n;rw [←HX.out];omega) (by show wAt m.o n≤c;rw [←HX.out];omega) (by show c-wAt m.o n<128;rw [←HX.out];omega) h1)
    have e3:wAt ({m with o:=m.o,u:=wTouch m.u n}:E).o n=x:=HX.out.symm;rw [e3] at HHe;rw [←HX.out] at HAt;have HD2:=Lib.hid hd2;have HC2:=Lib.hid (efs_gw (g:=g) hcw)
    clear hw hcw hd2 e3;go_wp2_with fail;refine HAt.out.mono ?_;rintro e1 w3 ⟨rfl,rfl⟩
    go_wp2_with fail;refine (HH.out _).mono ?_;rintro e1 w3 ⟨rfl,rfl⟩
    go_wp2_with fail;refine HHe.out.mono ?_;rintro e1 w3 ⟨rfl,rfl⟩
    have HK:=Lib.hid (keep_calls [1+n,128+c-x] HD2.out (by omega) (by simp))
    go_wp2_with fail;refine HK.out.mono ?_;rintro e w9 ⟨rfl,hd9,hc9⟩
    have HD9:=Lib.hid hd9;have HC9:=Lib.hid hc9;clear hd9 hc9;go_wp2_with fail;go_end0;exact ⟨rfl,HD9.out,(HC.out.trans HC2.out).trans HC9.out⟩
   ·rw [k1,k2,Bool.true_and,if_pos rfl]
    rw [k2] at HH;clear k2;go_enter Tryz.func205,Tryz.ntmps205;go_wp2_with fail;refine HSi.out.mono ?_;rintro e1 w1 ⟨rfl,hd,hc⟩
    have h6:=hd.c6;have HF2:=Lib.hid (HFi.out w1 hd)
    have HT:=Lib.hid (touch_calls gw m.o m.u n w1 hd.win (HG.out.mem n))
    have HD:=Lib.hid hd;have HC:=Lib.hid hc;clear hd hc;go_wp2_with fail;refine HF2.out.mono ?_;rintro e1 w2 ⟨rfl,rfl⟩
    go_wp2_with fail;refine HT.out.mono ?_;rintro e1 w2 ⟨rfl,hw,hcw⟩
    have hd2:=HD.out.wins hw hcw;have h6b:=hd2.c6;have HAt:=Lib.hid (at_calls gw m.o (wTouch m.u n) n w2 hw)
    have HHe:=Lib.hid (held_calls n c hd2 (by show 0≤wAt m.o n;rw [←HX.out];omega) (by show wAt m.o n≤c;rw [←HX.out];omega) (by show c-wAt m.o n<128;rw [←HX.out];omega) h1)
    have e3:wAt ({m with o:=m.o,u:=wTouch m.u n}:E).o n=x:=HX.out.symm;rw [e3] at HHe;rw [←HX.out] at HAt;have HD2:=Lib.hid hd2;have HC2:=Lib.hid (efs_gw (g:=g) hcw)
    clear hw hcw hd2 e3;go_wp2_with fail;refine HAt.out.mono ?_;rintro e1 w3 ⟨rfl,rfl⟩
    go_wp2_with fail;refine (HH.out _).mono ?_;rintro e1 w3 ⟨rfl,rfl⟩
    have h8:=HD2.out.c8;have f8:=HD2.out.fz 8;have hs3:=HD2.out.set 8 (.int .i64 n) (b':=b) (l':=l) (m':={m with u:=wTouch m.u n,act:=n}) rfl rfl rfl;have hhe3:=held_calls n c hs3 (by show 0≤wAt m.o n;rw [←HX.out];omega) (by show wAt m.o n≤c;rw [←HX.out];omega) (by show c-wAt m.o n<128;rw [←HX.out];omega) h1;have e3:wAt ({m with u:=wTouch m.u n,act:=n}:E).o n=x:=HX.out.symm;rw [e3] at hhe3;have HHe3:=Lib.hid hhe3;have hk3:=keep_calls [16+n,128+c-x] hs3 (by omega) (by simp)
    have hsz3:(w2.setCell ⟨g,8,none⟩ (.int .i64 n)).heap.size=w2.heap.size:=by simp [World.setCell]
    rw [hsz3] at hk3;have HK:=Lib.hid hk3;clear hs3 hhe3 e3 hk3 hsz3;go_wp2_with fail;refine HHe3.out.mono ?_;rintro e1 w3 ⟨rfl,rfl⟩
    go_wp2_with fail;refine HK.out.mono ?_;rintro e w9 ⟨rfl,hd9,hc9⟩
    have HD9:=Lib.hid hd9;have HC9:=Lib.hid hc9;clear hd9 hc9;go_wp2_with fail;go_end0;exact ⟨rfl,HD9.out,((HC.out.trans HC2.out).trans (efs_g 8 _)).trans HC9.out⟩
  ·rw [if_neg hf]
   have hfF:(wFind m.o c).2=false:=by simpa using hf
   have HFi:=Lib.hid (fun (w:World) (h:EncAt w g gw b l m)=>find_calls gw m.o m.u c w h.win HG.out.rng h0 (by omega))
   rw [hfF] at HFi;generalize (wFind m.o c).1=n at HFi;clear hf hfF;have HTw:=Lib.hid (fun w=>twins_calls c d w h0 (by omega) d0 d1)
   have HSt:=Lib.hid (fun w=>cstatic_calls c w h0 (by omega))
   have HSp:=Lib.hid (fun h=>static_spec (c:=c) h)
   have HOt:=Lib.hid (fun h=>own_of_twins (c:=c) (d:=d) h)
   have HSo:=Lib.hid (fun (w:World) (h:EncAt w g gw b l m)=>soft_calls d h HG.out.rng d0 d1)
   have HTg:=Lib.hid (fun w=>tagged_calls c w)
   generalize twinsB c d=T at HTw HOt ⊢;generalize softB m.o d=S at HSo ⊢;generalize tagB c=G at HTg ⊢;generalize staticC c=r at HSt HSp ⊢;obtain ⟨sn,so,sk⟩:=r;simp only at HSt HSp ⊢
   cases T with
   |true=>
    rw [if_neg (by simp),if_pos (by simp)]
    go_enter Tryz.func205,Tryz.ntmps205;go_wp2_with fail;refine HSi.out.mono ?_;rintro e1 w1 ⟨rfl,hd,hc⟩
    have h6:=hd.c6;have HF2:=Lib.hid (HFi.out w1 hd)
    have HD:=Lib.hid hd;have HC:=Lib.hid hc;clear hd hc;go_wp2_with fail;refine HF2.out.mono ?_;rintro e1 w2 ⟨rfl,rfl⟩
    go_wp2_with fail;refine (HSt.out _).mono ?_;rintro e1 w2 ⟨rfl,rfl⟩
    go_wp2_with fail;refine (HTw.out _).mono ?_;rintro e1 w2 ⟨rfl,hb⟩
    have HD2:=Lib.hid (HD.out.below hb)
    have HB2:=Lib.hid (HC.out.trans (Chg.of_below (S:=EFS g gw) hb))
    clear hb;go_wp2_with fail;refine (HTw.out _).mono ?_;rintro e1 w3 ⟨rfl,hb⟩
    have HD3:=Lib.hid (HD2.out.below hb)
    have HB3:=Lib.hid (HB2.out.trans (Chg.of_below (S:=EFS g gw) hb))
    clear hb;have HK:=Lib.hid (lay_calls c 24 11 HD3.out HG.out h0 h1 (by omega) (HOt.out (by trivial)) (by decide) (by decide) (by decide) (by decide))
    go_wp2_with fail;refine HK.out.mono ?_;rintro e w9 ⟨rfl,hd9,hc9⟩
    have HD9:=Lib.hid hd9;have HC9:=Lib.hid hc9;clear hd9 hc9;go_wp2_with fail;go_end0;exact ⟨rfl,HD9.out,HB3.out.trans HC9.out⟩
   |false=>
    cases sk with
    |true=>
     rw [if_pos (by simp)]
     obtain ⟨s1,s2,s3,s4,s5⟩:=HSp.out rfl;rw [hld_iff] at s5;obtain ⟨s5,s6⟩:=s5;go_enter Tryz.func205,Tryz.ntmps205;go_wp2_with fail;refine HSi.out.mono ?_;rintro e1 w1 ⟨rfl,hd,hc⟩
     have h6:=hd.c6;have HF2:=Lib.hid (HFi.out w1 hd)
     have HD:=Lib.hid hd;have HC:=Lib.hid hc;clear hd hc;go_wp2_with fail;refine HF2.out.mono ?_;rintro e1 w2 ⟨rfl,rfl⟩
     go_wp2_with fail;refine (HSt.out _).mono ?_;rintro e1 w2 ⟨rfl,rfl⟩
     go_wp2_with fail;refine (HTw.out _).mono ?_;rintro e1 w2 ⟨rfl,hb⟩
     have HD2:=Lib.hid (HD.out.below hb)
     have HB2:=Lib.hid (HC.out.trans (Chg.of_below (S:=EFS g gw) hb))
     clear hb;have HK:=Lib.hid (keep_calls [1+sn,c-so] HD2.out (by omega) (by simp))
     go_wp2_with fail;refine HK.out.mono ?_;rintro e w9 ⟨rfl,hd9,hc9⟩
     have HD9:=Lib.hid hd9;have HC9:=Lib.hid hc9;clear hd9 hc9;go_wp2_with fail;go_end0;exact ⟨rfl,HD9.out,HB2.out.trans HC9.out⟩
    |false=>
     rw [if_neg (by simp)]
     by_cases hc6:65536≤c
     ·cases S with
      |true=>
       rw [if_pos (by simp [hc6])]
       go_enter Tryz.func205,Tryz.ntmps205;go_wp2_with fail;refine HSi.out.mono ?_;rintro e1 w1 ⟨rfl,hd,hc⟩
       have h6:=hd.c6;have HF2:=Lib.hid (HFi.out w1 hd)
       have HD:=Lib.hid hd;have HC:=Lib.hid hc;clear hd hc;go_wp2_with fail;refine HF2.out.mono ?_;rintro e1 w2 ⟨rfl,rfl⟩
       go_wp2_with fail;refine (HSt.out _).mono ?_;rintro e1 w2 ⟨rfl,rfl⟩
       go_wp2_with fail;refine (HTw.out _).mono ?_;rintro e1 w2 ⟨rfl,hb⟩
       have HD2:=Lib.hid (HD.out.below hb)
       have HB2:=Lib.hid (HC.out.trans (Chg.of_below (S:=EFS g gw) hb))
       clear hb;go_wp2_with fail;refine (HTw.out _).mono ?_;rintro e1 w3 ⟨rfl,hb⟩
       have HD3:=Lib.hid (HD2.out.below hb)
       have HB3:=Lib.hid (HB2.out.trans (Chg.of_below (S:=EFS g gw) hb))
       clear hb;go_wp2_with fail;refine (HSo.out w3 HD3.out).mono ?_;rintro e1 w4 ⟨rfl,rfl⟩
       have HK:=Lib.hid (lay_calls c 24 11 HD3.out HG.out h0 h1 (by omega) (own_of_big hc6) (by decide) (by decide) (by decide) (by decide))
       go_wp2_with fail;refine HK.out.mono ?_;rintro e w9 ⟨rfl,hd9,hc9⟩
       have HD9:=Lib.hid hd9;have HC9:=Lib.hid hc9;clear hd9 hc9;go_wp2_with fail;go_end0;exact ⟨rfl,HD9.out,HB3.out.trans HC9.out⟩
      |false=>
       rw [if_neg (by simp),if_neg (by simp;intro h;omega)]
       go_enter Tryz.func205,Tryz.ntmps205;go_wp2_with fail;refine HSi.out.mono ?_;rintro e1 w1 ⟨rfl,hd,hc⟩
       have h6:=hd.c6;have HF2:=Lib.hid (HFi.out w1 hd)
       have HD:=Lib.hid hd;have HC:=Lib.hid hc;clear hd hc;go_wp2_with fail;refine HF2.out.mono ?_;rintro e1 w2 ⟨rfl,rfl⟩
       go_wp2_with fail;refine (HSt.out _).mono ?_;rintro e1 w2 ⟨rfl,rfl⟩
       go_wp2_with fail;refine (HTw.out _).mono ?_;rintro e1 w2 ⟨rfl,hb⟩
       have HD2:=Lib.hid (HD.out.below hb)
       have HB2:=Lib.hid (HC.out.trans (Chg.of_below (S:=EFS g gw) hb))
       clear hb;go_wp2_with fail;refine (HTw.out _).mono ?_;rintro e1 w3 ⟨rfl,hb⟩
       have HD3:=Lib.hid (HD2.out.below hb)
       have HB3:=Lib.hid (HB2.out.trans (Chg.of_below (S:=EFS g gw) hb))
       clear hb;go_wp2_with fail;refine (HSo.out w3 HD3.out).mono ?_;rintro e1 w4 ⟨rfl,rfl⟩
       have HK:=Lib.hid (double_calls c HD3.out h0 h1 (by omega))
       go_wp2_with fail;refine HK.out.mono ?_;rintro e w9 ⟨rfl,hd9,hc9⟩
       have HD9:=Lib.hid hd9;have HC9:=Lib.hid hc9;clear hd9 hc9;go_wp2_with fail;go_end0;exact ⟨rfl,HD9.out,HB3.out.trans HC9.out⟩
     ·cases S with
      |true=>
       rw [if_neg (by simp [hc6]),if_pos (by simp;omega)]
       go_enter Tryz.func205,Tryz.ntmps205;go_wp2_with fail;refine HSi.out.mono ?_;rintro e1 w1 ⟨rfl,hd,hc⟩
       have h6:=hd.c6;have HF2:=Lib.hid (HFi.out w1 hd)
       have HD:=Lib.hid hd;have HC:=Lib.hid hc;clear hd hc;go_wp2_with fail;refine HF2.out.mono ?_;rintro e1 w2 ⟨rfl,rfl⟩
       go_wp2_with fail;refine (HSt.out _).mono ?_;rintro e1 w2 ⟨rfl,rfl⟩
       go_wp2_with fail;refine (HTw.out _).mono ?_;rintro e1 w2 ⟨rfl,hb⟩
       have HD2:=Lib.hid (HD.out.below hb)
       have HB2:=Lib.hid (HC.out.trans (Chg.of_below (S:=EFS g gw) hb))
       clear hb;go_wp2_with fail;refine (HTw.out _).mono ?_;rintro e1 w3 ⟨rfl,hb⟩
       have HD3:=Lib.hid (HD2.out.below hb)
       have HB3:=Lib.hid (HB2.out.trans (Chg.of_below (S:=EFS g gw) hb))
       clear hb;go_wp2_with fail;refine (HSo.out w3 HD3.out).mono ?_;rintro e1 w4 ⟨rfl,rfl⟩
       have HK:=Lib.hid (keep_calls [14,c/256,c%256] HD3.out (by omega) (by simp))
       have w8:IntKind.u8.wrap c=c%256:=by rw [IntKind.wrap_u8]
       go_wp2_with fail;refine HK.out.mono ?_;rintro e w9 ⟨rfl,hd9,hc9⟩
       have HD9:=Lib.hid hd9;have HC9:=Lib.hid hc9;clear hd9 hc9;go_wp2_with fail;go_end0;exact ⟨rfl,HD9.out,HB3.out.trans HC9.out⟩
      |false=>
       cases G with
       |true=>
        rw [if_neg (by simp),if_pos (by simp;omega)]
        go_enter Tryz.func205,Tryz.ntmps205;go_wp2_with fail;refine HSi.out.mono ?_;rintro e1 w1 ⟨rfl,hd,hc⟩
        have h6:=hd.c6;have HF2:=Lib.hid (HFi.out w1 hd)
        have HD:=Lib.hid hd;have HC:=Lib.hid hc;clear hd hc;go_wp2_with fail;refine HF2.out.mono ?_;rintro e1 w2 ⟨rfl,rfl⟩
        go_wp2_with fail;refine (HSt.out _).mono ?_;rintro e1 w2 ⟨rfl,rfl⟩
        go_wp2_with fail;refine (HTw.out _).mono ?_;rintro e1 w2 ⟨rfl,hb⟩
        have HD2:=Lib.hid (HD.out.below hb)
        have HB2:=Lib.hid (HC.out.trans (Chg.of_below (S:=EFS g gw) hb))
        clear hb;go_wp2_with fail;refine (HTw.out _).mono ?_;rintro e1 w3 ⟨rfl,hb⟩
        have HD3:=Lib.hid (HD2.out.below hb)
        have HB3:=Lib.hid (HB2.out.trans (Chg.of_below (S:=EFS g gw) hb))
        clear hb;go_wp2_with fail;refine (HSo.out w3 HD3.out).mono ?_;rintro e1 w4 ⟨rfl,rfl⟩
        go_wp2_with fail;refine (HTg.out _).mono ?_;rintro e1 w4 ⟨rfl,rfl⟩
        have HK:=Lib.hid (keep_calls [14,c/256,c%256] HD3.out (by omega) (by simp))
        have w8:IntKind.u8.wrap c=c%256:=by rw [IntKind.wrap_u8]
        go_wp2_with fail;refine HK.out.mono ?_;rintro e w9 ⟨rfl,hd9,hc9⟩
        have HD9:=Lib.hid hd9;have HC9:=Lib.hid hc9;clear hd9 hc9;go_wp2_with fail;go_end0;exact ⟨rfl,HD9.out,HB3.out.trans HC9.out⟩
       |false=>
        rw [if_neg (by simp),if_neg (by simp)]
        go_enter Tryz.func205,Tryz.ntmps205;go_wp2_with fail;refine HSi.out.mono ?_;rintro e1 w1 ⟨rfl,hd,hc⟩
        have h6:=hd.c6;have HF2:=Lib.hid (HFi.out w1 hd)
        have HD:=Lib.hid hd;have HC:=Lib.hid hc;clear hd hc;go_wp2_with fail;refine HF2.out.mono ?_;rintro e1 w2 ⟨rfl,rfl⟩
        go_wp2_with fail;refine (HSt.out _).mono ?_;rintro e1 w2 ⟨rfl,rfl⟩
        go_wp2_with fail;refine (HTw.out _).mono ?_;rintro e1 w2 ⟨rfl,hb⟩
        have HD2:=Lib.hid (HD.out.below hb)
        have HB2:=Lib.hid (HC.out.trans (Chg.of_below (S:=EFS g gw) hb))
        clear hb;go_wp2_with fail;refine (HTw.out _).mono ?_;rintro e1 w3 ⟨rfl,hb⟩
        have HD3:=Lib.hid (HD2.out.below hb)
        have HB3:=Lib.hid (HB2.out.trans (Chg.of_below (S:=EFS g gw) hb))
        clear hb;go_wp2_with fail;refine (HSo.out w3 HD3.out).mono ?_;rintro e1 w4 ⟨rfl,rfl⟩
        go_wp2_with fail;refine (HTg.out _).mono ?_;rintro e1 w4 ⟨rfl,rfl⟩
        have HK:=Lib.hid (double_calls c HD3.out h0 h1 (by omega))
        go_wp2_with fail;refine HK.out.mono ?_;rintro e w9 ⟨rfl,hd9,hc9⟩
        have HD9:=Lib.hid hd9;have HC9:=Lib.hid hc9;clear hd9 hc9;go_wp2_with fail;go_end0;exact ⟨rfl,HD9.out,HB3.out.trans HC9.out⟩
end
end Enc
namespace Enc
open Go.RowKit Win Stp Go.Proofs.YtooiooledeblmaaGreatW.PrintMore
theorem touch_eg {u:List Int} {n:Int} (n0:0≤n) (n8:n<8) (mem:∀n:Int,0≤n→n<8→n∈u) (lu:u.length=8) (ru:∀n∈u,0≤n∧n<8):(∀k:Int,0≤k→k<8→k∈wTouch u n)∧(wTouch u n).length=8∧∀k∈wTouch u n,0≤k∧k<8:=by
 unfold wTouch;rw [if_pos ⟨n0,n8⟩]
 refine ⟨fun k k0 k8=>?_,?_,fun k hk=>?_⟩
 ·by_cases hkn:k=n
  ·rw [hkn];simp
  ·rw [List.mem_append];exact .inl ((List.mem_erase_of_ne hkn).2 (mem k k0 k8))
 ·rw [List.length_append,List.length_erase_of_mem (mem n n0 n8),lu];rfl
 ·rcases List.mem_append.1 hk with hk|hk
  ·exact ru k (List.mem_of_mem_erase hk)
  ·rw [List.mem_singleton.1 hk];exact ⟨n0,n8⟩
theorem EG.same {m m':E} (h:EG m) (ho:m'.o=m.o) (hu:m'.u=m.u) (ha:m'.act=m.act):EG m':=⟨by rw [ho];exact h.lo,by rw [ho];exact h.ro,by rw [hu];exact h.mem,by rw [hu];exact h.lu,by rw [hu];exact h.ru,by rw [ha];exact h.act⟩
theorem EG.touch {m m':E} {n:Int} (h:EG m) (n0:0≤n) (n8:n<8) (ho:m'.o=m.o) (hu:m'.u=wTouch m.u n) (ha:0≤m'.act∧m'.act<8):EG m':=by
 obtain ⟨t1,t2,t3⟩:=touch_eg n0 n8 h.mem h.lu h.ru;exact ⟨by rw [ho];exact h.lo,by rw [ho];exact h.ro,by rw [hu];exact t1,by rw [hu];exact t2,by rw [hu];exact t3,ha⟩
theorem off_rng2 {x:Int} (h0:0≤x) (h1:x≤255) (h:(wOffset x).2=true):128≤(wOffset x).1:=by
 have key:∀b:Fin 256,(wOffset (b.val:Int)).2=true→128≤(wOffset (b.val:Int)).1:=by decide +kernel
 have:=key ⟨x.toNat,by omega⟩
 simp only [Int.toNat_of_nonneg h0] at this;exact this h
theorem own_rng2 {c:Int} (h0:0≤c) (h1:c≤1114111) (h:(ownC c).2=true):128≤(ownC c).1∧(ownC c).1≤1114000:=by
 unfold ownC at h ⊢
 by_cases hc:65536≤c
 ·rw [if_pos hc];simp only;omega
 ·rw [if_neg hc] at h ⊢
  have hr:=idx_rng (c:=c) h0 (by omega)
  have:=off_rng hr.1 hr.2;have:=off_rng2 hr.1 hr.2 (index_own h0 h).2;simp only;omega
theorem EG.lay {m:E} {c:Int} (h:EG m) (h0:0≤c) (h1:c≤1114111) (ho:(ownC c).2=true):EG (layM m c):=by
 have hn:=old_rng h;obtain ⟨t1,t2,t3⟩:=touch_eg hn.1 hn.2 h.mem h.lu h.ru;have hr:=own_rng2 h0 h1 ho;refine ⟨by unfold layM;simp [h.lo],fun x hx=>?_,t1,t2,t3,hn⟩
 rcases List.mem_or_eq_of_mem_set hx with hx|rfl
 ·exact h.ro x hx
 ·exact hr
theorem EG.single {m:E} {c d:Int} (h:EG m) (h0:0≤c) (h1:c≤1114111):EG (singleC m c d).1:=by
 unfold singleC
 cases simpleC m c with
 |some e=>exact h
 |none=>
  simp only
  split
  ·rename_i hf
   have hsp:=find_spec h hf
   split
   ·exact h.touch hsp.1 hsp.2.1 rfl rfl ⟨hsp.1,hsp.2.1⟩
   ·exact h.touch hsp.1 hsp.2.1 rfl rfl h.act
  ·split
   ·exact h
   ·split
    ·rename_i hc
     refine h.lay h0 h1 ?_;simp only [Bool.or_eq_true,Bool.and_eq_true,decide_eq_true_eq] at hc;rcases hc with hc|hc
     ·exact own_of_twins hc
     ·exact own_of_big hc.1
    ·split
     ·exact h
     ·exact h.same rfl rfl rfl
def backC (m:E) (c:Int):E:={m with beh:=true,act:=if (wFind m.o c).2=true then (wFind m.o c).1 else m.act,u:=wTouch m.u (if (wFind m.o c).2=true then (wFind m.o c).1 else m.act),uni:=false}
def workC (m:E) (c d:Int):E×List Int:=
 if (!m.beh&&(c==65279))=true then ({m with beh:=true},[14,254,255])
 else if m.plain=true then
  if m.uni=true then ({m with beh:=true},unitsC c)
  else match simpleC {m with beh:=true} c with
   |some e=>({m with beh:=true},e)
   |none=>({m with beh:=true,uni:=true},15::unitsC c)
 else if m.uni=false then singleC {m with beh:=true} c d
 else if (easyB m.o c&&softB m.o d)=true then (backC m c,(224+(backC m c).act)::(simpleC (backC m c) c).getD [])
 else if twinsB c d=true then (layM {m with beh:=true} c,layE {m with beh:=true} c 232 241)
 else ({m with beh:=true},unitsC c)
theorem EG.back {m:E} {c:Int} (h:EG m):EG (backC m c):=by
 have hr:0≤(backC m c).act∧(backC m c).act<8:=by
  unfold backC;simp only
  split
  ·rename_i hf
   have:=find_spec h hf;exact ⟨this.1,this.2.1⟩
  ·exact h.act
 exact h.touch (n:=(backC m c).act) hr.1 hr.2 rfl rfl hr
theorem EG.work {m:E} {c d:Int} (h:EG m) (h0:0≤c) (h1:c≤1114111):EG (workC m c d).1:=by
 have hb:EG {m with beh:=true}:=h.same rfl rfl rfl;unfold workC
 split
 ·exact hb
 ·split
  ·split
   ·exact hb
   ·split
    ·exact hb
    ·exact h.same rfl rfl rfl
  ·split
   ·exact hb.single h0 h1
   ·split
    ·exact h.back
    ·split
     ·rename_i ht
      exact hb.lay h0 h1 (own_of_twins ht)
     ·exact hb
section
variable {w:World} {g gw:Nat} {b:B4} {l:List Int} {m:E}
set_option maxRecDepth 100000 in
set_option maxHeartbeats 16000000 in
theorem work_calls (c d:Int) (h:EncAt w g gw b l m) (hG:EG m) (h0:0≤c) (h1:c≤1114111) (d0:0≤d) (d1:d≤4294967295) (hl:l.length<999800):
  Calls Tryz.prog 200 #[.pointer (some ⟨g,0,none⟩),.int .u32 c,.int .u32 d] w (KeepPost w g gw b (l++(workC m c d).2) (workC m c d).1):=by
 have h9:=h.c9;have f9:=h.fz 9;obtain ⟨bb,hbb⟩:∃bb,bb=m.beh:=⟨_,rfl⟩
 rw [←hbb] at h9;have hs:=h.set 9 (.bool true) (b':=b) (l':=l) (m':={m with beh:=true}) rfl rfl rfl;have hsz:(w.setCell ⟨g,9,none⟩ (.bool true)).heap.size=w.heap.size:=by simp [World.setCell]
 have HGb:=Lib.hid (show EG {m with beh:=true} from hG.same rfl rfl rfl)
 have HG:=Lib.hid hG;have HC0:=Lib.hid (efs_g (g:=g) (gw:=gw) (w:=w) 9 (.bool true))
 have HS:=Lib.hid hs;have HSZ:=Lib.hid hsz;obtain ⟨R,hR⟩:∃R,R=workC m c d:=⟨_,rfl⟩
 rw [←hR]
 unfold workC at hR;rw [←hbb] at hR;obtain ⟨q,hq⟩:∃q,q=(!bb&&(c==65279)):=⟨_,rfl⟩
 rw [←hq] at hR;have HR:=Lib.hid hR;have HQ:=Lib.hid hq;clear h hG hs hsz hq hR hbb;go_enter Tryz.func200,Tryz.ntmps200;go_upto_region 3 with fail;go_cut [20] (fun v wx=>v= .bool q∧wx=w.setCell ⟨g,9,none⟩ (.bool true))
 case first=>
  have hq:=HQ.out
  cases bb <;>cases hcc:(c==65279)
  all_goals
   rw [hcc] at hq;subst hq;go_wp2_with fail;go_meet;exact ⟨rfl,rfl⟩
 case rest=>
  obtain ⟨rfl,rfl⟩:=hcut;obtain ⟨w1,hw1⟩:∃w1,w1=w.setCell ⟨g,9,none⟩ (.bool true):=⟨_,rfl⟩
  have H1:=Lib.hid (show EncAt w1 g gw b l {m with beh:=true} by rw [hw1];exact HS.out)
  have HC1:=Lib.hid (show Chg (EFS g gw) w w1 by rw [hw1];exact HC0.out)
  rw [←hw1]
  clear hw1;have c5:=H1.out.c5;have c6:=H1.out.c6;have c7:=H1.out.c7;have c8:=H1.out.c8;simp only at c5 c6 c7 c8
  cases q with
  |true=>
   have hr:=HR.out;rw [if_pos rfl] at hr
   replace HR:=Lib.hid hr
   clear hr;have HK:=Lib.hid (keep_calls [14,254,255] H1.out (by omega) (by simp))
   go_wp2_with fail;refine HK.out.mono ?_;rintro e w9 ⟨rfl,hd9,hc9⟩
   have HD9:=Lib.hid hd9;have HC9:=Lib.hid hc9;clear hd9 hc9;go_wp2_with fail;go_end0;refine ⟨rfl,?_,HC1.out.trans HC9.out⟩
   rw [HR.out]
   exact HD9.out
  |false=>
   have hr:=HR.out;rw [if_neg (by simp)] at hr
   replace HR:=Lib.hid hr
   clear hr
   cases hp:m.plain with
   |true=>
    have hr:=HR.out;rw [if_pos hp] at hr
    replace HR:=Lib.hid hr
    clear hr;rw [hp] at c5
    cases hu:m.uni with
    |true=>
     have hr:=HR.out;rw [if_pos hu] at hr
     replace HR:=Lib.hid hr
     clear hr;rw [hu] at c7;have HK:=Lib.hid (units_calls c H1.out h0 h1 (by omega))
     clear hp hu;go_wp2_with fail;refine HK.out.mono ?_;rintro e w9 ⟨rfl,hd9,hc9⟩
     have HD9:=Lib.hid hd9;have HC9:=Lib.hid hc9;clear hd9 hc9;go_wp2_with fail;go_end0;refine ⟨rfl,?_,HC1.out.trans HC9.out⟩
     rw [HR.out]
     exact HD9.out
    |false=>
     have hr:=HR.out;rw [if_neg (by simp [hu])] at hr
     replace HR:=Lib.hid hr
     clear hr;rw [hu] at c7;have hsi:=simple_calls c H1.out HGb.out h0 h1 (by omega)
     cases hsc:simpleC {m with beh:=true} c with
     |some e=>
      have hr:=HR.out;rw [hsc] at hsi hr
      replace HR:=Lib.hid hr
      have HSi:=Lib.hid hsi;clear hp hu hsc hsi hr;go_wp2_with fail;refine HSi.out.mono ?_;rintro e1 w2 ⟨rfl,hd,hc⟩
      have HD:=Lib.hid hd;have HC:=Lib.hid hc;clear hd hc;go_wp2_with fail;go_end0;refine ⟨rfl,?_,HC1.out.trans HC.out⟩
      rw [HR.out]
      exact HD.out
     |none=>
      have hr:=HR.out;rw [hsc] at hsi hr
      replace HR:=Lib.hid hr
      have HSi:=Lib.hid hsi;clear hp hu hsc hsi hr;go_wp2_with fail;refine HSi.out.mono ?_;rintro e1 w2 ⟨rfl,hd,hc⟩
      have HK:=Lib.hid (double_calls c hd h0 h1 (by omega))
      have HC:=Lib.hid hc;clear hd hc;go_wp2_with fail;refine HK.out.mono ?_;rintro e w9 ⟨rfl,hd9,hc9⟩
      have HD9:=Lib.hid hd9;have HC9:=Lib.hid hc9;clear hd9 hc9;go_wp2_with fail;go_end0;refine ⟨rfl,?_,(HC1.out.trans HC.out).trans HC9.out⟩
      rw [HR.out]
      exact HD9.out
   |false=>
    have hr:=HR.out;rw [if_neg (by simp [hp])] at hr
    replace HR:=Lib.hid hr
    clear hr;rw [hp] at c5
    cases hu:m.uni with
    |false=>
     have hr:=HR.out;rw [if_pos hu] at hr
     replace HR:=Lib.hid hr
     clear hr;rw [hu] at c7;have HK:=Lib.hid (single_calls c d H1.out HGb.out h0 h1 d0 d1 (by omega))
     clear hp hu;go_wp2_with fail;refine HK.out.mono ?_;rintro e w9 ⟨rfl,hd9,hc9⟩
     have HD9:=Lib.hid hd9;have HC9:=Lib.hid hc9;clear hd9 hc9;go_wp2_with fail;go_end0;refine ⟨rfl,?_,HC1.out.trans HC9.out⟩
     rw [HR.out]
     exact HD9.out
    |true=>
     have hr:=HR.out;rw [if_neg (by simp [hu])] at hr
     replace HR:=Lib.hid hr
     clear hr;rw [hu] at c7;have HEa:=Lib.hid (easy_calls c H1.out HGb.out.rng h0 (by omega))
     have HSo:=Lib.hid (soft_calls d H1.out HGb.out.rng d0 d1)
     have HTw:=Lib.hid (fun w=>twins_calls c d w h0 (by omega) d0 d1)
     have HOt:=Lib.hid (fun h=>own_of_twins (c:=c) (d:=d) h)
     have HFi:=Lib.hid (find_calls gw m.o m.u c w1 H1.out.win HG.out.rng h0 (by omega))
     clear hp hu;simp only at HEa HSo;have hcs:(easyB m.o c&&softB m.o d)=false∨(easyB m.o c=true∧softB m.o d=true):=by cases easyB m.o c <;>cases softB m.o d <;>simp
     rcases hcs with hes|⟨he,hso⟩
     ·have hr:=HR.out
      rw [hes,if_neg (by simp)] at hr
      replace HR:=Lib.hid hr
      clear hr;have hes2:easyB m.o c=false∨(easyB m.o c=true∧softB m.o d=false):=by
       cases h1:easyB m.o c
       ·exact .inl rfl
       ·rw [h1] at hes;exact .inr ⟨rfl,by simpa using hes⟩
      clear hes;generalize easyB m.o c=ea at HEa hes2;generalize softB m.o d=so at HSo hes2;have hr:=HR.out;generalize twinsB c d=T at HTw HOt hr
      replace HR:=Lib.hid hr
      clear hr;rcases hes2 with rfl|⟨rfl,rfl⟩
      ·cases T with
       |true=>
        have hr:=HR.out;rw [if_pos rfl] at hr
        replace HR:=Lib.hid hr
        clear hr;go_wp2_with fail;refine HEa.out.mono ?_;rintro e1 w2 ⟨rfl,rfl⟩
        go_wp2_with fail;refine (HTw.out _).mono ?_;rintro e1 w2 ⟨rfl,hb⟩
        have HK:=Lib.hid (lay_calls c 232 241 (H1.out.below hb) HGb.out h0 h1 (by omega) (HOt.out (by trivial)) (by decide) (by decide) (by decide) (by decide))
        have HB:=Lib.hid (Chg.of_below (S:=EFS g gw) hb)
        clear hb;go_wp2_with fail;refine HK.out.mono ?_;rintro e w9 ⟨rfl,hd9,hc9⟩
        have HD9:=Lib.hid hd9;have HC9:=Lib.hid hc9;clear hd9 hc9;go_wp2_with fail;go_end0;refine ⟨rfl,?_,(HC1.out.trans HB.out).trans HC9.out⟩
        rw [HR.out]
        exact HD9.out
       |false=>
        have hr:=HR.out;rw [if_neg (by simp)] at hr
        replace HR:=Lib.hid hr
        clear hr;go_wp2_with fail;refine HEa.out.mono ?_;rintro e1 w2 ⟨rfl,rfl⟩
        go_wp2_with fail;refine (HTw.out _).mono ?_;rintro e1 w2 ⟨rfl,hb⟩
        have HK:=Lib.hid (units_calls c (H1.out.below hb) h0 h1 (by omega))
        have HB:=Lib.hid (Chg.of_below (S:=EFS g gw) hb)
        clear hb;go_wp2_with fail;refine HK.out.mono ?_;rintro e w9 ⟨rfl,hd9,hc9⟩
        have HD9:=Lib.hid hd9;have HC9:=Lib.hid hc9;clear hd9 hc9;go_wp2_with fail;go_end0;refine ⟨rfl,?_,(HC1.out.trans HB.out).trans HC9.out⟩
        rw [HR.out]
        exact HD9.out
      ·cases T with
       |true=>
        have hr:=HR.out;rw [if_pos rfl] at hr
        replace HR:=Lib.hid hr
        clear hr;go_wp2_with fail;refine HEa.out.mono ?_;rintro e1 w2 ⟨rfl,rfl⟩
        go_wp2_with fail;refine HSo.out.mono ?_;rintro e1 w2 ⟨rfl,rfl⟩
        go_wp2_with fail;refine (HTw.out _).mono ?_;rintro e1 w2 ⟨rfl,hb⟩
        have HK:=Lib.hid (lay_calls c 232 241 (H1.out.below hb) HGb.out h0 h1 (by omega) (HOt.out (by trivial)) (by decide) (by decide) (by decide) (by decide))
        have HB:=Lib.hid (Chg.of_below (S:=EFS g gw) hb)
        clear hb;go_wp2_with fail;refine HK.out.mono ?_;rintro e w9 ⟨rfl,hd9,hc9⟩
        have HD9:=Lib.hid hd9;have HC9:=Lib.hid hc9;clear hd9 hc9;go_wp2_with fail;go_end0;refine ⟨rfl,?_,(HC1.out.trans HB.out).trans HC9.out⟩
        rw [HR.out]
        exact HD9.out
       |false=>
        have hr:=HR.out;rw [if_neg (by simp)] at hr
        replace HR:=Lib.hid hr
        clear hr;go_wp2_with fail;refine HEa.out.mono ?_;rintro e1 w2 ⟨rfl,rfl⟩
        go_wp2_with fail;refine HSo.out.mono ?_;rintro e1 w2 ⟨rfl,rfl⟩
        go_wp2_with fail;refine (HTw.out _).mono ?_;rintro e1 w2 ⟨rfl,hb⟩
        have HK:=Lib.hid (units_calls c (H1.out.below hb) h0 h1 (by omega))
        have HB:=Lib.hid (Chg.of_below (S:=EFS g gw) hb)
        clear hb;go_wp2_with fail;refine HK.out.mono ?_;rintro e w9 ⟨rfl,hd9,hc9⟩
        have HD9:=Lib.hid hd9;have HC9:=Lib.hid hc9;clear hd9 hc9;go_wp2_with fail;go_end0;refine ⟨rfl,?_,(HC1.out.trans HB.out).trans HC9.out⟩
        rw [HR.out]
        exact HD9.out
     ·have hr:=HR.out
      rw [he,hso,if_pos (by simp)] at hr;rw [he] at HEa;rw [hso] at HSo;clear he hso;have hbr:=HG.out.back (c:=c)
      obtain ⟨n,hn⟩:∃n,n=(backC m c).act:=⟨_,rfl⟩
      have hnr:=hbr.act;rw [←hn] at hnr hr
      replace HR:=Lib.hid hr
      clear hr;obtain ⟨n0,n8⟩:=hnr;have hbe:backC m c={m with beh:=true,act:=n,u:=wTouch m.u n,uni:=false}:=by rw [hn];rfl
      have hnn:((wFind m.o c).2=true∧(wFind m.o c).1=n)∨((wFind m.o c).2=false∧m.act=n):=by
       rw [hn]
       unfold backC;simp only
       cases h2:(wFind m.o c).2
       ·right;simp
       ·left;simp
      have HBE:=Lib.hid hbe;have HBR:=Lib.hid hbr;have HU:=Lib.hid (use_calls n H1.out (HGb.out.mem n))
      clear hbr hn hbe;have hrest:∀w2:World,EncAt w2 g gw b l {m with beh:=true,act:=n,u:=wTouch m.u n}→Chg (EFS g gw) w1 w2→EncAt (w2.setCell ⟨g,7,none⟩ (.bool false)) g gw b l (backC m c):=fun w2 hd hc=>by
       rw [HBE.out]
       exact hd.set 7 (.bool false) rfl rfl rfl
      have HRest:=Lib.hid hrest;clear hrest;generalize wFind m.o c=r at HFi hnn;obtain ⟨fn,fk⟩:=r;simp only at hnn;rcases hnn with ⟨rfl,rfl⟩|⟨rfl,rfl⟩
      ·go_wp2_with fail
       refine HEa.out.mono ?_;rintro e1 w2 ⟨rfl,rfl⟩
       go_wp2_with fail;refine HSo.out.mono ?_;rintro e1 w2 ⟨rfl,rfl⟩
       go_wp2_with fail;refine HFi.out.mono ?_;rintro e1 w2 ⟨rfl,rfl⟩
       go_wp2_with fail;refine HU.out.mono ?_;rintro e1 w2 ⟨rfl,hd,hc⟩
       have c7b:=hd.c7;have f7b:=hd.fz 7;have hb2:=HRest.out w2 hd hc;have hsz2:(w2.setCell ⟨g,7,none⟩ (.bool false)).heap.size=w2.heap.size:=by simp [World.setCell]
       have hk:=keep_calls [224+fn] hb2 (by omega) (by simp)
       rw [hsz2] at hk;have HK:=Lib.hid hk;have HC2:=Lib.hid (HC1.out.trans (hc.trans (efs_g 7 (.bool false))))
       clear hd hc hb2 hsz2 hk;go_wp2_with fail;refine HK.out.mono ?_;rintro e1 w3 ⟨rfl,hd3,hc3⟩
       have hsi:=simple_calls c hd3 HBR.out h0 h1 (by rw [List.length_append];simp;omega)
       have HC3:=Lib.hid (HC2.out.trans hc3)
       cases hsc:simpleC (backC m c) c with
       |some e=>
        have hr:=HR.out;rw [hsc] at hsi hr
        replace HR:=Lib.hid hr
        have HSi:=Lib.hid hsi;clear hsi hsc hd3 hc3 hr;go_wp2_with fail;refine HSi.out.mono ?_;rintro e1 w4 ⟨rfl,hd4,hc4⟩
        have HD4:=Lib.hid hd4;have HC4:=Lib.hid hc4;clear hd4 hc4;go_wp2_with fail;go_end0;refine ⟨rfl,?_,HC3.out.trans HC4.out⟩
        rw [HR.out]
        have:=HD4.out;rw [List.append_assoc] at this;exact this
       |none=>
        have hr:=HR.out;rw [hsc] at hsi hr
        replace HR:=Lib.hid hr
        have HSi:=Lib.hid hsi;clear hsi hsc hd3 hc3 hr;go_wp2_with fail;refine HSi.out.mono ?_;rintro e1 w4 ⟨rfl,hd4,hc4⟩
        have HD4:=Lib.hid hd4;have HC4:=Lib.hid hc4;clear hd4 hc4;go_wp2_with fail;go_end0;refine ⟨rfl,?_,HC3.out.trans HC4.out⟩
        rw [HR.out]
        exact HD4.out
      ·go_wp2_with fail
       refine HEa.out.mono ?_;rintro e1 w2 ⟨rfl,rfl⟩
       go_wp2_with fail;refine HSo.out.mono ?_;rintro e1 w2 ⟨rfl,rfl⟩
       go_wp2_with fail;refine HFi.out.mono ?_;rintro e1 w2 ⟨rfl,rfl⟩
       go_wp2_with fail;refine HU.out.mono ?_;rintro e1 w2 ⟨rfl,hd,hc⟩
       have c7b:=hd.c7;have f7b:=hd.fz 7;have hb2:=HRest.out w2 hd hc;have hsz2:(w2.setCell ⟨g,7,none⟩ (.bool false)).heap.size=w2.heap.size:=by simp [World.setCell]
       have hk:=keep_calls [224+m.act] hb2 (by omega) (by simp)
       rw [hsz2] at hk;have HK:=Lib.hid hk;have HC2:=Lib.hid (HC1.out.trans (hc.trans (efs_g 7 (.bool false))))
       clear hd hc hb2 hsz2 hk;go_wp2_with fail;refine HK.out.mono ?_;rintro e1 w3 ⟨rfl,hd3,hc3⟩
       have hsi:=simple_calls c hd3 HBR.out h0 h1 (by rw [List.length_append];simp;omega)
       have HC3:=Lib.hid (HC2.out.trans hc3)
       cases hsc:simpleC (backC m c) c with
       |some e=>
        have hr:=HR.out;rw [hsc] at hsi hr
        replace HR:=Lib.hid hr
        have HSi:=Lib.hid hsi;clear hsi hsc hd3 hc3 hr;go_wp2_with fail;refine HSi.out.mono ?_;rintro e1 w4 ⟨rfl,hd4,hc4⟩
        have HD4:=Lib.hid hd4;have HC4:=Lib.hid hc4;clear hd4 hc4;go_wp2_with fail;go_end0;refine ⟨rfl,?_,HC3.out.trans HC4.out⟩
        rw [HR.out]
        have:=HD4.out;rw [List.append_assoc] at this;exact this
       |none=>
        have hr:=HR.out;rw [hsc] at hsi hr
        replace HR:=Lib.hid hr
        have HSi:=Lib.hid hsi;clear hsi hsc hd3 hc3 hr;go_wp2_with fail;refine HSi.out.mono ?_;rintro e1 w4 ⟨rfl,hd4,hc4⟩
        have HD4:=Lib.hid hd4;have HC4:=Lib.hid hc4;clear hd4 hc4;go_wp2_with fail;go_end0;refine ⟨rfl,?_,HC3.out.trans HC4.out⟩
        rw [HR.out]
        exact HD4.out
end
end Enc
namespace Enc
open Go.RowKit Win Stp Go.Proofs.YtooiooledeblmaaGreatW.PrintMore
def isB (c:Int):Bool:=decide (c≤1114111)&&(decide (c<55296)||decide (57343<c))
theorem sis_calls (c:Int) (w:World):Calls Tryz.prog 77 #[.int .u32 c] w fun e w'=>e= .returned (.bool (isB c))∧w=w':=by
 unfold isB
 by_cases h1:c≤1114111
 ·by_cases h2:c<55296
  ·rw [decide_eq_true h1,decide_eq_true h2]
   go_enter Tryz.func77,Tryz.ntmps77;go_wp2;go_ret;exact ⟨rfl,rfl⟩
  ·rw [decide_eq_true h1,decide_eq_false h2]
   go_enter Tryz.func77,Tryz.ntmps77;go_wp2;go_ret;exact ⟨rfl,rfl⟩
 ·rw [decide_eq_false h1]
  go_enter Tryz.func77,Tryz.ntmps77;go_wp2;go_ret;exact ⟨rfl,rfl⟩
def e0 (p:Bool):E:={o:=firsts,u:=used0,plain:=p,uni:=false,act:=0,beh:=false,wt:=2147483648}
def b40:B4:={at_:=0,err:=0,pl:=0,fin:=false}
theorem eg0 (p:Bool):EG (e0 p):=by
 have h2:∀x∈firsts,128≤x∧x≤1114000:=by decide +kernel
 have h5:∀n∈used0,0≤n∧n<8:=by decide +kernel
 refine ⟨rfl,h2,fun n h0 h8=>?_,rfl,h5,⟨Int.le_refl 0,by show (0:Int)<8;decide⟩⟩
 show n∈used0
 have:n=0∨n=1∨n=2∨n=3∨n=4∨n=5∨n=6∨n=7:=by omega
 rcases this with rfl|rfl|rfl|rfl|rfl|rfl|rfl|rfl <;>decide
theorem newEncoder_calls (p:Bool) (w:World):Calls Tryz.prog 68 #[.bool p] w fun e w'=>e= .returned (.pointer (some ⟨w.heap.size+1,0,none⟩))∧EncAt w' (w.heap.size+1) w.heap.size b40 [] (e0 p)∧Below w.heap.size w w'∧w'.heap.size=w.heap.size+2:=by
 have hn:Calls Tryz.prog 107 #[] w fun e w'=>e= .returned (.pointer (some ⟨w.heap.size,0,none⟩))∧w'=w.alloc (.cells (winCells firsts used0).toArray 229):=by
  go_enter Tryz.func107,Tryz.ntmps107;go_wp2;go_ret;exact ⟨rfl,rfl⟩
 go_enter Tryz.func68,Tryz.ntmps68;go_wp2_with (go_at_call 107;refine hn.mono ?_;rintro e w1 ⟨rfl,rfl⟩)
 go_ret;have e1:(w.alloc (.cells (winCells firsts used0).toArray 229)).heap.size=w.heap.size+1:=by simp
 refine ⟨rfl,⟨?_,⟨?_,rfl,rfl⟩⟩,((Below.refl _ _).alloc (Nat.le_refl _) _).alloc (by simp) _,by simp⟩
 ·rw [←e1];exact heap_alloc_new _ _
 ·rw [Below.heap_alloc _ _ _ (by simp)];exact heap_alloc_new _ _
def Wt (m:E):Prop:=m.wt=2147483648∨0≤m.wt∧m.wt≤1114111
def flushC (m:E):E×List Int:=if m.wt=2147483648 then (m,[]) else ({(workC m m.wt 2147483648).1 with wt:=2147483648},(workC m m.wt 2147483648).2)
theorem EG.flush {m:E} (h:EG m) (hw:Wt m):EG (flushC m).1:=by
 unfold flushC
 split
 ·exact h
 ·rename_i hne
  rcases hw with h1|⟨h1,h2⟩
  ·exact absurd h1 hne
  ·exact (h.work h1 h2).same rfl rfl rfl
section
variable {w:World} {g gw:Nat} {b:B4} {l:List Int} {m:E}
theorem flush_calls (h:EncAt w g gw b l m) (hG:EG m) (hw:Wt m) (hl:l.length<999800):
  Calls Tryz.prog 199 #[.pointer (some ⟨g,0,none⟩)] w (KeepPost w g gw b (l++(flushC m).2) (flushC m).1):=by
 have h10:=h.c10;unfold flushC
 by_cases hn:m.wt=2147483648
 ·rw [if_pos hn]
  have hb:(m.wt !=2147483648)=false:=by simp [hn]
  have H:=Lib.hid h;clear h hG hw hn;go_enter Tryz.func199,Tryz.ntmps199;go_wp2_with fail;go_end0;refine ⟨rfl,?_,Chg.refl _⟩
  simp only [List.append_nil]
  exact H.out
 ·rw [if_neg hn]
  have hb:(m.wt !=2147483648)=true:=by simp [hn]
  have hr:0≤m.wt∧m.wt≤1114111:=by
   rcases hw with h1|h1
   ·exact absurd h1 hn
   ·exact h1
  have HW:=Lib.hid (work_calls m.wt 2147483648 h hG hr.1 hr.2 (by decide) (by decide) hl)
  clear h hG hw hn hr;go_enter Tryz.func199,Tryz.ntmps199;go_wp2_with fail;refine HW.out.mono ?_;rintro e w1 ⟨rfl,hd,hc⟩
  have h10b:=hd.c10;have f10b:=hd.fz 10;have HD:=Lib.hid hd;have HC:=Lib.hid hc;clear hd hc;go_wp2_with fail;go_end0;exact ⟨rfl,HD.out.set 10 (.int .u32 2147483648) rfl rfl rfl,HC.out.trans (efs_g 10 _)⟩
def endM (b:B4) (m:E):E:=if b.going=true then (flushC m).1 else m
def endE (b:B4) (m:E):List Int:=if b.going=true then (flushC m).2 else []
def finB (b:B4):B4:=if b.going=true then {b with fin:=true} else b
theorem bend_enc (h:EncAt w g gw b l m):Calls Tryz.prog 139 #[.pointer (some ⟨g,0,none⟩)] w fun e w'=>e= .returned (.tuple #[])∧EncAt w' g gw (finB b) l m∧Chg (EFS g gw) w w':=by
 refine (bend_calls g b w h.base).mono ?_;rintro e w' ⟨rfl,rfl⟩
 unfold finB
 cases hg:b.going with
 |true=>rw [if_pos rfl,if_pos rfl];exact ⟨rfl,h.set 3 (.bool true) rfl rfl rfl,efs_g 3 _⟩
 |false=>rw [if_neg (by decide),if_neg (by decide)];exact ⟨rfl,h,Chg.refl _⟩
theorem end_calls (h:EncAt w g gw b l m) (hG:EG m) (hw:Wt m) (hl:l.length<999800):
  Calls Tryz.prog 197 #[.pointer (some ⟨g,0,none⟩)] w fun e w'=>e= .returned (.tuple #[])∧EncAt w' g gw (finB b) (l++endE b m) (endM b m)∧Chg (EFS g gw) w w':=by
 have hgo:=going_calls g b w h.base;unfold endE endM
 cases hg:b.going with
 |true=>
  rw [hg] at hgo;rw [if_pos rfl,if_pos rfl]
  have HGo:=Lib.hid hgo;have HF:=Lib.hid (flush_calls h hG hw hl)
  clear h hG hw hg hgo;go_enter Tryz.func197,Tryz.ntmps197;go_wp2_with fail;refine HGo.out.mono ?_;rintro e w1 ⟨rfl,rfl⟩
  go_wp2_with fail;refine HF.out.mono ?_;rintro e w1 ⟨rfl,hd,hc⟩
  have HB:=Lib.hid (bend_enc hd)
  have HC:=Lib.hid hc;clear hd hc;go_wp2_with fail;refine HB.out.mono ?_;rintro e w2 ⟨rfl,hd,hc⟩
  have HD2:=Lib.hid hd;have HC2:=Lib.hid hc;clear hd hc;go_wp2_with fail;go_end0;exact ⟨rfl,HD2.out,HC.out.trans HC2.out⟩
 |false=>
  rw [hg] at hgo;rw [if_neg (by simp),if_neg (by simp),List.append_nil]
  have HGo:=Lib.hid hgo;have HB:=Lib.hid (bend_enc h)
  clear h hG hw hg hgo;go_enter Tryz.func197,Tryz.ntmps197;go_wp2_with fail;refine HGo.out.mono ?_;rintro e w1 ⟨rfl,rfl⟩
  go_wp2_with fail;refine HB.out.mono ?_;rintro e w2 ⟨rfl,hd,hc⟩
  have HD2:=Lib.hid hd;have HC2:=Lib.hid hc;clear hd hc;go_wp2_with fail;go_end0;exact ⟨rfl,HD2.out,HC2.out⟩
theorem done_calls (h:EncAt w g gw b l m) (hl:l.length≤1000000):
  Calls Tryz.prog 138 #[.pointer (some ⟨g,0,none⟩)] w fun e w'=>e= .returned (.bool (!b.going&&decide (l=[])))∧w=w':=by
 have hgo:=going_calls g b w h.base;have HK:=Lib.hid (kept_calls h hl)
 cases hg:b.going with
 |true=>
  rw [hg] at hgo;have HGo:=Lib.hid hgo;clear h hg hgo;go_enter Tryz.func138,Tryz.ntmps138;go_wp2_with (first|(go_at_call 143;refine HGo.out.mono ?_;rintro e w1 ⟨rfl,rfl⟩)|(go_at_call 142;refine HK.out.mono ?_;rintro e w1 ⟨rfl,rfl⟩))
  go_ret;exact ⟨rfl,rfl⟩
 |false=>
  rw [hg] at hgo;have HGo:=Lib.hid hgo;have hle:decide (l=[])=((l.length:Int)==0):=by
   rw [Bool.eq_iff_iff]
   simp
  rw [hle]
  clear h hg hgo hle;obtain ⟨n,hn⟩:∃n,n=l.length:=⟨_,rfl⟩
  rw [←hn] at HK ⊢;clear hn;go_enter Tryz.func138,Tryz.ntmps138;go_wp2_with (first|(go_at_call 143;refine HGo.out.mono ?_;rintro e w1 ⟨rfl,rfl⟩)|(go_at_call 142;refine HK.out.mono ?_;rintro e w1 ⟨rfl,rfl⟩))
  go_ret;exact ⟨rfl,rfl⟩
end
end Enc
namespace Enc
open Go.RowKit Win Stp Lst
def pushC (m:E) (c:Int):E×List Int:=if m.wt=2147483648 then ({m with wt:=c},[]) else ({(workC m m.wt c).1 with wt:=c},(workC m m.wt c).2)
def pushes (m:E):List Int→E×List Int
 |[]=>(m,[])
 |c::cs=>((pushes (pushC m c).1 cs).1,(pushC m c).2++(pushes (pushC m c).1 cs).2)
theorem pushes_snoc (c:Int):∀(cs:List Int) (m:E),pushes m (cs++[c])=((pushC (pushes m cs).1 c).1,(pushes m cs).2++(pushC (pushes m cs).1 c).2)
 |[],m=>by simp [pushes]
 |x::cs,m=>by
  have ih:=pushes_snoc c cs (pushC m x).1;simp only [pushes,List.cons_append]
  rw [ih]
  simp
theorem simple_len {m:E} {c:Int} {e:List Int} (h:simpleC m c=some e):e.length≤2:=by
 unfold simpleC at h
 split at h
 ·injection h with h;rw [←h];simp
 ·split at h
  ·injection h with h;rw [←h];simp
  ·split at h
   ·injection h with h;rw [←h];simp
   ·cases h
theorem units_len (c:Int):(unitsC c).length≤4:=by
 unfold unitsC
 split
 ·simp
 ·split <;>simp
theorem lay_len (m:E) (c ix pr:Int):(layE m c ix pr).length≤4:=by
 unfold layE
 split <;>simp
theorem single_len (m:E) (c d:Int):(singleC m c d).2.length≤5:=by
 unfold singleC
 cases hs:simpleC m c with
 |some e=>have:=simple_len hs;simp only;omega
 |none=>
  simp only
  split
  ·split <;>simp
  ·split
   ·simp
   ·split
    ·have:=lay_len m c 24 11;simp only;omega
    ·split
     ·simp
     ·have:=units_len c;simp only [List.length_cons];omega
theorem work_len (m:E) (c d:Int):(workC m c d).2.length≤10:=by
 unfold workC
 split
 ·simp
 ·split
  ·split
   ·have:=units_len c;simp only;omega
   ·split
    ·rename_i e hs;have:=simple_len hs;simp only;omega
    ·have:=units_len c;simp only [List.length_cons];omega
  ·split
   ·have:=single_len {m with beh:=true} c d;omega
   ·split
    ·cases hs:simpleC (backC m c) c with
     |some e=>have:=simple_len hs;simp;omega
     |none=>simp
    ·split
     ·have:=lay_len {m with beh:=true} c 232 241;simp only;omega
     ·have:=units_len c;simp only;omega
theorem push_len (m:E) (c:Int):(pushC m c).2.length≤10:=by
 unfold pushC
 split
 ·simp
 ·exact work_len _ _ _
theorem pushes_len:∀(cs:List Int) (m:E),(pushes m cs).2.length≤10*cs.length
 |[],m=>by simp [pushes]
 |x::cs,m=>by
  have h1:=push_len m x;have h2:=pushes_len cs (pushC m x).1;simp only [pushes,List.length_append,List.length_cons]
  omega
theorem flush_len (m:E):(flushC m).2.length≤10:=by
 unfold flushC
 split
 ·simp
 ·exact work_len _ _ _
theorem isB_rng {c:Int} (h:isB c=true):c≤1114111:=by
 unfold isB at h;simp only [Bool.and_eq_true,decide_eq_true_eq] at h;exact h.1
theorem EG.push {m:E} {c:Int} (h:EG m) (hw:Wt m):EG (pushC m c).1:=by
 unfold pushC
 split
 ·exact h.same rfl rfl rfl
 ·rename_i hne
  rcases hw with h1|⟨h1,h2⟩
  ·exact absurd h1 hne
  ·exact (h.work h1 h2).same rfl rfl rfl
theorem wt_push (m:E) (c:Int):(pushC m c).1.wt=c:=by
 unfold pushC
 split <;>rfl
structure FedE (b:B4) (m:E) (p:List Int) (l:List Int) (room:Int) (n:Nat) (S:List Int) (b':B4) (m':E) (p':List Int):Prop where
 le:n≤l.length
 sc:∀c∈l.take n,isB c=true
 fits:(S.length:Int)≤room∨S=[]
 full:p'=[]∨room≤(S.length:Int)
 go:n≠0→b.going=true
 way:(b.going=true∧n<l.length∧isB (l.getD n 0)=false∧m'=(flushC (pushes m (l.take n)).1).1∧S++p'=p++(pushes m (l.take n)).2++(flushC (pushes m (l.take n)).1).2∧b'={b with at_:=b.at_+n,err:=2,pl:=b.at_+n})∨
  (m'=(pushes m (l.take n)).1∧S++p'=p++(pushes m (l.take n)).2∧b'={b with at_:=b.at_+n}∧(n=l.length∨p'≠[]∨b.going=false))
theorem clip_spec (r:Int) (n:Nat):clipN r n≤n∧((clipN r n:Int)≤r∨clipN r n=0)∧(clipN r n=n∨r≤(clipN r n:Int)):=by
 unfold clipN;refine ⟨?_,?_,?_⟩ <;>(repeat' (first|omega|split))
theorem give_more {S q:List Int} {room:Int} (h1:(S.length:Int)≤room∨S=[]):
  (((S++q.take (clipN (room-S.length) q.length)).length:Int)≤room∨S++q.take (clipN (room-S.length) q.length)=[])∧
  (q.drop (clipN (room-S.length) q.length)=[]∨room≤((S++q.take (clipN (room-S.length) q.length)).length:Int))∧
  (S++q.take (clipN (room-S.length) q.length))++q.drop (clipN (room-S.length) q.length)=S++q:=by
 obtain ⟨c1,c2,c3⟩:=clip_spec (room-S.length) q.length;generalize clipN (room-S.length) q.length=k at c1 c2 c3;have hl:(S++q.take k).length=S.length+k:=by rw [List.length_append,List.length_take,Nat.min_eq_left c1]
 refine ⟨?_,?_,by rw [List.append_assoc,List.take_append_drop]⟩
 ·rw [hl]
  rcases c2 with c2|c2
  ·left;omega
  ·rcases h1 with h1|h1
   ·left;omega
   ·right;rw [h1,c2];simp
 ·rw [hl]
  rcases c3 with c3|c3
  ·left;rw [c3,List.drop_length]
  ·right;omega
end Enc
end Go.Proofs.YtooiooledeblmaaGreat
