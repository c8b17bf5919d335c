/- The compressor: fed. codec.Encode by the encoder compress.Encoder. The compressor, as Encode needs it. Encode by SCSU, by either profile. codec.Decode by UTF-8. The Feed of uni16.Decoder, at bytes that are right. UTF-16's decoder: a byte. -/
import Derived.Test.YtooiooledeblmaaGreatZ15
import Derived.Test.YtooiooledeblmaaGreatZ19
import Derived.Deep.CutBlock
import Derived.Deep.DeepCutAuto
set_option linter.unusedVariables false
set_option linter.unusedSimpArgs false
namespace Go.Proofs.YtooiooledeblmaaGreat
namespace Enc
open Go.RowKit Win Stp Go.Proofs.YtooiooledeblmaaGreat.Lst
def FeedRel (w:World) (g gw:Nat) (b:B4) (m:E) (p l:List Int) (room:Int) (vo i:Value) (wr:World):Prop:=
 ∃(n:Nat) (S p':List Int) (m':E),i= .int .i64 n∧vo= .string (strOfNums S)∧n≤l.length∧EncAt wr g gw {b with at_:=b.at_+n} p' m'∧EG m'∧Wt m'∧Chg (EFS g gw) w wr∧(∀c∈l.take n,isB c=true)∧
  ((S.length:Int)≤room∨S=[])∧(p'=[]∨room≤(S.length:Int))∧(n≠0→b.going=true)∧m'=(pushes m (l.take n)).1∧S++p'=p++(pushes m (l.take n)).2
def FeedMid (w:World) (g gw:Nat) (b:B4) (m:E) (p l:List Int) (room:Int) (vo i:Value) (wr:World):Prop:=
 ∃(n:Nat) (S p':List Int) (b':B4) (m':E),i= .int .i64 n∧vo= .string (strOfNums S)∧EncAt wr g gw b' p' m'∧EG m'∧Wt m'∧Chg (EFS g gw) w wr∧FedE b m p l room n S b' m' p'
def FeedPost (w:World) (g gw:Nat) (b:B4) (m:E) (p l:List Int) (room:Int) (e:Ending) (wr:World):Prop:=
 ∃(n:Nat) (S p':List Int) (b':B4) (m':E),e= .returned (.tuple #[.int .i64 n,.string (strOfNums S)])∧EncAt wr g gw b' p' m'∧EG m'∧Wt m'∧Chg (EFS g gw) w wr∧FedE b m p l room n S b' m' p'
set_option maxRecDepth 100000 in
set_option maxHeartbeats 16000000 in
theorem feed_calls {w:World} {g gw:Nat} {b:B4} {p l:List Int} {m:E} {A:Option Addr} {cap:Nat} (room:Int) (h:EncAt w g gw b p m) (hG:EG m) (hw:Wt m) (hp:p.length≤200000) (hl:l.length≤10000)
  (hA:∀wr,Chg (EFS g gw) w wr→Lst wr .u32 A l) (hr:∀x∈l,0≤x∧x≤4294967295) (r0:0≤room) (r1:room≤1000000) (hb0:0≤b.at_) (hb1:b.at_≤1000000):
  Calls Tryz.prog 198 #[.pointer (some ⟨g,0,none⟩),.slice A l.length cap,.int .i64 room] w (FeedPost w g gw b m p l room):=by
 have hgi:=give_calls room h (by omega)
 obtain ⟨k,hk⟩:∃k,k=clipN room p.length:=⟨_,rfl⟩
 rw [←hk] at hgi;have hgm:=give_more (S:=[]) (q:=p) (room:=room) (.inr rfl)
 rw [show room-(([]:List Int).length:Int)=room by simp,←hk] at hgm;simp only [List.nil_append] at hgm;have H:=Lib.hid h;have HG:=Lib.hid hG;have HW:=Lib.hid hw;have HA:=Lib.hid hA;have HR:=Lib.hid hr;have HGi:=Lib.hid hgi;have HGm:=Lib.hid hgm;clear h hG hw hA hr hgi hgm hk;go_enter Tryz.func198,Tryz.ntmps198;go_wp2_with fail;refine HGi.out.mono ?_;rintro e w1 ⟨rfl,rfl⟩
 have h1:=H.out.set 4 (.string (strOfNums (p.drop k))) (b':=b) (l':=p.drop k) (m':=m) rfl rfl rfl;obtain ⟨w1,hw1⟩:∃w1,w1=w.setCell ⟨g,4,none⟩ (.string (strOfNums (p.drop k))):=⟨_,rfl⟩
 rw [←hw1] at h1 ⊢;have HC1:=Lib.hid (show Chg (EFS g gw) w w1 by rw [hw1];exact efs_g 4 _)
 have H1:=Lib.hid h1;clear h1 hw1;go_upto_block 0 with fail;go_cut [8,9] (fun vo i wx=>FeedMid w g gw b m p l room vo i wx)
 case first=>
  go_wp2_with fail;go_loopw [8,9] (fun vo i wr=>FeedRel w g gw b m p l room vo i wr) (fun _ i _=>l.length-(intOf i).toNat)
  case atStart=>
   refine ⟨0,p.take k,p.drop k,m,rfl,rfl,Nat.zero_le _,?_,HG.out,HW.out,HC1.out,(fun c hc=>by cases hc),HGm.out.1,HGm.out.2.1,fun h=>absurd rfl h,rfl,?_⟩
   ·have:=H1.out
    simpa using this
   ·rw [HGm.out.2.2]
    first|done|simp [pushes]
  case round=>
   obtain ⟨n,S,p',m',rfl,rfl,hn,hd,hg,hwt,hc,hsc,hfit,hfull,hgo,hm,hS⟩:=hrel;have hsl:S.length≤400000∧p'.length≤400000:=by
    have h1:=pushes_len (l.take n) m;have h2:(S++p').length=(p++(pushes m (l.take n)).2).length:=by rw [hS]
    rw [List.length_append,List.length_append] at h2;rw [List.length_take] at h1;omega
   obtain ⟨hs1,hs2⟩:=hsl;have hXs:=str_size S;have HD:=Lib.hid hd;have HGr:=Lib.hid hg;have HWt:=Lib.hid hwt;have HC:=Lib.hid hc;have HSc:=Lib.hid hsc;have HFit:=Lib.hid hfit;have HFull:=Lib.hid hfull;have HGo:=Lib.hid hgo;have HM:=Lib.hid hm;have HS:=Lib.hid hS;have HKe:=Lib.hid (kept_calls hd (by omega))
   have hgoing:=going_calls g _ wr hd.base;have hge:(({b with at_:=b.at_+n}:B4)).going=b.going:=rfl;rw [hge] at hgoing;clear hd hg hwt hc hsc hfit hfull hgo hm hS hge
   by_cases hlt:n<l.length
   ·by_cases hpe:p'=[]
    ·have hpl:((p'.length:Int)==0)=true:=by rw [hpe];rfl
     cases hbg:b.going with
     |true=>
      rw [hbg] at hgoing;have HGg:=Lib.hid hgoing;have HBG:=Lib.hid hbg;have HPE:=Lib.hid hpe;obtain ⟨a,rfl,q⟩:=(HA.out wr HC.out) n hlt;have hrx:=HR.out (l.getD n 0) (by rw [List.getD_eq_getElem?_getD,List.getElem?_eq_getElem hlt];exact List.getElem_mem _)
      obtain ⟨x,hx⟩:∃x,x=l.getD n 0:=⟨_,rfl⟩
      rw [←hx] at q hrx;obtain ⟨x0,x1⟩:=hrx;have HX:=Lib.hid hx;have hisx:=sis_calls x;have c10:=HD.out.c10;have f10:=HD.out.fz 10;clear hgoing hbg hpe hx
      cases hix:isB x with
      |true=>
       rw [hix] at hisx;have HIs:=Lib.hid hisx;have HIx:=Lib.hid hix;clear hisx hix;have HTk:=Lib.hid (show l.take (n+1)=l.take n++[x] by rw [List.take_succ_eq_append_getElem hlt,HX.out,List.getD_eq_getElem?_getD,List.getElem?_eq_getElem hlt];rfl)
       by_cases hwn:m'.wt=2147483648
       ·have hwb:(m'.wt !=2147483648)=false:=by simp [hwn]
        have hpc:pushC m' x=({m' with wt:=x},[]):=by unfold pushC;rw [if_pos hwn]
        have HPC:=Lib.hid hpc;clear hwn hpc;go_wp2_with fail;refine HKe.out.mono ?_;rintro e w2 ⟨rfl,rfl⟩
        go_wp2_with fail;refine HGg.out.mono ?_;rintro e w2 ⟨rfl,rfl⟩
        go_wp2_with fail;refine (HIs.out _).mono ?_;rintro e w2 ⟨rfl,rfl⟩
        go_wp2_with fail;have hdw:EncAt (wr.setCell ⟨g,10,none⟩ (.int .u32 x)) g gw {b with at_:=b.at_+n} (p'++(pushC m' x).2) (pushC m' x).1:=by
         rw [HPC.out,List.append_nil]
         exact HD.out.set 10 (.int .u32 x) rfl rfl rfl
        have hcw:Chg (EFS g gw) w (wr.setCell ⟨g,10,none⟩ (.int .u32 x)):=HC.out.trans (efs_g 10 _)
        have h0c:=hdw.fz 0;have hd5:=hdw.set 0 (.int .i64 (b.at_+n+1)) (b':={b with at_:=b.at_+n+1}) (l':=p'++(pushC m' x).2) (m':=(pushC m' x).1) rfl rfl rfl;have HEt:=Lib.hid (eat_calls g _ 1 (wr.setCell ⟨g,10,none⟩ (.int .u32 x)) hdw.base (show (({b with at_:=b.at_+n}:B4)).going=true from HBG.out) (by decide) (by decide) (show 0≤b.at_+n by omega) (show b.at_+n≤1000000000 by omega))
        have hpl2:=push_len m' x;have hgi3:=give_calls (room-S.length) hd5 (by rw [List.length_append];omega)
        have hgm3:=give_more (S:=S) (q:=p'++(pushC m' x).2) (room:=room) HFit.out;have hql:(p'++(pushC m' x).2).length≤500000:=by rw [List.length_append];omega
        obtain ⟨q2,hq2⟩:∃q2,q2=p'++(pushC m' x).2:=⟨_,rfl⟩
        rw [←hq2] at hgi3 hgm3 hql hd5;obtain ⟨k2,hk2⟩:∃k2,k2=clipN (room-S.length) q2.length:=⟨_,rfl⟩
        rw [←hk2] at hgi3 hgm3;have hT:=str_size (q2.take k2)
        have happ:=str_append S (q2.take k2)
        have hTl:(q2.take k2).length≤500000:=by rw [List.length_take];omega
        obtain ⟨T,hTT⟩:∃T,T=q2.take k2:=⟨_,rfl⟩
        rw [←hTT] at hgi3 hgm3 hT happ hTl;have HGi3:=Lib.hid hgi3;have HGm3:=Lib.hid hgm3;have HD5:=Lib.hid hd5;have HQ2:=Lib.hid hq2;have HC5:=Lib.hid hcw;clear hdw hcw hd5 hgi3 hgm3 hq2 hk2 hTT hpl2 hql h0c;go_wp2_with fail;refine HEt.out.mono ?_;rintro e w6 ⟨rfl,rfl⟩
        go_wp2_with fail;refine HGi3.out.mono ?_;rintro e w7 ⟨rfl,rfl⟩
        go_wp2_with fail;go_roundw
        case rel=>
         refine ⟨n+1,S++T,q2.drop k2,(pushC m' x).1,by go_num,rfl,hlt,?_,HGr.out.push HWt.out,.inr ?_,(HC5.out.trans (efs_g 0 _)).trans (efs_g 4 _),?_,HGm3.out.1,HGm3.out.2.1,fun _=>HBG.out,?_,?_⟩
         ·have:=HD5.out.set 4 (.string (strOfNums (q2.drop k2))) (b':={b with at_:=b.at_+n+1}) (l':=q2.drop k2) (m':=(pushC m' x).1) rfl rfl rfl
          have e2:b.at_+((n+1:Nat):Int)=b.at_+n+1:=by omega
          rw [e2]
          exact this
         ·rw [wt_push];exact ⟨x0,isB_rng HIx.out⟩
         ·rw [HTk.out]
          intro c hc;rcases List.mem_append.1 hc with hc|hc
          ·exact HSc.out c hc
          ·rw [List.mem_singleton.1 hc];exact HIx.out
         ·rw [HTk.out,pushes_snoc,←HM.out]
         ·rw [HGm3.out.2.2,HQ2.out,HTk.out,pushes_snoc,←HM.out,←List.append_assoc,HS.out,List.append_assoc] <;>rfl
        case measure=>simp [intOf];omega
       ·have hwb:(m'.wt !=2147483648)=true:=by simp [hwn]
        have hpc:pushC m' x=({(workC m' m'.wt x).1 with wt:=x},(workC m' m'.wt x).2):=by unfold pushC;rw [if_neg hwn]
        have hwr:0≤m'.wt∧m'.wt≤1114111:=by
         rcases HWt.out with h1|h1
         ·exact absurd h1 hwn
         ·exact h1
        have HWk:=Lib.hid (work_calls m'.wt x (HD.out.drewN 1) HGr.out hwr.1 hwr.2 x0 x1 (by omega))
        have HPC:=Lib.hid hpc;have HLs:=Lib.hid (HA.out wr HC.out)
        clear hwn hpc hwr;go_wp2_with fail;refine HKe.out.mono ?_;rintro e w2 ⟨rfl,rfl⟩
        go_wp2_with fail;refine HGg.out.mono ?_;rintro e w2 ⟨rfl,rfl⟩
        go_wp2_with fail;refine (HIs.out _).mono ?_;rintro e w2 ⟨rfl,rfl⟩
        go_wp2_with fail;go_region_with (go_at_call 200;refine HWk.out.mono ?_;rintro e w2 ⟨rfl,hd2,hc2⟩;have HDC:=Lib.hid (And.intro hd2 hc2);clear hd2 hc2)
        all_goals
         obtain ⟨hd2,hc2⟩:=HDC.out;have hcc2:Chg (EFS g gw) w w2:=(HC.out.trans (Chg.drew wr)).trans hc2;obtain ⟨a2,ha2,q2c⟩:=(HA.out w2 hcc2) n hlt;obtain rfl:a2=a:=by injection ha2 with h;exact h.symm
         rw [←HX.out] at q2c;have c10b:=hd2.c10;have f10b:=hd2.fz 10;have hdw:EncAt (w2.setCell ⟨g,10,none⟩ (.int .u32 x)) g gw {b with at_:=b.at_+n} (p'++(pushC m' x).2) (pushC m' x).1:=by
          rw [HPC.out]
          exact hd2.set 10 (.int .u32 x) rfl rfl rfl
         have hcw:Chg (EFS g gw) w (w2.setCell ⟨g,10,none⟩ (.int .u32 x)):=hcc2.trans (efs_g 10 _)
         clear hd2 hc2 hcc2 ha2;go_wp2_with fail;have h0c:=hdw.fz 0;have hd5:=hdw.set 0 (.int .i64 (b.at_+n+1)) (b':={b with at_:=b.at_+n+1}) (l':=p'++(pushC m' x).2) (m':=(pushC m' x).1) rfl rfl rfl;have HEt:=Lib.hid (eat_calls g _ 1 (w2.setCell ⟨g,10,none⟩ (.int .u32 x)) hdw.base (show (({b with at_:=b.at_+n}:B4)).going=true from HBG.out) (by decide) (by decide) (show 0≤b.at_+n by omega) (show b.at_+n≤1000000000 by omega))
         have hpl2:=push_len m' x;have hgi3:=give_calls (room-S.length) hd5 (by rw [List.length_append];omega)
         have hgm3:=give_more (S:=S) (q:=p'++(pushC m' x).2) (room:=room) HFit.out;have hql:(p'++(pushC m' x).2).length≤500000:=by rw [List.length_append];omega
         obtain ⟨q2,hq2⟩:∃q2,q2=p'++(pushC m' x).2:=⟨_,rfl⟩
         rw [←hq2] at hgi3 hgm3 hql hd5;obtain ⟨k2,hk2⟩:∃k2,k2=clipN (room-S.length) q2.length:=⟨_,rfl⟩
         rw [←hk2] at hgi3 hgm3;have hT:=str_size (q2.take k2)
         have happ:=str_append S (q2.take k2)
         have hTl:(q2.take k2).length≤500000:=by rw [List.length_take];omega
         obtain ⟨T,hTT⟩:∃T,T=q2.take k2:=⟨_,rfl⟩
         rw [←hTT] at hgi3 hgm3 hT happ hTl;have HGi3:=Lib.hid hgi3;have HGm3:=Lib.hid hgm3;have HD5:=Lib.hid hd5;have HQ2:=Lib.hid hq2;have HC5:=Lib.hid hcw;clear hdw hcw hd5 hgi3 hgm3 hq2 hk2 hTT hpl2 hql h0c;go_wp2_with fail;refine HEt.out.mono ?_;rintro e w6 ⟨rfl,rfl⟩
         go_wp2_with fail;refine HGi3.out.mono ?_;rintro e w7 ⟨rfl,rfl⟩
         go_wp2_with fail;go_roundw
         case rel=>
          refine ⟨n+1,S++T,q2.drop k2,(pushC m' x).1,by go_num,rfl,hlt,?_,HGr.out.push HWt.out,.inr ?_,(HC5.out.trans (efs_g 0 _)).trans (efs_g 4 _),?_,HGm3.out.1,HGm3.out.2.1,fun _=>HBG.out,?_,?_⟩
          ·have:=HD5.out.set 4 (.string (strOfNums (q2.drop k2))) (b':={b with at_:=b.at_+n+1}) (l':=q2.drop k2) (m':=(pushC m' x).1) rfl rfl rfl
           have e2:b.at_+((n+1:Nat):Int)=b.at_+n+1:=by omega
           rw [e2]
           exact this
          ·rw [wt_push];exact ⟨x0,isB_rng HIx.out⟩
          ·rw [HTk.out]
           intro c hc;rcases List.mem_append.1 hc with hc|hc
           ·exact HSc.out c hc
           ·rw [List.mem_singleton.1 hc];exact HIx.out
          ·rw [HTk.out,pushes_snoc,←HM.out]
          ·rw [HGm3.out.2.2,HQ2.out,HTk.out,pushes_snoc,←HM.out,←List.append_assoc,HS.out,List.append_assoc] <;>rfl
         case measure=>simp [intOf];omega
      |false=>
       rw [hix] at hisx;have HIs:=Lib.hid hisx;have HIx:=Lib.hid hix;have HFl:=Lib.hid (flush_calls HD.out HGr.out HWt.out (by omega))
       clear hisx hix;go_wp2_with fail;refine HKe.out.mono ?_;rintro e w2 ⟨rfl,rfl⟩
       go_wp2_with fail;refine HGg.out.mono ?_;rintro e w2 ⟨rfl,rfl⟩
       go_wp2_with fail;refine (HIs.out _).mono ?_;rintro e w2 ⟨rfl,rfl⟩
       go_wp2_with fail;refine HFl.out.mono ?_;rintro e w2 ⟨rfl,hd2,hc2⟩
       have HSt:=Lib.hid (stop_calls g _ 2 w2 hd2.base (show (({b with at_:=b.at_+n}:B4)).going=true from HBG.out) (by decide))
       have hd3:=(hd2.set 1 (.int .i64 2) (b':={b with at_:=b.at_+n,err:=2}) (l':=p'++(flushC m').2) (m':=(flushC m').1) rfl rfl rfl).set 2 (.int .i64 (b.at_+n)) (b':={b with at_:=b.at_+n,err:=2,pl:=b.at_+n}) (l':=p'++(flushC m').2) (m':=(flushC m').1) rfl rfl rfl;have HC2:=Lib.hid hc2;have HD3:=Lib.hid hd3;have hfl:=flush_len m';have hgi3:=give_calls (room-S.length) hd3 (by rw [List.length_append];omega)
       have hgm3:=give_more (S:=S) (q:=p'++(flushC m').2) (room:=room) HFit.out;have hql:(p'++(flushC m').2).length≤500000:=by rw [List.length_append];omega
       obtain ⟨q2,hq2⟩:∃q2,q2=p'++(flushC m').2:=⟨_,rfl⟩
       rw [←hq2] at hgi3 hgm3 hql hd3;obtain ⟨k2,hk2⟩:∃k2,k2=clipN (room-S.length) q2.length:=⟨_,rfl⟩
       rw [←hk2] at hgi3 hgm3;have hT:=str_size (q2.take k2)
       have happ:=str_append S (q2.take k2)
       have hTl:(q2.take k2).length≤500000:=by rw [List.length_take];omega
       obtain ⟨T,hTT⟩:∃T,T=q2.take k2:=⟨_,rfl⟩
       rw [←hTT] at hgi3 hgm3 hT happ hTl;have HGi3:=Lib.hid hgi3;have HGm3:=Lib.hid hgm3;have HD3':=Lib.hid hd3;have HQ2:=Lib.hid hq2;clear hd2 hc2 hd3 hgi3 hgm3 hq2 hk2 hTT hfl hql;go_wp2_with fail;refine HSt.out.mono ?_;rintro e w3 ⟨rfl,rfl⟩
       go_wp2_with fail;refine HGi3.out.mono ?_;rintro e w4 ⟨rfl,rfl⟩
       go_wp2_with fail;go_meet;refine ⟨n,S++T,q2.drop k2,_,(flushC m').1,rfl,rfl,HD3'.out.set 4 (.string (strOfNums (q2.drop k2))) (b':={b with at_:=b.at_+n,err:=2,pl:=b.at_+n}) (l':=q2.drop k2) (m':=(flushC m').1) rfl rfl rfl,HGr.out.flush HWt.out,?_,?_,hn,HSc.out,HGm3.out.1,HGm3.out.2.1,HGo.out,.inl ⟨HBG.out,hlt,by rw [←HX.out];exact HIx.out,by rw [HM.out],?_,rfl⟩⟩
       ·unfold flushC
        split
        ·exact HWt.out
        ·exact .inl rfl
       ·exact (((HC.out.trans HC2.out).trans (efs_g 1 _)).trans (efs_g 2 _)).trans (efs_g 4 _)
       ·rw [HGm3.out.2.2,HQ2.out,←List.append_assoc,HS.out,HM.out]
     |false=>
      rw [hbg] at hgoing;have HGg:=Lib.hid hgoing;have HBG:=Lib.hid hbg;clear hgoing hbg hpe;go_wp2_with fail;refine HKe.out.mono ?_;rintro e w2 ⟨rfl,rfl⟩
      go_wp2_with fail;refine HGg.out.mono ?_;rintro e w2 ⟨rfl,rfl⟩
      go_wp2_with fail;go_meet;exact ⟨n,S,p',_,m',rfl,rfl,HD.out,HGr.out,HWt.out,HC.out,hn,HSc.out,HFit.out,HFull.out,HGo.out,.inr ⟨HM.out,HS.out,rfl,.inr (.inr HBG.out)⟩⟩
    ·have hpl:((p'.length:Int)==0)=false:=by
      rw [beq_eq_false_iff_ne]
      intro e;exact hpe (List.eq_nil_of_length_eq_zero (by omega))
     have HPE:=Lib.hid hpe;clear hgoing hpe;go_wp2_with fail;refine HKe.out.mono ?_;rintro e w2 ⟨rfl,rfl⟩
     go_wp2_with fail;go_meet;exact ⟨n,S,p',_,m',rfl,rfl,HD.out,HGr.out,HWt.out,HC.out,hn,HSc.out,HFit.out,HFull.out,HGo.out,.inr ⟨HM.out,HS.out,rfl,.inr (.inl HPE.out)⟩⟩
   ·obtain rfl:n=l.length:=by omega
    clear hgoing hlt;go_wp2_with fail;go_meet;exact ⟨l.length,S,p',_,m',rfl,rfl,HD.out,HGr.out,HWt.out,HC.out,hn,HSc.out,HFit.out,HFull.out,HGo.out,.inr ⟨HM.out,HS.out,rfl,.inl rfl⟩⟩
 case rest=>
  obtain ⟨n,S,p',b',m',rfl,rfl,hd,hg,hwt,hc,hf⟩:=hcut;have HAll:=Lib.hid (And.intro hd (And.intro hg (And.intro hwt (And.intro hc hf))))
  clear hd hg hwt hc hf;go_wp2_with fail;go_ret2;exact ⟨n,S,p',b',m',rfl,HAll.out.1,HAll.out.2.1,HAll.out.2.2.1,HAll.out.2.2.2.1,HAll.out.2.2.2.2⟩
end Enc
namespace Out
open Go.RowKit Win Stp Go.Proofs.YtooiooledeblmaaGreat.Lst
theorem mk_compress (v:Value) (w:World):(Instr.makeInterface 123 v).run Tryz.prog w= .ok (.iface 123 v) w:=run_makeInterface w 123 v (by kernel_rfl)
theorem feed_compress (g:Nat) (w:World):(method 407 123 (.pointer (some ⟨g,0,none⟩)) "Feed").run Tryz.prog w= .ok (198,.pointer (some ⟨g,0,none⟩)) w:=by kernel_rfl
theorem end_compress (g:Nat) (w:World):(method 407 123 (.pointer (some ⟨g,0,none⟩)) "End").run Tryz.prog w= .ok (197,.pointer (some ⟨g,0,none⟩)) w:=by kernel_rfl
theorem done_compress (g:Nat) (w:World):(method 407 123 (.pointer (some ⟨g,0,none⟩)) "Done").run Tryz.prog w= .ok (138,.pointer (some ⟨g,0,none⟩)) w:=by kernel_rfl
theorem fail_compress (g:Nat) (w:World):(method 407 123 (.pointer (some ⟨g,0,none⟩)) "Fail").run Tryz.prog w= .ok (140,.pointer (some ⟨g,0,none⟩)) w:=by kernel_rfl
attribute [local go_sem] mk_compress feed_compress end_compress done_compress fail_compress
def LoopE_compress (w:World) (b:Nat) (S1 S2:List Int) (P2 P3:World→Prop) (v:Value) (wr:World):Prop:=
 (((P2 wr∧BldAt w.heap.size b (strOfNums S1) wr)∧S2≠[]∧v=undef)∨((P3 wr∨(P2 wr∧S2=[]))∧BldAt w.heap.size b (strOfNums (S1++S2)) wr))∧wr.heap[w.heap.size]? =some (.cells #[.int .i64 0,.int .i64 0] 39 (0,0))∧Below w.heap.size w wr
def strM_compress:Value→Nat
 | .string _=>0
 |_=>1
set_option maxRecDepth 100000 in
set_option maxHeartbeats 8000000 in
theorem encode2_compress {c:Int} {l S1 S2:List Int} {w:World} {A:Option Addr} {cap:Nat} (hnew:∀wx,Calls Tryz.prog 34 #[.int .i64 c] wx (NewPost2 123 198 197 l S1 S2 wx)) (hs1:S1.length≤100000) (hs2:S2.length≤100000)
  (hL:∀wx,Below w.heap.size w wx→Lst wx .u32 A l) (hl:l.length≤600) (hcap:l.length≤cap):
  Calls Tryz.prog 17 #[.int .i64 c,.slice A l.length cap] w (EncPost w (S1++S2)):=by
 have HL:=Lib.hid hL;have HNew:=Lib.hid hnew;clear hL hnew;go_enter Tryz.func17,Tryz.ntmps17;go_wp2_with fail;refine (HNew.out _).mono ?_;rintro e w1 ⟨g,S,P0,P1,P2,P3,hm,rfl,hb,hp0,hS⟩
 obtain ⟨w0,hw0⟩:∃w0,w0=w.alloc (.cells #[.int .i64 0,.int .i64 0] 39):=⟨_,rfl⟩
 rw [←hw0] at hb hS;have hz0:w0.heap.size=w.heap.size+1:=by rw [hw0];simp
 have hr0:w0.heap[w.heap.size]? =some (.cells #[.int .i64 0,.int .i64 0] 39 (0,0)):=by rw [hw0];exact heap_alloc_new _ _
 have hb0:Below w.heap.size w w0:=by rw [hw0];exact (Below.refl _ _).alloc (Nat.le_refl _) _
 have hr1:=(hb.block w.heap.size (by omega)).trans hr0;have hb1:=hb0.trans (Below.mono hb (by omega))
 have HM:=Lib.hid hm;have HP0:=Lib.hid hp0;have HR1:=Lib.hid hr1;have HB1:=Lib.hid hb1;have HFs:=Lib.hid (show ∀i,S i→w.heap.size≤i from fun i hi=>by have:=hS i hi;omega)
 clear hm hb hw0 hz0 hr0 hb0 hS hr1 hb1 hp0;go_upto_block 0 with fail;obtain ⟨b,hbd⟩:∃b,b=w1.heap.size:=⟨_,rfl⟩
 obtain ⟨w2,hw2⟩:∃w2,w2=w1.alloc (.cells #[.pointer none,.slice none 0 0] 70):=⟨_,rfl⟩
 have hb12:Below w1.heap.size w1 w2:=by rw [hw2];exact (Below.refl _ _).alloc (Nat.le_refl _) _
 have HBl:=Lib.hid (show BldAt w.heap.size b ByteArray.empty w2 by rw [hw2,hbd];exact bld_new _ _ HB1.out.size)
 have HP2:=Lib.hid (HM.out.b0 _ _ HP0.out hb12)
 have HR2:=Lib.hid ((hb12.block w.heap.size (Array.getElem?_eq_some_iff.1 HR1.out).1).trans HR1.out)
 have HB2:=Lib.hid (HB1.out.trans (Below.mono hb12 HB1.out.size))
 rw [←hw2,←hbd]
 clear hbd hw2 hb12 HR1 HB1 HP0;go_wp2_with fail;go_loopw [1] (fun v wr=>v= .slice A l.length cap∧w2=wr) (fun _ _=>0)
 case atStart=>exact ⟨rfl,rfl⟩
 case round=>
  obtain ⟨rfl,rfl⟩:=hrel;have HFd:=Lib.hid (HM.out.feed w2 A cap HP2.out (fun wr hc=>HL.out wr (Chg.below HB2.out hc HFs.out)))
  have hsz:=str_size S1;go_wp2_with fail;refine HFd.out.mono ?_;rintro e w3 ⟨rfl,hp3,hc3⟩
  have hb3:=HM.out.k0.bld HP2.out HBl.out hc3;have hr3:=HM.out.k0.res HP2.out HR2.out hc3;have hbw3:=Chg.below HB2.out hc3 HFs.out;have HWr:=Lib.hid (bld_write (strOfNums S1) hb3 (by decide) (by omega) hbw3.size)
  have HP3:=Lib.hid hp3;have HR3:=Lib.hid hr3;have HB3:=Lib.hid hbw3;have HBl3:=Lib.hid hb3;clear hp3 hc3 hb3 hr3 hbw3;go_wp2_with fail;refine HWr.out.mono ?_;rintro e w4 ⟨rfl,hb4,hbe4,hot4⟩
  rw [ByteArray.empty_append] at hb4;have hp4:=HM.out.o1.use HP3.out HBl3.out hot4;have hr4:=oth_res hot4 HBl3.out HR3.out;have HEnd:=Lib.hid (HM.out.fin w4 hp4)
  have HP4:=Lib.hid hp4;have HBl4:=Lib.hid hb4;have HB4:=Lib.hid (HB3.out.trans hbe4)
  have HR4:=Lib.hid hr4;clear hb4 hbe4 hot4 hr4 hp4;go_upto_region 7 with fail;go_cut [1] from 22 to 41 (fun v wx=>(∃A' c',v= .slice A' 0 c')∧w4=wx)
  case first=>
   go_wp2_with fail
   all_goals
    go_meet;exact ⟨⟨_,_,rfl⟩,rfl⟩
  case rest=>
   obtain ⟨⟨A',c',rfl⟩,rfl⟩:=hcut;go_wp2_with fail;refine HEnd.out.mono ?_;rintro e w5 ⟨rfl,hp5,hc5⟩
   have hb5:=HM.out.k1.bld HP4.out HBl4.out hc5;have hr5:=HM.out.k1.res HP4.out HR4.out hc5;have hbw5:=Chg.below HB4.out hc5 HFs.out;have HLo:=Lib.hid (show LoopE_compress w b S1 S2 P2 P3 undef w5 from ⟨by
    by_cases h:S2=[]
    ·exact .inr ⟨.inr ⟨hp5,h⟩,by rw [h,List.append_nil];exact hb5⟩
    ·exact .inl ⟨⟨hp5,hb5⟩,h,rfl⟩,hr5,hbw5⟩)
   have HP5:=Lib.hid hp5;clear hp5 hc5 hb5 hr5 hbw5;go_wp2_with fail;go_loopw [12] (fun v wr=>LoopE_compress w b S1 S2 P2 P3 v wr) (fun v _=>strM_compress v)
   case atStart=>exact HLo.out
   case round=>
    obtain ⟨hst,hr6,hb6⟩:=hrel;have HR6:=Lib.hid hr6;have HB6:=Lib.hid hb6;clear hr6 hb6;rcases hst with ⟨⟨hp6,hbl6⟩,hne,rfl⟩|⟨hp6,hbl6⟩
    ·have hdn:=HM.out.don2 wr hp6
     rw [show S2.isEmpty=false from by cases S2 with|nil=>exact absurd rfl hne|cons x xs=>rfl] at hdn;have HDn:=Lib.hid hdn;have HMo:=Lib.hid (HM.out.more wr hp6 hne)
     have hsz2:=str_size S2;have HP6:=Lib.hid hp6;have HBl6:=Lib.hid hbl6;clear hdn hp6 hbl6 hne;go_wp2_with fail;refine HDn.out.mono ?_;rintro e w6 ⟨rfl,rfl⟩
     go_wp2_with fail;refine HMo.out.mono ?_;rintro e w7 ⟨rfl,hp7,hc7⟩
     have hb7:=HM.out.k2.bld HP6.out HBl6.out hc7;have hr7:=HM.out.k2.res HP6.out HR6.out hc7;have hbw7:=Chg.below HB6.out hc7 HFs.out;have HWr2:=Lib.hid (bld_write (strOfNums S2) hb7 (by omega) (by omega) hbw7.size)
     have HP7:=Lib.hid hp7;have HR7:=Lib.hid hr7;have HB7:=Lib.hid hbw7;have HBl7:=Lib.hid hb7;clear hp7 hc7 hb7 hr7 hbw7;go_wp2_with fail;refine HWr2.out.mono ?_;rintro e w8 ⟨rfl,hb8,hbe8,hot8⟩
     rw [str_append] at hb8;have HLo8:=Lib.hid (show LoopE_compress w b S1 S2 P2 P3 (.string (strOfNums S2)) w8 from ⟨.inr ⟨.inl (HM.out.o3.use HP7.out HBl7.out hot8),hb8⟩,oth_res hot8 HBl7.out HR7.out,HB7.out.trans hbe8⟩)
     clear hb8 hbe8 hot8;go_wp2_with fail;go_roundw
     case rel=>exact HLo8.out
     case measure=>exact Nat.zero_lt_one
    ·obtain ⟨bb,hbs,he0,he1⟩:∃bb,BaseAt wr g bb∧bb.err=0∧bb.pl=0:=by
      rcases hp6 with hp6|hp6
      ·exact HM.out.base3 wr hp6
      ·exact HM.out.base2 wr hp6.1
     have hdn:Calls Tryz.prog 138 #[.pointer (some ⟨g,0,none⟩)] wr fun e w'=>e= .returned (.bool true)∧wr=w':=by
      rcases hp6 with hp6|⟨hp6,h⟩
      ·exact HM.out.don3 wr hp6
      ·have:=HM.out.don2 wr hp6
       rw [h] at this;exact this
     have HDn:=Lib.hid hdn;have HSt:=Lib.hid (bld_string hbl6 HB6.out.size)
     have HBl6:=Lib.hid hbl6;have HP6:=Lib.hid hp6;have hE:(bb.err=0∧bb.pl=0):=⟨he0,he1⟩
     have HE:=Lib.hid hE;clear hdn hbl6 hp6 he0 he1 hE hbs;go_wp2_with fail;refine HDn.out.mono ?_;rintro e w6 ⟨rfl,rfl⟩
     go_wp2_with fail;refine HSt.out.mono ?_;rintro e w6 ⟨rfl,hb6,hot6⟩
     have hr6:=oth_res hot6 HBl6.out HR6.out;have hbs6:∃b6,BaseAt w6 g b6∧b6.err=0∧b6.pl=0:=by
      rcases HP6.out with hp6|hp6
      ·exact HM.out.base3 w6 (HM.out.o3.use hp6 HBl6.out hot6)
      ·exact HM.out.base2 w6 (HM.out.o2.use hp6.1 HBl6.out hot6)
     obtain ⟨b6,hb6s,q1,q2⟩:=hbs6;have hfl:=fail_calls g b6 w6 hb6s;rw [q1,q2] at hfl;have HFl:=Lib.hid hfl;have HR7:=Lib.hid hr6;have HB7:=Lib.hid (HB6.out.trans hb6)
     clear hb6 hot6 hr6 hb6s q1 q2 hfl;go_wp2_with fail;refine HFl.out.mono ?_;rintro e w7 ⟨rfl,rfl⟩
     obtain ⟨w7,hw7⟩:∃w7,w7=w6.alloc (.cells #[.int .i64 0,.int .i64 0] 39):=⟨_,rfl⟩
     have hr7:w7.heap[w.heap.size]? =some (.cells #[.int .i64 0,.int .i64 0] 39 (0,0)):=by rw [hw7,Below.heap_alloc _ _ _ (Array.getElem?_eq_some_iff.1 HR7.out).1];exact HR7.out
     have hb7:Below w.heap.size w w7:=by rw [hw7];exact HB7.out.alloc HB7.out.size _
     rw [←hw7]
     have c0:w7.cell? ⟨w.heap.size,0,none⟩=some (.int .i64 0):=by rw [cell_of hr7];rfl
     have c1:w7.cell? ⟨w.heap.size,1,none⟩=some (.int .i64 0):=by rw [cell_of hr7];rfl
     have f0:=frozen_of hr7 0;have f1:=frozen_of hr7 1;have HB8:=Lib.hid hb7;clear hw7 hr7 hb7;go_wp2_with fail;have e0:((w7.setCell ⟨w.heap.size,0,none⟩ (.int .i64 0)).setCell ⟨w.heap.size,1,none⟩ (.int .i64 0)).cell? ⟨w.heap.size,0,none⟩=some (.int .i64 0):=by
      rw [World.cell?_setCell_other _ _ _ _ (by simp),World.cell?_setCell_same _ _ _ c0]
     have e1:((w7.setCell ⟨w.heap.size,0,none⟩ (.int .i64 0)).setCell ⟨w.heap.size,1,none⟩ (.int .i64 0)).cell? ⟨w.heap.size,1,none⟩=some (.int .i64 0):=by
      rw [World.cell?_setCell_same (u:=.int .i64 0) _ _ _ (by rw [World.cell?_setCell_other _ _ _ _ (by simp)];exact c1)]
     refine bodyPost_ret (v:=.tuple #[.string (strOfNums (S1++S2)),.agg #[.int .i64 0,.int .i64 0]]) (by simp [results,Tryz.results17,go_sem,e0,e1]) rfl ⟨rfl,(HB8.out.setCell (p:=⟨w.heap.size,0,none⟩) (Nat.le_refl _) _).setCell (p:=⟨w.heap.size,1,none⟩) (Nat.le_refl _) _⟩
end Out
namespace Enc
open Go.RowKit Win Stp Go.Proofs.YtooiooledeblmaaGreat.Lst
def text1 (pl:Bool) (l:List Int):List Int:=(pushes (e0 pl) l).2
def text2 (pl:Bool) (l:List Int):List Int:=(flushC (pushes (e0 pl) l).1).2
def textC (pl:Bool) (l:List Int):List Int:=text1 pl l++text2 pl l
theorem oth_keep {T:TypeId} {b i:Nat} {cs cs2:Array Value} {w w':World} (h:Out.Oth b w w') (hi:w.heap[i]? =some (.cells cs T (0,0))) (hb:w.heap[b]? =some (.cells cs2 70 (0,0))) (hT:T≠5) (hT2:T≠70):w'.heap[i]? =w.heap[i]? :=by
 rw [hi]
 refine h i _ hi ?_ (by intro c fz h;injection h with h1 h2;exact hT h2)
 intro hh;injection hh with hh
 subst hh;rw [hi] at hb;injection hb with hb
 injection hb with h1 h2
 exact hT2 h2
theorem enc_oth {w w':World} {g gw b:Nat} {b4:B4} {l:List Int} {m:E} {cs:Array Value} (h:EncAt w g gw b4 l m) (hb:w.heap[b]? =some (.cells cs 70 (0,0))) (ho:Out.Oth b w w'):EncAt w' g gw b4 l m:=
 h.keep (oth_keep ho h.blk hb (by decide) (by decide)) (oth_keep ho h.win.blk hb (by decide) (by decide))
theorem enc_kin {w:World} {g gw:Nat} {b4:B4} {l:List Int} {m:E} (h:EncAt w g gw b4 l m) {i:Nat} {cs:Array Value} {T:TypeId} {fz:Nat×Nat} (hi:w.heap[i]? =some (.cells cs T fz)) (hT:T=5∨T=70∨T=39):¬EFS g gw i:=by
 rintro (rfl|rfl)
 ·have:=hi.symm.trans h.blk
  injection this with this
  injection this with h1 h2 h3
  rcases hT with rfl|rfl|rfl <;>cases h2
 ·have:=hi.symm.trans h.win.blk
  injection this with this
  injection this with h1 h2 h3
  rcases hT with rfl|rfl|rfl <;>cases h2
theorem simple_pos {m:E} {c:Int} {e:List Int} (h:simpleC m c=some e):1≤e.length:=by
 unfold simpleC at h
 split at h
 ·injection h with h;rw [←h];simp
 ·split at h
  ·injection h with h;rw [←h];simp
  ·split at h
   ·injection h with h;rw [←h];simp
   ·cases h
theorem units_pos (c:Int):1≤(unitsC c).length:=by
 unfold unitsC
 split
 ·simp
 ·split <;>simp
theorem lay_pos (m:E) (c ix pr:Int):1≤(layE m c ix pr).length:=by
 unfold layE
 split <;>simp
theorem single_pos (m:E) (c d:Int):1≤(singleC m c d).2.length:=by
 unfold singleC
 cases hs:simpleC m c with
 |some e=>have:=simple_pos hs;simp only;omega
 |none=>
  simp only
  split
  ·split <;>simp
  ·split
   ·simp
   ·split
    ·have:=lay_pos m c 24 11;simp only;omega
    ·split
     ·simp
     ·simp only [List.length_cons];omega
theorem work_pos (m:E) (c d:Int):1≤(workC m c d).2.length:=by
 unfold workC
 split
 ·simp
 ·split
  ·split
   ·have:=units_pos c;simp only;omega
   ·split
    ·rename_i e hs;have:=simple_pos hs;simp only;omega
    ·simp only [List.length_cons];omega
  ·split
   ·have:=single_pos {m with beh:=true} c d;omega
   ·split
    ·simp only [List.length_cons];omega
    ·split
     ·have:=lay_pos {m with beh:=true} c 232 241;simp only;omega
     ·have:=units_pos c;simp only;omega
theorem pushes_wt:∀(l:List Int) (m:E),1≤l.length→(∀x∈l,0≤x∧isB x=true)→(pushes m l).1.wt≠2147483648
 |[],_,h,_=>by simp at h
 |[x],m,_,hs=>by
  simp only [pushes]
  rw [wt_push]
  have:=isB_rng (hs x List.mem_cons_self).2;omega
 |x::y::l,m,_,hs=>by
  have:=pushes_wt (y::l) (pushC m x).1 (by simp) (fun z hz=>hs z (List.mem_cons_of_mem _ hz))
  exact this
theorem text_pos (pl:Bool) {l:List Int} (h:1≤l.length) (hs:∀x∈l,0≤x∧isB x=true):1≤(textC pl l).length:=by
 unfold textC text2 flushC;rw [if_neg (pushes_wt l (e0 pl) h hs),List.length_append]
 have:=work_pos (pushes (e0 pl) l).1 (pushes (e0 pl) l).1.wt 2147483648;simp only;omega
theorem wt_flush {m:E} (h:Wt m):Wt (flushC m).1:=by
 unfold flushC
 split
 ·exact h
 ·exact .inl rfl
def b1 (n:Nat):B4:={b40 with at_:=b40.at_+n}
def b2 (n:Nat):B4:={b1 n with fin:=true}
theorem mac_enc (pl:Bool) (g gw:Nat) {l:List Int} (hl:l.length≤400) (hs:∀x∈l,0≤x∧isB x=true):
  Out.Mac g (EFS g gw) 198 197 l (text1 pl l) (text2 pl l) (fun w=>EncAt w g gw b40 [] (e0 pl)) (fun w=>EncAt w g gw (b1 l.length) [] (pushes (e0 pl) l).1∧EG (pushes (e0 pl) l).1∧Wt (pushes (e0 pl) l).1)
   (fun w=>EncAt w g gw (b2 l.length) (text2 pl l) (flushC (pushes (e0 pl) l).1).1∧EG (flushC (pushes (e0 pl) l).1).1∧Wt (flushC (pushes (e0 pl) l).1).1) (fun w=>EncAt w g gw (b2 l.length) [] (flushC (pushes (e0 pl) l).1).1):=by
 have hr:∀x∈l,0≤x∧x≤4294967295:=fun x hx=>⟨(hs x hx).1,by have:=isB_rng (hs x hx).2;omega⟩
 have hp:=pushes_len l (e0 pl)
 have hf:=flush_len (pushes (e0 pl) l).1;refine ⟨fun w w' h hb=>h.below hb,fun w w' h hb=>h.below hb,fun b w w' cs h hb ho=>⟨enc_oth h.1 hb ho,h.2⟩,fun b w w' cs h hb ho=>⟨enc_oth h.1 hb ho,h.2⟩,fun b w w' cs h hb ho=>enc_oth h hb ho,fun w i cs T fz h hi hT=>enc_kin h hi hT,fun w i cs T fz h hi hT=>enc_kin h.1 hi hT,fun w i cs T fz h hi hT=>enc_kin h.1 hi hT,?_,?_,?_,?_,?_,?_,?_⟩
 ·intro w A cap h hA
  refine (feed_calls (cap:=cap) 4096 h (eg0 pl) (.inl rfl) (by simp) (by omega) hA hr (by decide) (by decide) (by decide) (by decide)).mono ?_;rintro e w' ⟨n,S,p',b',m',rfl,he,hG,hw,hc,hfe⟩
  have hn:=hfe.le;rcases hfe.way with ⟨_,h2,h3,_⟩|⟨h1,h2,h3,h4⟩
  ·have:=(hs (l.getD n 0) (by rw [List.getD_eq_getElem?_getD,List.getElem?_eq_getElem h2];exact List.getElem_mem _)).2
   rw [h3] at this
   cases this
  ·have hlen:=congrArg List.length h2
   rw [List.length_append,List.nil_append] at hlen;have htk:=pushes_len (l.take n) (e0 pl)
   rw [List.length_take] at htk;have hp':p'=[]:=by
    rcases hfe.full with h5|h5
    ·exact h5
    ·omega
   subst hp';have hnl:n=l.length:=by
    rcases h4 with h4|h4|h4
    ·exact h4
    ·exact absurd rfl h4
    ·cases h4
   subst hnl;rw [List.take_length] at h1 h2;rw [List.append_nil,List.nil_append] at h2;subst h1 h2 h3;exact ⟨rfl,⟨he,hG,hw⟩,hc⟩
 ·rintro w ⟨h,hG,hw⟩
  refine (end_calls h hG hw (by decide)).mono ?_;rintro e w' ⟨rfl,he,hc⟩
  exact ⟨rfl,⟨he,hG.flush hw,wt_flush hw⟩,hc⟩
 ·rintro w ⟨h,hG,hw⟩
  refine (done_calls h (by have:(text2 pl l).length≤10:=hf;omega)).mono ?_;rintro e w' ⟨rfl,rfl⟩
  refine ⟨?_,rfl⟩
  have:(!(b2 l.length).going&&decide (text2 pl l=[]))=(text2 pl l).isEmpty:=by
   cases text2 pl l <;>rfl
  rw [this]
 ·rintro w ⟨h,hG,hw⟩ hne
  have hf':(text2 pl l).length≤10:=hf;refine (feed_calls (A:=none) (cap:=0) (l:=[]) 4096 h hG hw (by omega) (by decide) (fun wr _=>Lst.nil _ _ _) (fun x hx=>by cases hx) (by decide) (by decide) (by show (0:Int)≤0+l.length;omega) (by show (0:Int)+l.length≤1000000;omega)).mono ?_;rintro e w' ⟨n,S,p',b',m',rfl,he,hG',hw',hc,hfe⟩
  have hn:n=0:=by have:=hfe.le;simpa using this
  subst hn;rcases hfe.way with ⟨h1,_⟩|⟨h1,h2,h3,h4⟩
  ·cases h1
  ·simp only [List.take_nil,pushes,List.append_nil] at h1 h2
   have hlen:=congrArg List.length h2;rw [List.length_append] at hlen;have hp':p'=[]:=by
    rcases hfe.full with h5|h5
    ·exact h5
    ·omega
   subst hp';rw [List.append_nil] at h2;subst h1 h2 h3;refine ⟨rfl,?_,hc⟩
   have:({b2 l.length with at_:=(b2 l.length).at_+((0:Nat):Int)}:B4)=b2 l.length:=by simp [b2]
   rw [this] at he;exact he
 ·intro w h
  refine (done_calls h (by decide)).mono ?_;rintro e w' ⟨rfl,rfl⟩
  exact ⟨rfl,rfl⟩
 ·rintro w ⟨h,_⟩
  exact ⟨_,h.base,rfl,rfl⟩
 ·intro w h
  exact ⟨_,h.base,rfl,rfl⟩
end Enc
namespace Enc
open Go.RowKit Win Stp Go.Proofs.YtooiooledeblmaaGreat.Lst
theorem mk_c (v:Value) (w:World):(Instr.makeInterface 123 v).run Tryz.prog w= .ok (.iface 123 v) w:=run_makeInterface w 123 v (by kernel_rfl)
section
attribute [local go_sem] mk_c
theorem new2_9 {l:List Int} (hl:l.length≤400) (hs:∀x∈l,0≤x∧isB x=true) (w:World):Calls Tryz.prog 34 #[.int .i64 9] w (Out.NewPost2 123 198 197 l (text1 false l) (text2 false l) w):=by
 go_enter Tryz.func34,Tryz.ntmps34;go_wp2_with fail;refine (newEncoder_calls false _).mono ?_;rintro e w1 ⟨rfl,h1,h2,h3⟩
 go_wp2_with fail;go_ret2;refine ⟨_,_,_,_,_,_,mac_enc false _ _ hl hs,rfl,h2,h1,?_⟩
 rintro i (rfl|rfl) <;>omega
theorem new2_10 {l:List Int} (hl:l.length≤400) (hs:∀x∈l,0≤x∧isB x=true) (w:World):Calls Tryz.prog 34 #[.int .i64 10] w (Out.NewPost2 123 198 197 l (text1 true l) (text2 true l) w):=by
 go_enter Tryz.func34,Tryz.ntmps34;go_wp2_with fail;refine (newEncoder_calls true _).mono ?_;rintro e w1 ⟨rfl,h1,h2,h3⟩
 go_wp2_with fail;go_ret2;refine ⟨_,_,_,_,_,_,mac_enc true _ _ hl hs,rfl,h2,h1,?_⟩
 rintro i (rfl|rfl) <;>omega
end
theorem encOK_scsu (pl:Bool):Dcd.EncOK (if pl=true then 10 else 9) (textC pl) 400:=by
 have hl1:∀l,(text1 pl l).length≤10*l.length:=fun l=>pushes_len l (e0 pl)
 have hl2:∀l,(text2 pl l).length≤10:=fun l=>flush_len _
 refine ⟨by decide,by cases pl <;>decide,by cases pl <;>decide,fun l _ hl=>?_,fun l hs hl h1=>text_pos pl h1 hs,fun {w A cap l} hL hs hl hcap _=>?_⟩
 ·have:=hl1 l
  have:=hl2 l;unfold textC;rw [List.length_append]
  omega
 ·have h1:=hl1 l
  have h2:=hl2 l
  cases pl with
  |false=>exact Out.encode2_compress (new2_9 hl hs) (by omega) (by omega) hL (by omega) hcap
  |true=>exact Out.encode2_compress (new2_10 hl hs) (by omega) (by omega) hL (by omega) hcap
end Enc
namespace Dcd
open Go.RowKit Win Stp Mach Dec Out
theorem u8_keep (r r2:U8) (x:Int) (em:List Int) (hI:u8I r) (h0:0≤x) (h1:x≤255) (hn:u8N r x=some (r2,em)):u8I r2∧em.length≤1:=by
 obtain ⟨i1,i2,i3,i4,i5,i6,i7,i8,i9,i10,i11⟩:=hI;unfold u8N at hn
 split at hn
 ·split at hn
  ·simp only [Option.some.injEq,Prod.mk.injEq] at hn
   obtain ⟨rfl,rfl⟩:=hn;exact ⟨⟨i1,i2,i3,i4,i5,i6,i7,i8,i9,i10,i11⟩,by simp⟩
  ·split at hn
   ·cases hn
   ·simp only [Option.some.injEq,Prod.mk.injEq] at hn
    obtain ⟨rfl,rfl⟩:=hn;refine ⟨?_,by simp⟩
    unfold u8L u8I
    (repeat' split) <;>(simp only;omega)
 ·split at hn
  ·cases hn
  ·split at hn
   ·simp only [Option.some.injEq,Prod.mk.injEq] at hn
    obtain ⟨rfl,rfl⟩:=hn;refine ⟨?_,by simp⟩
    unfold u8I;simp only;omega
   ·simp only [Option.some.injEq,Prod.mk.injEq] at hn
    obtain ⟨rfl,rfl⟩:=hn;refine ⟨?_,by simp⟩
    unfold u8I;simp only;omega
theorem stepsR_one {R:Type} {N:R→Int→Option (R×List Int)} {r r1 r2:R} {x:Int} {xs e e2:List Int} (h1:N r x=some (r1,e)) (h2:stepsR N r1 xs=some (r2,e2)):stepsR N r (x::xs)=some (r2,e++e2):=by
 simp only [stepsR,h1,h2]
theorem u8_lead (r:U8) (x:Int) (hp:r.need=0) (h0:194≤x) (h1:x≤244):u8N r x=some (u8L x,[]):=by
 unfold u8N;rw [if_pos hp,if_neg (by omega),if_neg (by omega)]
theorem u8_last (lo hi d x:Int) (h0:lo≤x) (h1:x≤hi):u8N ⟨1,lo,hi,d⟩ x=some (⟨0,128,191,d*64+x%64⟩,[d*64+x%64]):=by
 simp only [u8N]
 rw [if_neg (by decide),if_neg (by omega),if_pos trivial]
theorem u8_more (n lo hi d x:Int) (h0:lo≤x) (h1:x≤hi) (hn:1<n):u8N ⟨n,lo,hi,d⟩ x=some (⟨n-1,128,191,d*64+x%64⟩,[]):=by
 simp only [u8N]
 rw [if_neg (by omega),if_neg (by omega),if_neg (by omega)]
theorem u8_one (q:Unit) (r:U8) (c:Int) (hp:r.need=0) (h0:0≤c) (hb:isB c=true):∃r',stepsR u8N r (u8B q c)=some (r',[c])∧r'.need=0:=by
 obtain ⟨b1,b2⟩:=isB_iff.1 hb
 show ∃r',stepsR u8N r (uni8B c)=some (r',[c])∧r'.need=0
 unfold uni8B
 split
 ·refine ⟨r,stepsR_one (e:=[c]) (e2:=[]) ?_ rfl,hp⟩
  unfold u8N;rw [if_pos hp,if_pos (by assumption)]
 ·have fin:∀d:Int,d=c→∃r':U8,(some ((⟨0,128,191,d⟩:U8),([d]:List Int))=some (r',[c]))∧r'.need=0:=by
   rintro d rfl;exact ⟨_,rfl,rfl⟩
  split
  ·obtain ⟨r',hr,hn⟩:=fin ((192+c/64)%32*64+(128+c%64)%64) (by omega)
   refine ⟨r',?_,hn⟩
   rw [←hr]
   refine stepsR_one (e:=[]) (u8_lead r _ hp (by omega) (by omega)) ?_;rw [show u8L (192+c/64)=⟨1,128,191,(192+c/64)%32⟩ by unfold u8L;rw [if_pos (by omega)]]
   exact stepsR_one (e2:=[]) (u8_last _ _ _ _ (by omega) (by omega)) rfl
  ·split
   ·obtain ⟨r',hr,hn⟩:=fin (((224+c/4096)%16*64+(128+c/64%64)%64)*64+(128+c%64)%64) (by omega)
    refine ⟨r',?_,hn⟩
    rw [←hr]
    refine stepsR_one (e:=[]) (u8_lead r _ hp (by omega) (by omega)) ?_;rw [show u8L (224+c/4096)=⟨2,if 224+c/4096=224 then 160 else 128,if 224+c/4096=237 then 159 else 191,(224+c/4096)%16⟩ by unfold u8L;rw [if_neg (by omega),if_pos (by omega)]]
    refine stepsR_one (e:=[]) (u8_more _ _ _ _ _ (by split <;>omega) (by split <;>omega) (by decide)) ?_;exact stepsR_one (e2:=[]) (u8_last _ _ _ _ (by omega) (by omega)) rfl
   ·obtain ⟨r',hr,hn⟩:=fin ((((240+c/262144)%8*64+(128+c/4096%64)%64)*64+(128+c/64%64)%64)*64+(128+c%64)%64) (by omega)
    refine ⟨r',?_,hn⟩
    rw [←hr]
    refine stepsR_one (e:=[]) (u8_lead r _ hp (by omega) (by omega)) ?_;rw [show u8L (240+c/262144)=⟨3,if 240+c/262144=240 then 144 else 128,if 240+c/262144=244 then 143 else 191,(240+c/262144)%8⟩ by unfold u8L;rw [if_neg (by omega),if_neg (by omega)]]
    refine stepsR_one (e:=[]) (u8_more _ _ _ _ _ (by split <;>omega) (by split <;>omega) (by decide)) ?_;refine stepsR_one (e:=[]) (u8_more _ _ _ _ _ (by omega) (by omega) (by decide)) ?_;exact stepsR_one (e2:=[]) (u8_last _ _ _ _ (by omega) (by omega)) rfl
theorem u8_rng (q:Unit) (c:Int) (_:True) (h0:0≤c) (hb:isB c=true):(∀x∈u8B q c,0≤x∧x≤255)∧True:=by
 obtain ⟨b1,b2⟩:=isB_iff.1 hb;refine ⟨?_,trivial⟩
 show ∀x∈uni8B c,0≤x∧x≤255
 unfold uni8B;intro x hx
 (repeat' split at hx) <;>simp only [List.mem_cons,List.not_mem_nil,or_false] at hx <;>omega
theorem dend8 {w:World} {g:Nat} {b:B4} {r:U8} (hr:r.need=0) (h:InAt 194 w g 0 nilS b [] (u8R r)) (hb:b.going=true):
  Calls Tryz.prog 229 #[.pointer (some ⟨g,0,none⟩)] w fun e w'=>e= .returned (.tuple #[])∧InAt 194 w' g 0 nilS {b with fin:=true} [] (u8R r)∧Chg (IS g nilS) w w':=by
 have h5:w.cell? ⟨g,5,none⟩=some (.int .i64 r.need):=h.cell 0;rw [hr] at h5;have HE:=Lib.hid (bend_in h hb)
 clear h hb hr;go_enter Tryz.func229,Tryz.ntmps229;go_wp2_with fail;refine HE.out.mono ?_;rintro e w1 ⟨rfl,hd,hc⟩
 have HD:=Lib.hid hd;have HC:=Lib.hid hc;clear hd hc;go_wp2_with fail;go_end0;exact ⟨rfl,HD.out,HC.out⟩
theorem mkd8 (v:Value) (w:World):(Instr.makeInterface 126 v).run Tryz.prog w= .ok (.iface 126 v) w:=run_makeInterface w 126 v (by kernel_rfl)
theorem dnew8 (w:World):Calls Tryz.prog 70 #[] w fun e w'=>e= .returned (.pointer (some ⟨w.heap.size,0,none⟩))∧InAt 194 w' w.heap.size 0 nilS Dec.b40 [] (u8R ⟨0,0,0,0⟩)∧Below w.heap.size w w':=by
 go_enter Tryz.func70,Tryz.ntmps70;go_wp2;go_ret;exact ⟨rfl,⟨heap_alloc_new _ _,World.ownsRow_nil _ _ _ _,fun _=>rfl,Nat.zero_le _,by decide⟩,(Below.refl _ _).alloc (Nat.le_refl _) _⟩
theorem disp8:Disp 126 230 229:=
 ⟨fun _ _=>by kernel_rfl,fun _ _=>by kernel_rfl,fun _ _=>by kernel_rfl,fun _ _=>by kernel_rfl,fun _ _ _ _=>by kernel_rfl,fun _ _=>by kernel_rfl⟩
section
attribute [local go_sem] mkd8
theorem newG_8 {s:ByteArray} {out:List Int} {rE:U8} (hs:s.size≤4000) (hst:stepsR u8N ⟨0,0,0,0⟩ (byt s)=some (rE,out)) (hE:rE.need=0) (w:World):
  Calls Tryz.prog 37 #[.int .i64 1] w (NewG 126 230 229 s out [] w):=by
 go_enter Tryz.func37,Tryz.ntmps37;go_wp2_with fail;refine (dnew8 _).mono ?_;rintro e w1 ⟨rfl,hd,hb⟩
 go_wp2_with fail;go_ret2;exact ⟨w.heap.size,IS w.heap.size nilS,fun i hi=>is_lt (Nat.le_refl _) hd.lt hi,Nat.le_refl _,hd.lt,rfl,hb,
  rdy_in hd (fun wy hy=>dfeed_uni8 s 4096 hy (I:=u8I) (by unfold u8I;simp) (fun r r2 x em w rb v b l hI hh x0 x1 hl hn=>next8_calls x hh hI x0 x1 hl hn) (fun r r2 x em hI x0 x1 hn=>u8_keep r r2 x em hI x0 x1 hn) hst hs rfl) (fun w b hh hb=>dend8 hE hh hb)⟩
end
theorem decode_8 {l:List Int} (hl:l.length≤400) (hs:∀x∈l,0≤x∧isB x=true) (w:World):Calls Tryz.prog 18 #[.int .i64 1,.string (strOfNums (encS 1 l))] w (DecG w l):=by
 have hrn:=told_rng (I:=fun _:Unit=>True) (M:=unN) u8_rng l () trivial hs;have hlen:=told_len unN (fun _ c=>uni8B_len c) l ()
 obtain ⟨rE,h1,h2⟩:=stepsR_told (M:=unN) (P:=fun _ (r:U8)=>r.need=0) u8_one l () ⟨0,0,0,0⟩ rfl hs;have he:encS 1 l=told u8B unN () l:=rfl;rw [he]
 have hsz:=str_size (told u8B unN () l)
 have h:=decode_any (w:=w) disp8 (newG_8 (s:=strOfNums (told u8B unN () l)) (out:=l) (by rw [hsz];exact Nat.le_trans hlen (by omega)) (by rw [byt_nums hrn];exact h1) h2) (by omega) (by simp) (by rw [hsz];exact Nat.le_trans hlen (by omega))
 rwa [List.append_nil] at h
end Dcd
namespace Dcd
open Go.RowKit Win Stp Mach Dec Go.Proofs.YtooiooledeblmaaGreatW.PrintMore
set_option maxRecDepth 100000 in
set_option maxHeartbeats 8000000 in
theorem dfeed_uni16 {T:TypeId} {R:Type} {rest:R→List Value} {N:R→Int→Option (R×List Int)} {I:R→Prop} {r0 rE:R} {oE:List Int} {w:World} {g:Nat} (s:ByteArray) (room:Int) (h:InAt T w g 0 nilS b40 [] (rest r0)) (hI:I r0)
  (hnx:∀(r r2:R) (x:Int) (em:List Int) (w:World) (rb:Nat) (v:Value) (b:B4) (l:List Int),I r→InAt T w g rb v b l (rest r)→0≤x→x≤255→l.length≤100000→N r x=some (r2,em)→
   Calls Tryz.prog 238 #[.pointer (some ⟨g,0,none⟩),.int .u8 x] w (NextPost T rest g rb v b l w r2 em))
  (hIN:∀(r r2:R) (x:Int) (em:List Int),I r→0≤x→x≤255→N r x=some (r2,em)→I r2∧em.length≤1)
  (hst:stepsR N r0 (byt s)=some (rE,oE)) (hs:s.size≤4000) (hr:room=4096):
  Calls Tryz.prog 237 #[.pointer (some ⟨g,0,none⟩),.string s,.int .i64 room] w (InFed T rest g s.size rE oE w):=by
 have hrm:4096≤room:=by omega
 clear hr;have H:=Lib.hid h;have HI:=Lib.hid hI;have HNx:=Lib.hid hnx;have HIN:=Lib.hid hIN;have HST:=Lib.hid hst;clear h hI hnx hIN hst;go_enter Tryz.func237,Tryz.ntmps237;go_upto_block 0 with fail;go_cut [8] (fun i wx=>InMid T rest g s.size rE oE w i wx∧oE.length≤4000)
 case first=>
  go_wp2_with fail;go_loopw [8] (fun i wr=>InRel T rest N I g s rE oE w i wr) (fun i _=>s.size-(intOf i).toNat)
  case atStart=>
   exact ⟨0,nilS,r0,[],oE,Nat.zero_le _,rfl,H.out.rebase w.heap.size (Nat.le_refl _),HI.out,Chg.refl _,HST.out,rfl,Nat.zero_le _⟩
  case round=>
   obtain ⟨k,v,r,o,o2,hk,rfl,hd,hi,hc,hst,hoe,hol⟩:=hrel;have HD:=Lib.hid hd;have HI':=Lib.hid hi;have HC:=Lib.hid hc;have HST':=Lib.hid hst;have HOe:=Lib.hid hoe;obtain ⟨A,c0,hv⟩:∃A c,v= .slice A o.length c:=by
    rcases hd.row.2 with ⟨h1,h2⟩|⟨g',cap,cur,h1,_⟩
    ·exact ⟨none,0,by rw [h1,h2]⟩
    ·exact ⟨_,_,h1⟩
   have h4:=hd.c4;rw [hv] at h4;have HV:=Lib.hid hv;have hheld:=held_calls g 4 A o.length c0 wr h4;have HH:=Lib.hid hheld;have hgoing:=going_calls g _ wr hd.base;have hge:({b40 with at_:=(k:Int)}:B4).going=true:=rfl;rw [hge] at hgoing;have HGg:=Lib.hid hgoing;clear hd hi hc hst hoe hv h4 hheld hge hgoing
   by_cases hlt:k<s.size
   ·have hdc:(byt s).drop k=(s[k].toNat:Int)::(byt s).drop (k+1):=by
     rw [List.drop_eq_getElem_cons (by rw [byt_length];exact hlt)]
     have:=byt_at s k hlt;rw [List.getD_eq_getElem?_getD,List.getElem?_eq_getElem (by rw [byt_length];exact hlt)] at this;rw [←this];rfl
    have hst2:=HST'.out;rw [hdc] at hst2;obtain ⟨r2,em,e2,q1,q2,q3⟩:=stepsR_cons hst2;obtain ⟨hi2,hem⟩:=HIN.out r r2 _ em HI'.out (by omega) (by have:=s[k].toNat_lt;omega) q1;have HN:=Lib.hid (HNx.out r r2 (s[k].toNat:Int) em wr w.heap.size v _ o HI'.out HD.out (by omega) (by have:=s[k].toNat_lt;omega) (by omega) q1)
    have HQ:=Lib.hid (And.intro q2 q3)
    have HI2:=Lib.hid hi2;clear hdc hst2 q1 q2 q3 hi2;have hrm2:(o.length:Int)<room:=by omega
    go_wp2_with fail;refine HH.out.mono ?_;rintro e w1 ⟨rfl,rfl⟩
    go_wp2_with fail;refine HGg.out.mono ?_;rintro e w1 ⟨rfl,rfl⟩
    go_wp2_with fail;refine HN.out.mono ?_;rintro e w2 ⟨rfl,v2,hd2,hc2⟩
    have heat:=eat_calls g _ 1 w2 hd2.base rfl (by decide) (by decide) (show (0:Int)≤(k:Int) by omega) (show (k:Int)≤1000000000 by omega)
    have HEt:=Lib.hid heat;have HD2:=Lib.hid hd2;have HC2:=Lib.hid hc2;clear heat hd2 hc2;go_wp2_with fail;refine HEt.out.mono ?_;rintro e w3 ⟨rfl,rfl⟩
    go_wp2_with fail;go_roundw
    case rel=>
     refine ⟨k+1,v2,r2,o++em,e2,by omega,by go_num,?_,HI2.out,?_,HQ.out.1,?_,?_⟩
     ·have:=HD2.out.set 0 (.int .i64 ((k:Int)+1)) (b':={b40 with at_:=((k+1:Nat):Int)}) (rs':=rest r2) (by simp [inCells])
      exact this
     ·exact chg_then HC.out (HC2.out.trans (is_g 0 _)) (fun i hi hh=>is_new HD.out.row hi hh)
     ·rw [HOe.out,HQ.out.2,List.append_assoc]
     ·rw [List.length_append];omega
    case measure=>simp [intOf];omega
   ·obtain rfl:k=s.size:=by omega
    clear hlt;have hdn:(byt s).drop s.size=[]:=by rw [←byt_length,List.drop_length]
    have hst2:=HST'.out;rw [hdn] at hst2;simp only [stepsR,Option.some.injEq,Prod.mk.injEq] at hst2;obtain ⟨rfl,rfl⟩:=hst2;have ho:=HOe.out;rw [List.append_nil] at ho;subst ho;clear hdn;go_wp2_with fail;go_meet;exact ⟨⟨v,rfl,HD.out,HC.out⟩,by omega⟩
 case rest=>
  obtain ⟨⟨v,rfl,hd,hc⟩,hol⟩:=hcut;have HD:=Lib.hid hd;have HC:=Lib.hid hc;have h4:=hd.c4;have f4:=hd.fz 4;have hnil:=hd.nil
  by_cases ho:oE=[]
  ·have hvn:=hnil ho
   rw [hvn] at h4;have ht:=tell_none g 4 room wc h4 f4;have HT:=Lib.hid ht;have HO:=Lib.hid ho;clear hd hc h4 f4 hnil ho hvn ht;go_wp2_with fail;refine HT.out.mono ?_;rintro e w1 ⟨rfl,rfl⟩
   go_wp2_with fail;go_ret2;obtain rfl:=HO.out;exact ⟨none,0,rfl,HD.out.told (Below.refl _ _) nilS,chg_then HC.out ((is_g (v:=nilS) 4 _).trans (is_g 4 _)) (fun i _ hi=>hi),World.ownsRow_nil _ _ _ _⟩
  ·have hpos:0<oE.length:=by
    rcases Nat.eq_zero_or_pos oE.length with h|h
    ·exact absurd (List.eq_nil_of_length_eq_zero h) ho
    ·exact h
   obtain ⟨r,c,hv,_,_⟩:=hd.row.form hpos;have hrow:=hd.row;have hrg:=hd.row_g;rw [hv] at h4 hrow hrg;have hne:r≠g:=fun e=>hrg (by rw [e];rfl)
   have ht:=tell_all g 4 r w.heap.size c oE room wc h4 f4 hrow hne hpos (by omega) (by omega)
   have HT:=Lib.hid ht;clear hd hc h4 f4 hnil ho hv ht hrow hrg hne;go_wp2_with fail;refine HT.out.mono ?_;rintro e w1 ⟨r1,c1,w2,v1,rfl,rfl,hown,hb⟩
   have HOW:=Lib.hid hown;have HB:=Lib.hid hb;clear hown hb;go_wp2_with fail;go_ret2;have hlt:=HOW.out.lt r1 rfl;have hgl:=HD.out.lt;refine ⟨some ⟨r1,0,none⟩,c1,rfl,HD.out.told HB.out v1,?_,?_⟩
   ·exact chg_then HC.out (((Chg.of_below HB.out).trans (is_g (v:=nilS) 4 _)).trans (is_g 4 _)) (fun i _ hi=>hi)
   ·have h1:=own_weaken HOW.out HC.out.size
    refine h1.kept (w':=_) (row:=some g) ⟨rfl,rfl,rfl,by simp [World.setCell],fun q hq hn=>?_⟩ (.inr (by simp [Value.ownBlock];omega))
    exact (Below.heap_setCell _ _ _ q (fun e=>hn (by rw [e]))).trans (Below.heap_setCell _ _ _ q (fun e=>hn (by rw [e])))
end Dcd
namespace Dcd
open Go.RowKit Win Stp Mach Dec Go.Proofs.YtooiooledeblmaaGreatW.PrintMore
structure U16 where
 big:Bool
 half:Bool
 first:Int
 upper:Int
def u16R (r:U16):List Value:=[.bool r.big,.bool r.half,.int .u8 r.first,.int .u32 r.upper]
def fit16 (u up:Int):Prop:=(56320≤u∧u<57344∧up≠0)∨(¬(56320≤u∧u<57344)∧up=0)
instance (u up:Int):Decidable (fit16 u up):=by unfold fit16;infer_instance
def u16U (r:U16) (x:Int):Int:=if r.big=true then r.first*256+x else r.first+x*256
def u16N (r:U16) (x:Int):Option (U16×List Int):=
 if r.half=false then (if r.big=true∧¬fit16 (x*256) r.upper then none else some ({r with half:=true,first:=x},[]))
 else if ¬fit16 (u16U r x) r.upper then none
 else if r.upper≠0 then some ({r with half:=false,upper:=0},[65536+(r.upper-55296)*1024+(u16U r x-56320)])
 else if 55296≤u16U r x∧u16U r x<56320 then some ({r with half:=false,upper:=u16U r x},[])
 else some ({r with half:=false},[u16U r x])
def u16I (r:U16):Prop:=0≤r.first∧r.first≤255∧(r.upper=0∨(55296≤r.upper∧r.upper<56320))
theorem fits16_calls {w:World} {g:Nat} {up:Int} (u:Int) (h:w.cell? ⟨g,8,none⟩=some (.int .u32 up)) (hf:fit16 u up):
  Calls Tryz.prog 239 #[.pointer (some ⟨g,0,none⟩),.int .u32 u] w fun e w'=>e= .returned (.bool true)∧w=w':=by
 rcases hf with ⟨h1,h2,h3⟩|⟨h1,h2⟩
 ·go_enter Tryz.func239,Tryz.ntmps239
  go_wp2_with fail;go_ret;exact ⟨by simp [h3],rfl⟩
 ·subst h2
  by_cases h3:56320≤u
  ·have h4:¬u<57344:=fun h=>h1 ⟨h3,h⟩
   clear h1;go_enter Tryz.func239,Tryz.ntmps239;go_wp2_with fail;go_ret;exact ⟨by simp,rfl⟩
  ·clear h1
   go_enter Tryz.func239,Tryz.ntmps239;go_wp2_with fail;go_ret;exact ⟨by simp,rfl⟩
set_option maxHeartbeats 8000000 in
theorem next16_calls {w:World} {g rb:Nat} {v:Value} {b:B4} {l:List Int} {r r2:U16} {em:List Int} (x:Int) (h:InAt 196 w g rb v b l (u16R r)) (hI:u16I r) (h0:0≤x) (h1:x≤255) (hl:l.length≤100000) (hn:u16N r x=some (r2,em)):
  Calls Tryz.prog 238 #[.pointer (some ⟨g,0,none⟩),.int .u8 x] w (NextPost 196 u16R g rb v b l w r2 em):=by
 obtain ⟨big,half,first,upper⟩:=r;have h5:w.cell? ⟨g,5,none⟩=some (.bool big):=h.cell 0;have h6:w.cell? ⟨g,6,none⟩=some (.bool half):=h.cell 1;have h7:w.cell? ⟨g,7,none⟩=some (.int .u8 first):=h.cell 2;have h8:w.cell? ⟨g,8,none⟩=some (.int .u32 upper):=h.cell 3;have f6:=h.fz 6;have f7:=h.fz 7;have f8:=h.fz 8;obtain ⟨i1,i2,i3⟩:=hI
 dsimp only at i1 i2 i3
 unfold u16N at hn
 dsimp only at hn
 cases half with
 |false=>
  rw [if_pos rfl] at hn
  split at hn
  ·cases hn
  rename_i hq;simp only [Option.some.injEq,Prod.mk.injEq] at hn;obtain ⟨rfl,rfl⟩:=hn;have HD:=Lib.hid ((h.setR 2 (.int .u8 x)).setR 1 (.bool true))
  have HC:=Lib.hid ((is_g (g:=g) (v:=v) (w:=w) 7 (.int .u8 x)).trans (is_g 6 (.bool true)))
  have w1:IntKind.u32.wrap (x*256)=x*256:=by rw [IntKind.wrap_u32];omega
  cases big with
  |false=>
   clear h hq i3;go_enter Tryz.func238,Tryz.ntmps238;go_wp2_with fail;go_ret;exact ⟨rfl,v,by rw [List.append_nil];exact HD.out,HC.out⟩
  |true=>
   have hf:fit16 (x*256) upper:=Classical.not_not.1 (fun hh=>hq ⟨rfl,hh⟩)
   have HF:=Lib.hid (fun (wy:World) (k:wy.cell? ⟨g,8,none⟩=some (.int .u32 upper))=>fits16_calls (x*256) k hf)
   clear h hq hf i3;go_enter Tryz.func238,Tryz.ntmps238;go_wp2_with fail;refine (HF.out _ (by go_simp)).mono ?_;rintro e w2 ⟨rfl,rfl⟩
   go_wp2_with fail;go_ret;exact ⟨rfl,v,by rw [List.append_nil];exact HD.out,HC.out⟩
 |true=>
  rw [if_neg (by decide)] at hn;have w1:IntKind.u32.wrap (x*256)=x*256:=by rw [IntKind.wrap_u32];omega
  have w2:IntKind.u32.wrap (first*256)=first*256:=by rw [IntKind.wrap_u32];omega
  obtain ⟨U,hU⟩:∃U,U=u16U ⟨big,true,first,upper⟩ x:=⟨_,rfl⟩
  rw [←hU] at hn;unfold u16U at hU
  dsimp only at hU
  have o1:bits .or .u32 (first*256) x=first*256+x:=bits_join .u32 32 (by decide) wraps_u32 8 _ _ (by omega) (by omega) (by omega) (by omega) (by omega) (by omega)
  have o2:bits .or .u32 first (x*256)=first+x*256:=bits_join_low .u32 32 (by decide) wraps_u32 8 _ _ (by omega) (by omega) (by omega) (by omega) (by omega) (by omega)
  have hU01:0≤U∧U≤65535:=by rw [hU];split <;>omega
  obtain ⟨hU0,hU1⟩:=hU01
  split at hn
  ·cases hn
  rename_i hq;have hf:fit16 U upper:=Classical.not_not.1 hq;have HF:=Lib.hid (fun (wy:World) (k:wy.cell? ⟨g,8,none⟩=some (.int .u32 upper))=>fits16_calls U k hf)
  have hd1:=h.setR 1 (.bool false)
  have HD1:=Lib.hid hd1;have HC1:=Lib.hid (is_g (g:=g) (v:=v) (w:=w) 6 (.bool false))
  clear hq h hd1;have HU:=Lib.hid hU;have hor:(big=true∧bits .or .u32 (first*256) x=U)∨(big=false∧bits .or .u32 first (x*256)=U):=by
   cases big with
   |true=>exact .inl ⟨rfl,by rw [o1,hU];rfl⟩
   |false=>exact .inr ⟨rfl,by rw [o2,hU];rfl⟩
  clear o1 o2 hU HU
  by_cases hup:upper=0
  ·subst hup
   rw [if_neg (by simp)] at hn
   by_cases hs:55296≤U∧U<56320
   ·rw [if_pos hs] at hn
    simp only [Option.some.injEq,Prod.mk.injEq] at hn;obtain ⟨rfl,rfl⟩:=hn;obtain ⟨hs1,hs2⟩:=hs;have HD:=Lib.hid (HD1.out.setR 3 (.int .u32 U))
    have HC:=Lib.hid (HC1.out.trans (is_g 8 (.int .u32 U)))
    clear hf i3;rcases hor with ⟨rfl,o1⟩|⟨rfl,o1⟩
    all_goals
     go_enter Tryz.func238,Tryz.ntmps238;go_wp2_with fail;refine (HF.out _ (by go_simp)).mono ?_;rintro e w2 ⟨rfl,rfl⟩
     go_wp2_with fail;go_ret;exact ⟨rfl,v,by rw [List.append_nil];exact HD.out,HC.out⟩
   ·rw [if_neg hs] at hn
    simp only [Option.some.injEq,Prod.mk.injEq] at hn;obtain ⟨rfl,rfl⟩:=hn;have hsb:(decide (55296≤U)&&decide (U<56320))=false:=by rw [←Bool.not_eq_true,Bool.and_eq_true,decide_eq_true_eq,decide_eq_true_eq];exact hs
    obtain ⟨w3,hw3⟩:∃w3,w3=w.setCell ⟨g,6,none⟩ (.bool false):=⟨_,rfl⟩
    rw [←hw3] at HD1 HC1;have ha:=HD1.out.alloc (.cells #[.int .u32 U] 31)
    have hh:=hold_calls g 4 rb v l U w3.heap.size (w3.alloc (.cells #[.int .u32 U] 31)) ha.c4 (ha.fz 4) ha.row ha.rbl ha.row_g (by rw [cell_of (heap_alloc_new _ _)];rfl) (by omega)
    have HA:=Lib.hid ha;have HH:=Lib.hid hh;have HW3:=Lib.hid hw3;clear ha hh hf i3 hw3;have hs3:U<55296∨¬U<56320:=by omega
    clear hs hsb;rcases hor with ⟨rfl,o1⟩|⟨rfl,o1⟩
    all_goals
     rcases hs3 with hs4|hs4
     all_goals
      go_enter Tryz.func238,Tryz.ntmps238;go_wp2_with fail;refine (HF.out _ (by go_simp)).mono ?_;rintro e w2 ⟨rfl,rfl⟩
      go_upto_region 13 with fail;rw [←HW3.out]
      go_wp2_with fail;refine HH.out.mono ?_;rintro e w' ⟨rfl,r',c,w4,rfl,hown,hg,hat,hr⟩
      obtain ⟨hd,hc⟩:=HA.out.hold U hown hg hr;have HD:=Lib.hid hd;have HC:=Lib.hid hc;clear hd hc hown hg hat hr;go_wp2_with fail;go_ret;exact ⟨rfl,_,HD.out,(HC1.out.trans (Chg.alloc _ _)).trans HC.out⟩
  ·rw [if_pos hup] at hn
   simp only [Option.some.injEq,Prod.mk.injEq] at hn;obtain ⟨rfl,rfl⟩:=hn;have hu1:55296≤upper∧upper<56320:=by omega
   obtain ⟨hu2,hu3⟩:=hu1;have hu4:56320≤U∧U<57344:=by
    rcases hf with ⟨a,b,_⟩|⟨_,a⟩
    ·exact ⟨a,b⟩
    ·exact absurd a hup
   obtain ⟨hu5,hu6⟩:=hu4;obtain ⟨V,hV⟩:∃V,V=65536+(upper-55296)*1024+(U-56320):=⟨_,rfl⟩
   have v1:IntKind.u32.wrap (upper-55296)=upper-55296:=by rw [IntKind.wrap_u32];omega
   have v2:IntKind.u32.wrap ((upper-55296)*1024)=(upper-55296)*1024:=by rw [IntKind.wrap_u32];omega
   have v3:IntKind.u32.wrap (65536+(upper-55296)*1024)=65536+(upper-55296)*1024:=by rw [IntKind.wrap_u32];omega
   have v4:IntKind.u32.wrap (U-56320)=U-56320:=by rw [IntKind.wrap_u32];omega
   have v5:IntKind.u32.wrap (65536+(upper-55296)*1024+(U-56320))=V:=by rw [IntKind.wrap_u32];omega
   rw [←hV]
   obtain ⟨w3,hw3⟩:∃w3,w3=w.setCell ⟨g,6,none⟩ (.bool false):=⟨_,rfl⟩
   rw [←hw3] at HD1 HC1;have q8:w3.cell? ⟨g,8,none⟩=some (.int .u32 upper):=HD1.out.cell 3;have qlt:=HD1.out.lt;have ha:=(HD1.out.alloc (.cells #[.int .u32 V] 31)).drewN 1;have hh:=hold_calls g 4 rb v l V w3.heap.size (w3.alloc (.cells #[.int .u32 V] 31)).drew ha.c4 (ha.fz 4) ha.row ha.rbl ha.row_g (by show World.cell? (w3.alloc (.cells #[.int .u32 V] 31)) ⟨w3.heap.size,0,none⟩=_;rw [cell_of (heap_alloc_new _ _)];rfl) (by omega)
   have HA:=Lib.hid ha;have HH:=Lib.hid hh;have HW3:=Lib.hid hw3;clear ha hh hf i3 hw3 hV;rcases hor with ⟨rfl,o1⟩|⟨rfl,o1⟩
   all_goals
    go_enter Tryz.func238,Tryz.ntmps238;go_wp2_with fail;refine (HF.out _ (by go_simp)).mono ?_;rintro e w2 ⟨rfl,rfl⟩
    go_upto_region 15 with fail;rw [←HW3.out]
    go_region_with (go_at_call 234;refine HH.out.mono ?_;rintro e w' ⟨rfl,r',c,w4,rfl,hown,hg,hat,hr⟩;obtain ⟨hd,hc⟩:=HA.out.hold V hown hg hr;have hc8:World.cell? (w4.setCell ⟨g,4,none⟩ (.slice (some ⟨r',0,none⟩) (l.length+1) c)) ⟨g,8,none⟩=some (.int .u32 upper):=hd.cell 3;have hf8:=hd.fz 8;have HD2:=Lib.hid hd;have HC2:=Lib.hid hc;clear hd hc hown hg hat hr)
    all_goals
     go_wp2_with fail;go_ret;exact ⟨rfl,_,HD2.out.setR 3 (.int .u32 0),((HC1.out.trans ((Chg.alloc _ _).trans (Chg.drew _))).trans HC2.out).trans (is_g 8 _)⟩
end Dcd
end Go.Proofs.YtooiooledeblmaaGreat
