/- slices.Sort at uint32: partialInsertionSort. slices.Sort at uint32: where the partitions' results lie (plain). slices.Sort at uint32: pdqsort's rounds, plain. slices.Sort at uint32: pdqsort. slices.Sort and slices.Compact at uint32. -/
import Derived.Test.YtooiooledeblmaaGreatZ6
import Derived.Lib.SlicesCompact
import Derived.Lib.SliceRun
set_option linter.unusedVariables false
set_option linter.unusedSimpArgs false
namespace Go.Proofs.YtooiooledeblmaaGreat
namespace Srt
open Go.RowKit Go.Sort Win Stp Lst
section
variable (a b:Nat) (d:Array Int)
theorem ss_go (i:Nat) (h:i<b) (hl:ltInt d[i]! d[i-1]! =false):scanSorted ltInt d b i=scanSorted ltInt d b (i+1):=by
 rw [scanSorted,if_pos (by rw [hl];simp;exact h)]
theorem ss_stop (i:Nat) (h:¬i<b∨ltInt d[i]! d[i-1]! =true):scanSorted ltInt d b i=i:=by
 rw [scanSorted,if_neg]
 rcases h with h|h
 ·simp;omega
 ·simp [h]
theorem dn_go (j:Nat) (h:1≤j) (hl:ltInt d[j]! d[j-1]! =true):shiftDown ltInt j d=shiftDown ltInt (j-1) (swp d j (j-1)):=by
 obtain ⟨k,rfl⟩:∃k,j=k+1:=⟨j-1,by omega⟩
 rw [Nat.add_sub_cancel] at hl;rw [shiftDown,hl]
 rfl
theorem dn_stop (j:Nat) (h:j=0∨ltInt d[j]! d[j-1]! =false):shiftDown ltInt j d=d:=by
 cases j with
 |zero=>rw [shiftDown]
 |succ k=>
  rcases h with h|h
  ·omega
  ·rw [Nat.add_sub_cancel] at h
   rw [shiftDown,h]
   rfl
theorem up2_go (j:Nat) (h:j<b) (hl:ltInt d[j]! d[j-1]! =true):shiftUp ltInt b j d=shiftUp ltInt b (j+1) (swp d j (j-1)):=by
 rw [shiftUp,if_pos h,hl]
 rfl
theorem up2_stop (j:Nat) (h:¬j<b∨ltInt d[j]! d[j-1]! =false):shiftUp ltInt b j d=d:=by
 rw [shiftUp]
 rcases h with h|h
 ·rw [if_neg h]
 ·by_cases hj:j<b
  ·rw [if_pos hj,h]
   rfl
  ·rw [if_neg hj]
end
theorem shiftDown_size:∀(j:Nat) (d:Array Int),(shiftDown ltInt j d).size=d.size
 |0,d=>by rw [shiftDown]
 |j+1,d=>by
  rw [shiftDown]
  split
  ·rfl
  ·rw [shiftDown_size j,size_swp]
theorem shiftUp_size (b:Nat):∀(n j:Nat) (d:Array Int),b-j≤n→(shiftUp ltInt b j d).size=d.size
 |0,j,d,h=>by rw [up2_stop _ _ _ (Or.inl (by omega))]
 |n+1,j,d,h=>by
  by_cases h1:j<b∧ltInt d[j]! d[j-1]! =true
  ·rw [up2_go b d j h1.1 h1.2,shiftUp_size b n _ _ (by omega),size_swp]
  ·rw [up2_stop b d j (by simp only [not_and,Bool.not_eq_true] at h1;by_cases h2:j<b;exact Or.inr (h1 h2);exact Or.inl h2)]
def pstep (a b i:Nat) (d:Array Int):Array Int:=
 let d:=swp d i (i-1)
 let d:=if i-a≥2 then shiftDown ltInt (i-1) d else d
 if b-i≥2 then shiftUp ltInt b (i+1) d else d
theorem pi_end (a b s i:Nat) (d:Array Int) (h:scanSorted ltInt d b i=b):partialIns ltInt a b (s+1) i d=(d,true):=by
 rw [partialIns]
 simp only [h]
 rfl
theorem pi_short (a b s i:Nat) (d:Array Int) (h:scanSorted ltInt d b i≠b) (h5:b-a<50):partialIns ltInt a b (s+1) i d=(d,false):=by
 rw [partialIns]
 simp only [h,h5,if_true,if_false]
theorem pi_step (a b s i i2:Nat) (d:Array Int) (h:scanSorted ltInt d b i=i2) (h1:i2≠b) (h5:¬b-a<50):partialIns ltInt a b (s+1) i d=partialIns ltInt a b s i2 (pstep a b i2 d):=by
 rw [partialIns]
 simp only [h,h1,h5,if_false]
 rfl
theorem pstep_size (a b i:Nat) (d:Array Int):(pstep a b i d).size=d.size:=by
 unfold pstep
 dsimp only
 split <;>split <;>simp only [shiftUp_size b _ _ _ (Nat.le_refl _),shiftDown_size,size_swp]
theorem partialIns_size (a b:Nat):∀(s i:Nat) (d:Array Int),(partialIns ltInt a b s i d).1.size=d.size
 |0,i,d=>by rw [partialIns]
 |s+1,i,d=>by
  by_cases h:scanSorted ltInt d b i=b
  ·rw [pi_end a b s i d h]
  ·by_cases h5:b-a<50
   ·rw [pi_short a b s i d h h5]
   ·rw [pi_step a b s i _ d rfl h h5,partialIns_size a b s,pstep_size]
def PiRel (w:World) (g q a b N:Nat) (R:Array Int×Bool) (vi vj:Value) (wr:World):Prop:=
 ∃(k i:Nat) (dk:Array Int),vi= .int .i64 i∧vj= .int .i64 (5-(k:Int))∧k≤5∧a<i∧i≤b∧dk.size=N∧On w g q dk wr∧partialIns ltInt a b k i dk=R
def SsRel (w:World) (g q b i:Nat) (d:Array Int) (v:Value) (wr:World):Prop:=
 ∃i1:Nat,v= .int .i64 i1∧i≤i1∧i1≤b∧On w g q d wr∧scanSorted ltInt d b i1=scanSorted ltInt d b i
def DnRel (w:World) (g q N i:Nat) (d2:Array Int) (v:Value) (wr:World):Prop:=
 ∃(j:Nat) (dj:Array Int),v= .int .i64 j∧j≤i∧dj.size=N∧On w g q dj wr∧shiftDown ltInt j dj=d2
def Up2Rel (w:World) (g q N b:Nat) (d2:Array Int) (v:Value) (wr:World):Prop:=
 ∃(j:Nat) (dj:Array Int),v= .int .i64 j∧1≤j∧j≤b∧dj.size=N∧On w g q dj wr∧shiftUp ltInt b j dj=d2
def PiPost (w:World) (g q:Nat) (r:Array Int×Bool) (e:Ending) (w':World):Prop:=e= .returned (.bool r.2)∧On w g q r.1 w'
def leftOf:Value→Nat| .int _ z=>(5-z).toNat|_=>0
set_option maxHeartbeats 8000000 in
set_option maxRecDepth 1000000 in
theorem partial_calls (g q N cap a b:Nat) (d:Array Int) (w:World) (hN:d.size=N) (hH:On w g q d w) (hab:a<b) (hb:b≤N) (hsz:N<1000000):
  Calls Tryz.prog 177 #[.slice (some ⟨g,q,none⟩) N cap,.int .i64 a,.int .i64 b] w (PiPost w g q (partialInsertionSort ltInt d a b)):=by
 obtain ⟨R,hR⟩:∃R,partialInsertionSort ltInt d a b=R:=⟨_,rfl⟩
 rw [hR]
 go_enter Tryz.func177,Tryz.ntmps177;go_wp2_with fail;go_loopw [7,8] (PiRel w g q a b N R) (fun vi vj _=>leftOf vj)
 case atStart=>exact ⟨5,a+1,d,by go_num,rfl,Nat.le_refl _,by omega,by omega,hN,hH,hR⟩
 case round=>
  clear hR hH;obtain ⟨k,i,dk,rfl,rfl,hk5,hai,hib,hsk,hw1,hI⟩:=hrel
  cases k with
  |zero=>
   have HW:=Lib.hid hw1;have hr:R=(dk,false):=by rw [←hI,partialIns]
   have HR:=Lib.hid hr;clear hw1 hI hr;go_wp2_with fail;go_ret;rw [HR.out]
   exact ⟨rfl,HW.out⟩
  |succ k=>
   have HW:=Lib.hid hw1;have HI:=Lib.hid hI;clear hw1 hI;have hkz:(5-((k+1:Nat):Int))<5:=by omega
   obtain ⟨kz,hkk⟩:∃kz:Int,kz=5-((k+1:Nat):Int):=⟨_,rfl⟩
   rw [←hkk] at hkz ⊢;have hkz0:0≤kz:=by omega
   have HK:=Lib.hid hkk;clear hkk;go_wp2_with fail;obtain ⟨G,hG⟩:∃G:Nat→Int,∀t,G t=dk[t]! :=⟨fun t=>dk[t]!,fun _=>rfl⟩
   have HG:=Lib.hid hG;clear hG;go_loopw [7] (SsRel w g q b i dk) (fun v _=>b-natOf v)
   case atStart=>exact ⟨i,rfl,Nat.le_refl _,hib,HW.out,rfl⟩
   case round=>
    clear HW;obtain ⟨i1,rfl,hi1,hi1b,hw2,hS⟩:=hrel;have hcw:∀t,t<N→wr.cell? ⟨g,q+t,none⟩=some (.int .u32 (G t)):=fun t ht=>by rw [HG.out];exact hw2.cell t (by omega)
    have hfw:∀t,t<N→wr.frozen? ⟨g,q+t,none⟩=false:=fun t ht=>hw2.free t (by omega)
    have HW:=Lib.hid hw2;have HS:=Lib.hid hS;clear hw2 hS
    by_cases hib1:i1<b
    ·have hibz:(i1:Int)<(b:Int):=by omega
     go_wp2_with fail;go_quiet ((go_at_call 178;exact Calls.quiet_of_same (less_calls _ _ _)))
     go_wp2_with fail
     ·have hl:ltInt (G i1) (G (i1-1))=false:=not_true (by assumption)
      rw [HG.out,HG.out] at hl;go_roundw
      case rel=>exact ⟨i1+1,by go_num,by omega,by omega,HW.out.drewN _,by rw [←HS.out,ss_go b dk i1 hib1 hl]⟩
      case measure=>simp [natOf];omega
     ·have h5:b-a<50:=by omega
      have hl:ltInt (G i1) (G (i1-1))=true:=not_false (by assumption)
      rw [HG.out,HG.out] at hl;have hT:scanSorted ltInt dk b i≠b:=by rw [←HS.out,ss_stop b dk i1 (Or.inr hl)];omega
      have hr:R=(dk,false):=by rw [←HI.out,pi_short a b k i dk hT h5]
      go_ret;rw [hr]
      exact ⟨rfl,HW.out.drewN _⟩
     ·have h5:¬b-a<50:=by omega
      have hl:ltInt (G i1) (G (i1-1))=true:=not_false (by assumption)
      rw [HG.out,HG.out] at hl;generalize ltInt (G i1) (G (i1-1))=bq;have hT:scanSorted ltInt dk b i=i1:=by rw [←HS.out,ss_stop b dk i1 (Or.inr hl)]
      have hst:=pi_step a b k i i1 dk hT (by omega) h5;rw [HI.out] at hst;have HST:=Lib.hid hst;have HWa:=Lib.hid (HW.out.drewN nq)
      have hcw3:∀t,t<N→(wr.drewN nq).cell? ⟨g,q+t,none⟩=some (.int .u32 (G t)):=hcw;have hfw3:∀t,t<N→(wr.drewN nq).frozen? ⟨g,q+t,none⟩=false:=hfw;clear hcw hfw HW hst hT HI HS
      revert nq
      intro nq1 HWa hcw3 hfw3;generalize wr.drewN nq1=wr3 at hcw3 hfw3 HWa ⊢;have HWb:=Lib.hid (HWa.out.swap i1 (i1-1) (by omega) (by omega)).drew;obtain ⟨d1,hd1⟩:∃d1,d1=swp dk i1 (i1-1):=⟨_,rfl⟩
      have hs1:d1.size=N:=by rw [hd1,size_swp];exact hsk
      obtain ⟨d2,hd2⟩:∃d2,d2=if i1-a≥2 then shiftDown ltInt (i1-1) d1 else d1:=⟨_,rfl⟩
      have hs2:d2.size=N:=by rw [hd2];split;rw [shiftDown_size];exact hs1;exact hs1
      obtain ⟨d3,hd3⟩:∃d3,d3=if b-i1≥2 then shiftUp ltInt b (i1+1) d2 else d2:=⟨_,rfl⟩
      have hs3:d3.size=N:=by rw [hd3];split;rw [shiftUp_size b _ _ _ (Nat.le_refl _)];exact hs2;exact hs2
      have hps:pstep a b i1 dk=d3:=by rw [hd3,hd2,hd1];rfl
      rw [←hd1,←HG.out,←HG.out] at HWb;have HPS:=Lib.hid hps;have HD2:=Lib.hid hd2;have HD3:=Lib.hid hd3;clear hps hd1 hd2 hd3 HWa;go_region;have HWc:=HWb;clear HWb hcw3 hfw3;generalize World.drew _=wr4 at HWc ⊢
      all_goals go_upto_if 61 with fail
      generalize ((i1:Int)==(b:Int))=bq2;generalize decide ((b:Int)-(a:Int)<50)=bq3;go_cut [9] from 61 to 94 (fun v wx=>On w g q d2 wx)
      case first=>
       have HG9:=HG
       by_cases h2:2≤i1-a
       ·have h2z:(2:Int)≤(i1:Int)-(a:Int):=by omega
        have hde:shiftDown ltInt (i1-1) d1=d2:=by rw [HD2.out,if_pos h2]
        have HDE:=Lib.hid hde;have HSZ:=Lib.hid hs1;clear hde;go_wp2_with fail;go_loopw [9] (DnRel w g q N (i1-1) d2) (fun v _=>natOf v)
        case atStart=>exact ⟨i1-1,d1,by congr 1;omega,Nat.le_refl _,by rw [HSZ.out],HWc.out,HDE.out⟩
        case round=>
         clear HWc;obtain ⟨j,dj,rfl,hj1,hsj,hw5,hD⟩:=hrel;clear HG;obtain ⟨G,hG⟩:∃G:Nat→Int,∀t,G t=dj[t]! :=⟨fun t=>dj[t]!,fun _=>rfl⟩
         have HG:=Lib.hid hG;clear hG;have hcw:∀t,t<N→wr.cell? ⟨g,q+t,none⟩=some (.int .u32 (G t)):=fun t ht=>by rw [HG.out];exact hw5.cell t (by omega)
         have hfw:∀t,t<N→wr.frozen? ⟨g,q+t,none⟩=false:=fun t ht=>hw5.free t (by omega)
         have HW5:=Lib.hid hw5;have HD:=Lib.hid hD;clear hw5 hD
         by_cases hjc:1≤j
         ·have hjz:(1:Int)≤(j:Int):=by omega
          go_wp2_with fail;go_quiet ((go_at_call 178;exact Calls.quiet_of_same (less_calls _ _ _)))
          go_wp2_with fail
          ·have hl:ltInt (G j) (G (j-1))=false:=not_true (by assumption)
           rw [HG.out,HG.out] at hl;have hfin:On w g q d2 (wr.drewN nq):=by
            rw [←HD.out,dn_stop dj j (Or.inr hl)]
            exact HW5.out.drewN _
           (try simp only [Exit.inBlock,Exit.then])
           go_meet;exact hfin
          ·have hl:ltInt (G j) (G (j-1))=true:=not_false (by assumption)
           rw [HG.out,HG.out] at hl;have hcw3:∀t,t<N→(wr.drewN nq).cell? ⟨g,q+t,none⟩=some (.int .u32 (G t)):=hcw;have hfw3:∀t,t<N→(wr.drewN nq).frozen? ⟨g,q+t,none⟩=false:=hfw;have HW6:=Lib.hid (HW5.out.drewN nq)
           clear hcw hfw HW5;generalize wr.drewN nq=wr6 at hcw3 hfw3 HW6 ⊢;go_region
           all_goals go_wp2_with fail
           go_roundw
           case rel=>
            refine ⟨j-1,swp dj j (j-1),by first|(congr 1;done)|(congr 1;omega)|go_num,by omega,by rw [size_swp];exact hsj,?_,by rw [←HD.out,dn_go dj j hjc hl]⟩
            rw [HG.out,HG.out]
            exact HW6.out.drew.swap j (j-1) (by omega) (by omega)
           case measure=>simp [natOf];omega
         ·have hjz:¬(1:Int)≤(j:Int):=by omega
          have hfin:On w g q d2 wr:=by
           rw [←HD.out,dn_stop dj j (Or.inl (by omega))]
           exact HW5.out
          go_wp2_with fail
          (try simp only [Exit.inBlock,Exit.then])
          go_meet;exact hfin
       ·have h2z:¬(2:Int)≤(i1:Int)-(a:Int):=by omega
        have hde:d1=d2:=by rw [HD2.out,if_neg h2]
        subst hde;go_wp2_with fail;go_meet;exact HWc.out
      case rest=>
       have HWd:=Lib.hid hcut;clear hcut HWc
       by_cases h2:2≤b-i1
       ·have h2z:(2:Int)≤(b:Int)-(i1:Int):=by omega
        have hde:shiftUp ltInt b (i1+1) d2=d3:=by rw [HD3.out,if_pos h2]
        have HDE:=Lib.hid hde;have HSZ:=Lib.hid hs2;clear hde;go_wp2_with fail;go_loopw [10] (Up2Rel w g q N b d3) (fun v _=>b-natOf v)
        case atStart=>exact ⟨i1+1,d2,by go_num,by omega,by omega,by rw [HSZ.out],HWd.out,HDE.out⟩
        case round=>
         clear HWd;obtain ⟨j,dj,rfl,hj0,hj1,hsj,hw5,hD⟩:=hrel;clear HG;obtain ⟨G,hG⟩:∃G:Nat→Int,∀t,G t=dj[t]! :=⟨fun t=>dj[t]!,fun _=>rfl⟩
         have HG:=Lib.hid hG;clear hG;have hcw:∀t,t<N→wr.cell? ⟨g,q+t,none⟩=some (.int .u32 (G t)):=fun t ht=>by rw [HG.out];exact hw5.cell t (by omega)
         have hfw:∀t,t<N→wr.frozen? ⟨g,q+t,none⟩=false:=fun t ht=>hw5.free t (by omega)
         have HW5:=Lib.hid hw5;have HD:=Lib.hid hD;clear hw5 hD
         by_cases hjc:j<b
         ·have hjz:(j:Int)<(b:Int):=by omega
          go_wp2_with fail;go_quiet ((go_at_call 178;exact Calls.quiet_of_same (less_calls _ _ _)))
          go_wp2_with fail
          ·have hl:ltInt (G j) (G (j-1))=false:=not_true (by assumption)
           rw [HG.out,HG.out] at hl;have hfin:On w g q d3 (wr.drewN nq):=by
            rw [←HD.out,up2_stop b dj j (Or.inr hl)]
            exact HW5.out.drewN _
           have HWe:=Lib.hid hfin;clear hfin;go_wp2_with fail;go_roundw
           case rel=>
            refine ⟨k,i1,d3,rfl,by congr 1;have:=HK.out;omega,by omega,by omega,by omega,hs3,HWe.out,?_⟩
            rw [←HPS.out]
            exact HST.out.symm
           case measure=>have:=HK.out;simp [leftOf];omega
          ·have hl:ltInt (G j) (G (j-1))=true:=not_false (by assumption)
           rw [HG.out,HG.out] at hl;have hcw3:∀t,t<N→(wr.drewN nq).cell? ⟨g,q+t,none⟩=some (.int .u32 (G t)):=hcw;have hfw3:∀t,t<N→(wr.drewN nq).frozen? ⟨g,q+t,none⟩=false:=hfw;have HW6:=Lib.hid (HW5.out.drewN nq)
           clear hcw hfw HW5;generalize wr.drewN nq=wr6 at hcw3 hfw3 HW6 ⊢;go_region
           all_goals go_wp2_with fail
           go_roundw
           case rel=>
            refine ⟨j+1,swp dj j (j-1),by first|(congr 1;done)|(congr 1;omega)|go_num,by omega,by omega,by rw [size_swp];exact hsj,?_,by rw [←HD.out,up2_go b dj j hjc hl]⟩
            rw [HG.out,HG.out]
            exact HW6.out.drew.swap j (j-1) (by omega) (by omega)
           case measure=>simp [natOf];omega
         ·have hjz:¬(j:Int)<(b:Int):=by omega
          have hfin:On w g q d3 wr:=by
           rw [←HD.out,up2_stop b dj j (Or.inl hjc)]
           exact HW5.out
          go_wp2_with fail;have HWe:=Lib.hid hfin;clear hfin;go_wp2_with fail;go_roundw
          case rel=>
           refine ⟨k,i1,d3,rfl,by congr 1;have:=HK.out;omega,by omega,by omega,by omega,hs3,HWe.out,?_⟩
           rw [←HPS.out]
           exact HST.out.symm
          case measure=>have:=HK.out;simp [leftOf];omega
       ·have h2z:¬(2:Int)≤(b:Int)-(i1:Int):=by omega
        have hde:d2=d3:=by rw [HD3.out,if_neg h2]
        have hfin:=HWd.out;rw [hde] at hfin;have HWe:=Lib.hid hfin;clear hfin;go_wp2_with fail;go_roundw
        case rel=>
         refine ⟨k,i1,d3,rfl,by congr 1;have:=HK.out;omega,by omega,by omega,by omega,hs3,HWe.out,?_⟩
         rw [←HPS.out]
         exact HST.out.symm
        case measure=>have:=HK.out;simp [leftOf];omega
    ·have hibz:¬(i1:Int)<(b:Int):=by omega
     have hibb:decide ((i1:Int)<(b:Int))=false:=decide_eq_false hibz;have hT:scanSorted ltInt dk b i=b:=by
      rw [←HS.out,ss_stop b dk i1 (Or.inl hib1)]
      omega
     have hr:R=(dk,true):=by rw [←HI.out,pi_end a b k i dk hT]
     have HR:=Lib.hid hr;clear hT hr;obtain rfl:i1=b:=by omega
     go_wp2_with fail;go_quiet ((go_at_call 178;exact Calls.quiet_of_same (less_calls _ _ _)))
     go_wp2_with fail;go_ret;rw [HR.out]
     exact ⟨rfl,HW.out.drewN _⟩
end Srt
namespace Srt
open Go.RowKit Go.Sort
theorem up_range (p:Int→Bool) (d:Array Int) (j:Nat):∀n i,j+1-i≤n→i≤j+1→i≤scanUp p d j i∧scanUp p d j i≤j+1∧(scanUp p d j i≤j→p d[scanUp p d j i]! =false)
 |0,i,h,hi=>by
  rw [up_stop p d j i (Or.inl (by omega))]
  exact ⟨Nat.le_refl _,hi,fun h1=>by omega⟩
 |n+1,i,h,hi=>by
  by_cases hg:i≤j∧p d[i]! =true
  ·rw [up_go p d j i hg.1 hg.2]
   have ih:=up_range p d j n (i+1) (by omega) (by omega)
   exact ⟨by omega,ih.2.1,ih.2.2⟩
  ·have hs:¬i≤j∨p d[i]! =false:=by
    by_cases h2:i≤j
    ·exact Or.inr (by simpa [h2] using hg)
    ·exact Or.inl h2
   rw [up_stop p d j i hs]
   exact ⟨Nat.le_refl _,hi,fun h1=>hs.resolve_left (fun h3=>h3 h1)⟩
theorem down_range (p:Int→Bool) (d:Array Int) (i:Nat) (hi:0<i):∀j,i≤j+1→scanDown p d i j≤j∧i≤scanDown p d i j+1∧(i≤scanDown p d i j→p d[scanDown p d i j]! =false)
 |0,h=>by
  rw [scanDown]
  exact ⟨Nat.le_refl _,h,fun h1=>by omega⟩
 |j+1,h=>by
  by_cases hg:i≤j+1∧p d[j+1]! =true
  ·rw [down_go p d i (j+1) hg.1 hi hg.2]
   have ih:=down_range p d i hi j (by omega)
   exact ⟨Nat.le_succ_of_le ih.1,ih.2.1,ih.2.2⟩
  ·have hs:¬i≤j+1∨p d[j+1]! =false:=by
    by_cases h2:i≤j+1
    ·exact Or.inr (by simpa [h2] using hg)
    ·exact Or.inl h2
   rw [down_stop p d i (j+1) hs]
   exact ⟨Nat.le_refl _,h,fun h1=>hs.resolve_left (fun h3=>h3 h1)⟩
theorem partEq_range (a b:Nat):∀(n i j:Nat) (d:Array Int),j+1-i≤n→a<i→i≤j+1→j<b→a<(partEqLoop ltInt a i j d).1∧(partEqLoop ltInt a i j d).1≤b
 |n,i,j,d,h,hi,hij,hb=>by
  have hu:=up_range (fun x=> !ltInt d[a]! x) d j _ i (Nat.le_refl _) hij;obtain ⟨i2,e1⟩:∃i2,scanUp (fun x=> !ltInt d[a]! x) d j i=i2:=⟨_,rfl⟩
  rw [e1] at hu;have hd:=down_range (fun x=>ltInt d[a]! x) d i2 (by omega) j hu.2.1;obtain ⟨j2,e2⟩:∃j2,scanDown (fun x=>ltInt d[a]! x) d i2 j=j2:=⟨_,rfl⟩
  rw [e2] at hd;rw [parteq_step a i j i2 j2 d e1 e2 hu.1 hd.1]
  by_cases hc:j2<i2
  ·rw [if_pos hc]
   exact ⟨by show a<i2;omega,by show i2≤b;omega⟩
  ·rw [if_neg hc]
   have hne:i2≠j2:=fun e=>by
    subst e;have h1:=hu.2.2 hd.1;have h2:=hd.2.2 (Nat.le_refl _)
    simp [h2] at h1
   cases n with
   |zero=>omega
   |succ n=>exact partEq_range a b n (i2+1) (j2-1) _ (by omega) (by omega) (by omega) (by omega)
theorem part_range (a b:Nat):∀(n i j:Nat) (d:Array Int),j+1-i≤n→a<i→i≤j+1→j<b→a≤(partLoop ltInt a i j d).1∧(partLoop ltInt a i j d).1<b
 |n,i,j,d,h,hi,hij,hb=>by
  have hu:=up_range (fun x=>ltInt x d[a]!) d j _ i (Nat.le_refl _) hij;obtain ⟨i2,e1⟩:∃i2,scanUp (fun x=>ltInt x d[a]!) d j i=i2:=⟨_,rfl⟩
  rw [e1] at hu;have hd:=down_range (fun x=> !ltInt x d[a]!) d i2 (by omega) j hu.2.1;obtain ⟨j2,e2⟩:∃j2,scanDown (fun x=> !ltInt x d[a]!) d i2 j=j2:=⟨_,rfl⟩
  rw [e2] at hd;rw [part_step a i j i2 j2 d e1 e2 hu.1 hd.1]
  by_cases hc:j2<i2
  ·rw [if_pos hc]
   exact ⟨by show a≤j2;omega,by show j2<b;omega⟩
  ·rw [if_neg hc]
   have hne:i2≠j2:=fun e=>by
    subst e;have h1:=hu.2.2 hd.1;have h2:=hd.2.2 (Nat.le_refl _)
    simp [h1] at h2
   cases n with
   |zero=>omega
   |succ n=>exact part_range a b n (i2+1) (j2-1) _ (by omega) (by omega) (by omega) (by omega)
theorem partitionEqual_range (a b p:Nat) (d:Array Int) (h:a<b):a<(partitionEqual ltInt d a b p).1∧(partitionEqual ltInt d a b p).1≤b:=
 partEq_range a b _ (a+1) (b-1) _ (Nat.le_refl _) (by omega) (by omega) (by omega)
theorem partition_range (a b p:Nat) (d:Array Int) (h:a<b):a≤(Sort.partition ltInt d a b p).1∧(Sort.partition ltInt d a b p).1<b:=by
 obtain ⟨d1,hd1⟩:∃d1,swp d a p=d1:=⟨_,rfl⟩
 have hu:=up_range (fun x=>ltInt x d1[a]!) d1 (b-1) _ (a+1) (Nat.le_refl _) (by omega)
 obtain ⟨i2,e1⟩:∃i2,scanUp (fun x=>ltInt x d1[a]!) d1 (b-1) (a+1)=i2:=⟨_,rfl⟩
 rw [e1] at hu;have hd:=down_range (fun x=> !ltInt x d1[a]!) d1 i2 (by omega) (b-1) hu.2.1;obtain ⟨j2,e2⟩:∃j2,scanDown (fun x=> !ltInt x d1[a]!) d1 i2 (b-1)=j2:=⟨_,rfl⟩
 rw [e2] at hd;rw [partition_first a b i2 j2 p d d1 hd1 e1 e2]
 by_cases hc:j2<i2
 ·rw [if_pos hc]
  exact ⟨by show a≤j2;omega,by show j2<b;omega⟩
 ·rw [if_neg hc]
  have hne:i2≠j2:=fun e=>by
   subst e;have h1:=hu.2.2 hd.1;have h2:=hd.2.2 (Nat.le_refl _)
   simp [h1] at h2
  exact part_range a b _ (i2+1) (j2-1) _ (Nat.le_refl _) (by omega) (by omega) (by omega)
end Srt
namespace Srt
open Go.RowKit Go.Sort
theorem insOuter_size (a b:Nat):∀(n i:Nat) (d:Array Int),b-i≤n→(insOuter ltInt a b i d).size=d.size
 |0,i,d,h=>by rw [out_stop a b i d (by omega)]
 |n+1,i,d,h=>by
  by_cases h1:i<b
  ·rw [out_go a b i d h1,insOuter_size a b n _ _ (by omega),insInner_size]
  ·rw [out_stop a b i d h1]
theorem insertionSort_size (a b:Nat) (d:Array Int):(insertionSort ltInt d a b).size=d.size:=insOuter_size a b _ _ d (Nat.le_refl _)
theorem heapBuild_size (hi F:Nat):∀(k:Nat) (d:Array Int),(heapBuild ltInt hi F k d).size=d.size
 |0,d=>rfl
 |k+1,d=>by
  show (heapBuild ltInt hi F k _).size=_
  rw [heapBuild_size hi F k,sd_size]
theorem heapPop_size (F:Nat):∀(k:Nat) (d:Array Int),(heapPop ltInt F k d).size=d.size
 |0,d=>rfl
 |k+1,d=>by
  show (heapPop ltInt F k _).size=_
  rw [heapPop_size F k,sd_size,size_swp]
theorem heapSort_size (a b:Nat) (d:Array Int):(heapSort ltInt d a b).size=d.size:=by
 unfold heapSort;rw [heapPop_size,heapBuild_size]
theorem breakPatterns_size (a b:Nat) (d:Array Int):(breakPatterns d a b).size=d.size:=by
 by_cases h8:8≤b-a
 ·rw [break_bst a b (b-a) d rfl h8,bst_size]
 ·unfold breakPatterns
  simp only [ge_iff_le,h8,if_false]
theorem reverseRange_size (a b:Nat) (d:Array Int):(reverseRange d a b).size=d.size:=reverseLoop_size _ _ _ _ (Nat.le_refl _)
def pre1 (d:Array Int) (a b:Nat) (wb:Bool):Array Int:=if !wb then breakPatterns d a b else d
def pre2 (d1:Array Int) (a b:Nat):Array Int:=if (choosePivot ltInt d1 a b).2= .decreasing then reverseRange d1 a b else d1
def prePiv (d1:Array Int) (a b:Nat):Nat:=if (choosePivot ltInt d1 a b).2= .decreasing then (b-1)-((choosePivot ltInt d1 a b).1-a) else (choosePivot ltInt d1 a b).1
def preHint (d1:Array Int) (a b:Nat):Hint:=if (choosePivot ltInt d1 a b).2= .decreasing then Hint.increasing else (choosePivot ltInt d1 a b).2
theorem pre1_size (d:Array Int) (a b:Nat) (wb:Bool):(pre1 d a b wb).size=d.size:=by
 unfold pre1
 split
 ·exact breakPatterns_size a b d
 ·rfl
theorem pre2_size (d:Array Int) (a b:Nat):(pre2 d a b).size=d.size:=by
 unfold pre2
 split
 ·exact reverseRange_size a b d
 ·rfl
def post (d3:Array Int) (a b limit pivot:Nat) (wb wp:Bool):Array Int:=
 if a>0&& !ltInt d3[a-1]! d3[pivot]! then pdq ltInt (partitionEqual ltInt d3 a b pivot).2 (partitionEqual ltInt d3 a b pivot).1 b limit wb wp
 else if (Sort.partition ltInt d3 a b pivot).1-a<b-(Sort.partition ltInt d3 a b pivot).1 then
  pdq ltInt (pdq ltInt (Sort.partition ltInt d3 a b pivot).2.2 a (Sort.partition ltInt d3 a b pivot).1 limit true true) ((Sort.partition ltInt d3 a b pivot).1+1) b limit (decide ((Sort.partition ltInt d3 a b pivot).1-a≥(b-a)/8)) (Sort.partition ltInt d3 a b pivot).2.1
 else
  pdq ltInt (pdq ltInt (Sort.partition ltInt d3 a b pivot).2.2 ((Sort.partition ltInt d3 a b pivot).1+1) b limit true true) a (Sort.partition ltInt d3 a b pivot).1 limit (decide (b-(Sort.partition ltInt d3 a b pivot).1≥(b-a)/8)) (Sort.partition ltInt d3 a b pivot).2.1
theorem pdq_round (d:Array Int) (a b limit:Nat) (wb wp:Bool) (hab:a<b) (h12:¬b-a≤12) (hl:limit≠0):
  pdq ltInt d a b limit wb wp=
   (if wb&&wp&&preHint (pre1 d a b wb) a b= .increasing then
    if (partialInsertionSort ltInt (pre2 (pre1 d a b wb) a b) a b).2 then (partialInsertionSort ltInt (pre2 (pre1 d a b wb) a b) a b).1
    else post (partialInsertionSort ltInt (pre2 (pre1 d a b wb) a b) a b).1 a b (if !wb then limit-1 else limit) (prePiv (pre1 d a b wb) a b) wb wp
   else post (pre2 (pre1 d a b wb) a b) a b (if !wb then limit-1 else limit) (prePiv (pre1 d a b wb) a b) wb wp):=by
 have hE:=fun (p:Nat) (d3:Array Int)=>partitionEqual_range a b p d3 hab
 have hP:=fun (p:Nat) (d3:Array Int)=>partition_range a b p d3 hab
 rw [pdq,if_neg h12,if_neg hl]
 simp only [hE,hP,and_self,dite_true]
 by_cases hC:(wb&&wp&&decide (preHint (pre1 d a b wb) a b=Hint.increasing))=true
 ·rw [if_pos hC]
  unfold preHint pre1 at hC;unfold pre2 prePiv pre1 post;simp only [if_pos hC]
 ·rw [if_neg hC]
  unfold preHint pre1 at hC;unfold pre2 prePiv pre1 post;simp only [if_neg hC]
  rfl
theorem pdq_size:∀(n:Nat) (d:Array Int) (a b limit:Nat) (wb wp:Bool),b-a≤n→(pdq ltInt d a b limit wb wp).size=d.size
 |n,d,a,b,limit,wb,wp,h=>by
  by_cases h12:b-a≤12
  ·rw [pdq,if_pos h12,insertionSort_size]
  ·by_cases hl:limit=0
   ·rw [pdq,if_neg h12,if_pos hl,heapSort_size]
   ·cases n with
    |zero=>omega
    |succ n=>
     have hp:∀(d3:Array Int) (lim pv:Nat),d3.size=d.size→(post d3 a b lim pv wb wp).size=d.size:=fun d3 lim pv h3=>by
      have hE:=partitionEqual_range a b pv d3 (by omega)
      have hP:=partition_range a b pv d3 (by omega)
      unfold post
      split
      ·rw [pdq_size n _ _ _ _ _ _ (by omega),partitionEqual_size,h3]
      ·split
       ·rw [pdq_size n _ _ _ _ _ _ (by omega),pdq_size n _ _ _ _ _ _ (by omega),partition_size,h3]
       ·rw [pdq_size n _ _ _ _ _ _ (by omega),pdq_size n _ _ _ _ _ _ (by omega),partition_size,h3]
     rw [pdq_round d a b limit wb wp (by omega) h12 hl]
     split
     ·split
      ·unfold partialInsertionSort
       rw [partialIns_size,pre2_size,pre1_size]
      ·refine hp _ _ _ ?_
       unfold partialInsertionSort;rw [partialIns_size,pre2_size,pre1_size]
     ·exact hp _ _ _ (by rw [pre2_size,pre1_size])
end Srt
namespace Srt
open Go.RowKit Go.Sort Win Stp Lst
def PdRel (w:World) (g q n N:Nat) (R:Array Int) (v1 v2 v3 v8 v9:Value) (wr:World):Prop:=
 ∃(a b lim:Nat) (wb wp:Bool) (dk:Array Int),v1= .int .i64 a∧v2= .int .i64 b∧v3= .int .i64 lim∧v8= .bool wb∧v9= .bool wp∧
  a≤b∧b≤N∧b-a≤n∧lim<1000000∧dk.size=N∧On w g q dk wr∧pdq ltInt dk a b lim wb wp=R
set_option maxHeartbeats 8000000 in
set_option maxRecDepth 1000000 in
theorem pdq_calls (N:Nat) (hsz:N<1000000):∀(n g q cap a b limit:Nat) (d:Array Int) (w:World),d.size=N→On w g q d w→a≤b→b≤N→limit<1000000→b-a≤n→
  Calls Tryz.prog 168 #[.slice (some ⟨g,q,none⟩) N cap,.int .i64 a,.int .i64 b,.int .i64 limit] w (Done w g q (pdq ltInt d a b limit true true)):=by
 intro n
 induction n using Nat.strongRecOn with
 |_ n ih=>
  intro g q cap a0 b0 limit d w hN hH hab hb hlim hn;obtain ⟨R,hR⟩:∃R,pdq ltInt d a0 b0 limit true true=R:=⟨_,rfl⟩
  rw [hR]
  have IH:=Lib.hid ih;clear ih;go_enter Tryz.func168,Tryz.ntmps168;go_wp2_with fail;go_loopw [1,2,3,8,9] (PdRel w g q n N R) (fun v1 v2 _ _ _ _=>natOf v2-natOf v1)
  case atStart=>exact ⟨a0,b0,limit,true,true,d,rfl,rfl,rfl,rfl,rfl,hab,hb,hn,hlim,hN,hH,hR⟩
  case round=>
   clear hR hH hab hb hn hlim;obtain ⟨a,b,lim,wb,wp,dk,rfl,rfl,rfl,rfl,rfl,hab,hb,hn,hlim,hsk,hw1,hI⟩:=hrel;obtain ⟨l,hl⟩:∃l,b-a=l:=⟨_,rfl⟩
   have hlz:((b:Int)-a)=(l:Int):=by omega
   have HW:=Lib.hid hw1;have HI:=Lib.hid hI;have HL:=Lib.hid hl;clear hw1 hI
   by_cases h12:l≤12
   ·have hr:R=insertionSort ltInt dk a b:=by rw [←HI.out,pdq,if_pos (by omega)]
    have hc:=insertion_calls g q N cap a b dk wr hsk HW.out.refl hab hb (by omega)
    have HR:=Lib.hid hr;have HC:=Lib.hid hc;clear hr hc;go_wp2_with (go_at_call 172;refine HC.out.mono ?_;rintro e w1 ⟨rfl,k1⟩)
    (try simp only [Exit.inBlock,Exit.then])
    refine bodyPost_ret (results_none rfl _ _ _) rfl ?_;exact ⟨rfl,by rw [HR.out];exact HW.out.trans k1⟩
   ·have h12z:¬(l:Int)≤12:=by omega
    by_cases hlim0:lim=0
    ·have hr:R=heapSort ltInt dk a b:=by rw [←HI.out,pdq,if_neg (by omega),if_pos hlim0]
     have hc:=heap_calls g q N cap a b l dk wr hsk HW.out.refl (by omega) hb (by omega)
     have HR:=Lib.hid hr;have HC:=Lib.hid hc;clear hr hc;subst hlim0;go_wp2_with (go_at_call 173;refine HC.out.mono ?_;rintro e w1 ⟨rfl,k1⟩)
     (try simp only [Exit.inBlock,Exit.then])
     refine bodyPost_ret (results_none rfl _ _ _) rfl ?_;exact ⟨rfl,by rw [HR.out];exact HW.out.trans k1⟩
    ·have hlim0z:¬((lim:Nat):Int)=0:=by omega
     have hround:=pdq_round dk a b lim wb wp (by omega) (by omega) hlim0;rw [HI.out] at hround;have HRD:=Lib.hid hround;clear hround HI;obtain ⟨d1,hd1⟩:∃d1,d1=pre1 dk a b wb:=⟨_,rfl⟩
     obtain ⟨lim1,hlim1⟩:∃lim1,lim1=(if !wb then lim-1 else lim):=⟨_,rfl⟩
     have hlm:lim1<1000000:=by rw [hlim1];split <;>omega
     have hc1:=break_calls g q N cap a b l dk wr hsk HW.out.refl (by omega) hb (by omega) hsz;have HC1:=Lib.hid hc1;have HD1:=Lib.hid hd1;have HL1:=Lib.hid hlim1;clear hc1 hd1 hlim1;go_upto_if 35 with fail;generalize ((lim:Int)==0)=bq1;go_cut [3] from 36 to 41 (fun v wx=>v= .int .i64 (lim1:Nat)∧On w g q d1 wx)
     case first=>
      have hlim1:=HL1.out;have hd1:=HD1.out
      cases wb with
      |true=>
       have e1:lim1=lim:=hlim1;have e2:d1=dk:=hd1;subst e1;subst e2;clear hlim1 hd1;go_wp2_with fail;go_meet;exact ⟨rfl,HW.out⟩
      |false=>
       have e1:lim1=lim-1:=hlim1;have e2:d1=breakPatterns dk a b:=hd1;clear hlim1 hd1;have E1:=Lib.hid e1;have E2:=Lib.hid e2;clear e1 e2;go_wp2_with (go_at_call 174;refine HC1.out.mono ?_;rintro e w1 ⟨rfl,k1⟩)
       go_meet;refine ⟨by congr 1;have:=E1.out;omega,?_⟩
       rw [E2.out]
       exact HW.out.trans k1
     case rest=>
      obtain ⟨rfl,hw2⟩:=hcut;have hs1:d1.size=N:=by rw [HD1.out,pre1_size];exact hsk
      have hc2:=pick_calls g q N cap a b l d1 wc hs1 hw2.refl (by omega) hb (by omega) hsz;have hrg:=choosePivot_holds ltInt d1 a b (by omega)
      obtain ⟨pv0,hint0,hcc⟩:∃pv0 hint0,choosePivot ltInt d1 a b=(pv0,hint0):=⟨_,_,rfl⟩
      rw [hcc] at hc2 hrg;have HC2:=Lib.hid hc2;have HCC:=Lib.hid hcc;have HW2:=Lib.hid hw2;clear hc2 hcc hw2;go_upto_if 50 with (go_at_call 175;refine HC2.out.mono ?_;rintro e w2 ⟨rfl,k2⟩)
      obtain ⟨d2,hd2⟩:∃d2,d2=pre2 d1 a b:=⟨_,rfl⟩
      obtain ⟨pv,hpv⟩:∃pv,pv=prePiv d1 a b:=⟨_,rfl⟩
      obtain ⟨hint,hhint⟩:∃hint,hint=preHint d1 a b:=⟨_,rfl⟩
      have hs2:d2.size=N:=by rw [hd2,pre2_size];exact hs1
      have hpr:a≤pv∧pv<b:=by
       rw [hpv]
       unfold prePiv;rw [HCC.out]
       dsimp only at hrg ⊢
       split <;>omega
      have hc3:=reverse_calls g q N cap a b d1 w2 hs1 k2.refl (by omega) hb (by omega)
      have HC3:=Lib.hid hc3;have HD2:=Lib.hid hd2;have HPV:=Lib.hid hpv;have HHN:=Lib.hid hhint;have HW3:=Lib.hid (HW2.out.trans k2)
      clear hc3 hd2 hpv hhint HW2 k2;go_cut [11,12] from 51 to 60 (fun v11 v12 wx=>v11= .int .i64 (pv:Nat)∧v12= .int .i64 (hintN hint)∧On w g q d2 wx)
      case first=>
       have hpv:=HPV.out;have hd2:=HD2.out;have hhn:=HHN.out;unfold prePiv at hpv;unfold pre2 at hd2;unfold preHint at hhn;rw [HCC.out] at hpv hd2 hhn
       dsimp only at hpv hd2 hhn hrg
       by_cases hdc:hint0= .decreasing
       ·rw [if_pos hdc] at hpv hd2 hhn
        subst hdc;have E1:=Lib.hid hpv;have E2:=Lib.hid hd2;have E3:=Lib.hid hhn;clear hpv hd2 hhn;rw [show hintN Hint.decreasing=2 from rfl]
        go_wp2_with (go_at_call 176;refine HC3.out.mono ?_;rintro e w3 ⟨rfl,k3⟩)
        go_meet;refine ⟨by congr 1;have:=E1.out;omega,by rw [E3.out];rfl,?_⟩
        rw [E2.out]
        exact HW3.out.trans k3
       ·rw [if_neg hdc] at hpv hd2 hhn
        have hz:¬hintN hint0=2:=by cases hint0 <;>simp_all [hintN]
        have E1:=Lib.hid hpv;have E2:=Lib.hid hd2;have E3:=Lib.hid hhn;clear hpv hd2 hhn;go_wp2_with fail;go_meet;refine ⟨by rw [E1.out],by rw [E3.out],?_⟩
        rw [E2.out]
        exact HW3.out
      case rest=>
       obtain ⟨rfl,rfl,hw4⟩:=hcut;have hrd:=HRD.out;rw [←HD1.out,←HHN.out,←HL1.out,←HPV.out,←HD2.out] at hrd;have HRD2:=Lib.hid hrd;have HW4:=Lib.hid hw4;clear hrd hw4 HRD HD1 HHN HL1 HPV HD2 HC1 HC2 HC3 HCC HW HW3;go_upto_region 15 with fail;go_cut [68] from 61 to 67 (fun v wx=>v= .bool (wb&&wp&&decide (hint= .increasing))∧wc=wx)
       case first=>
        cases wb <;>cases wp <;>cases hint
        all_goals
         rw [show hintN _=_ from rfl]
         go_wp2_with fail;go_meet;exact ⟨rfl,rfl⟩
       case rest=>
        obtain ⟨rfl,rfl⟩:=hcut;have hc4:=partial_calls g q N cap a b d2 wc hs2 HW4.out.refl (by omega) hb hsz;have HC4:=Lib.hid hc4;clear hc4;go_upto_if 68 with fail;go_cut [72] from 68 to 71 (fun v wx=>∃d3:Array Int,d3.size=N∧On w g q d3 wx∧R=post d3 a b lim1 pv wb wp)
        case first=>
         by_cases hC:(wb&&wp&&decide (hint= .increasing))=true
         ·have hr:=HRD2.out
          rw [if_pos hC] at hr;have HR5:=Lib.hid hr;clear hr;rw [hC]
          unfold partialInsertionSort at HR5 HC4;generalize hpi:partialIns ltInt a b 5 (a+1) d2=pi at HR5 HC4;have hps:pi.1.size=N:=by rw [←hpi,partialIns_size];exact hs2
          obtain ⟨pd,pb⟩:=pi;clear hpi
          cases pb with
          |true=>
           have hr7:R=pd:=HR5.out;have HR7:=Lib.hid hr7;clear hr7;go_wp2_with (go_at_call 177;refine HC4.out.mono ?_;rintro e w3 ⟨rfl,k3⟩)
           (try simp only [Exit.inBlock,Exit.then])
           refine bodyPost_ret (results_none rfl _ _ _) rfl ?_;exact ⟨rfl,by rw [HR7.out];exact HW4.out.trans k3⟩
          |false=>
           have hr7:R=post pd a b lim1 pv wb wp:=HR5.out;have HR7:=Lib.hid hr7;clear hr7;go_wp2_with (go_at_call 177;refine HC4.out.mono ?_;rintro e w3 ⟨rfl,k3⟩)
           go_meet;exact ⟨pd,hps,HW4.out.trans k3,HR7.out⟩
         ·have hC2:(wb&&wp&&decide (hint= .increasing))=false:=by simpa using hC
          have hr:=HRD2.out;rw [if_neg hC] at hr;rw [hC2]
          go_wp2_with fail;go_meet;exact ⟨d2,hs2,HW4.out,hr⟩
        case rest=>
         obtain ⟨d3,hs3,hw5,hR5⟩:=hcut;have hpN:pv<N:=by omega
         obtain ⟨B,hB⟩:∃B,B=(decide (a>0)&& !ltInt d3[a-1]! d3[pv]!):=⟨_,rfl⟩
         unfold post at hR5;rw [←hB] at hR5;have hE:=partitionEqual_range a b pv d3 (by omega)
         have hP:=partition_range a b pv d3 (by omega)
         have hc5:=fun (wy:World) (k:On wy g q d3 wy)=>partEqual_calls g q N cap a b pv d3 wy hs3 k (by omega) hb hpN hsz
         have hc6:=fun (wy:World) (k:On wy g q d3 wy)=>partition_calls g q N cap a b pv d3 wy hs3 k (by omega) hb hpN hsz
         have hsE:=partitionEqual_size a b pv d3;have hsP:=partition_size a b pv d3;have HW5:=Lib.hid hw5;have HR5:=Lib.hid hR5;have HB:=Lib.hid hB;have HC5:=Lib.hid hc5;have HC6:=Lib.hid hc6;have HE:=Lib.hid hE;have HP:=Lib.hid hP;have HsE:=Lib.hid hsE;have HsP:=Lib.hid hsP;clear hw5 hR5 hB hE hP hc5 hc6 hsE hsP HRD2 HW4 HC4;go_upto_region 17 with fail;go_cut [87] from 73 to 86 (fun v wx=>v= .bool B∧On w g q d3 wx)
         case first=>
          obtain ⟨G,hG⟩:∃G:Nat→Int,∀t,G t=d3[t]! :=⟨fun t=>d3[t]!,fun _=>rfl⟩
          have hcw:∀t,t<N→wc.cell? ⟨g,q+t,none⟩=some (.int .u32 (G t)):=fun t ht=>by rw [hG];exact HW5.out.cell t (by omega)
          have hfw:∀t,t<N→wc.frozen? ⟨g,q+t,none⟩=false:=fun t ht=>HW5.out.free t (by omega)
          have HG:=Lib.hid hG;clear hG
          by_cases h0:0<a
          ·have h0z:(0:Int)<(a:Int):=by omega
           go_wp2_with fail;go_quiet ((go_at_call 178;exact Calls.quiet_of_same (less_calls _ _ _)))
           go_wp2_with fail;go_meet;refine ⟨?_,HW5.out.drewN _⟩
           rw [HB.out,decide_eq_true (show a>0 from h0),Bool.true_and,HG.out,HG.out]
          ·have h0z:¬(0:Int)<(a:Int):=by omega
           have h0b:decide ((0:Int)<(a:Int))=false:=decide_eq_false h0z;go_wp2_with fail;go_quiet ((go_at_call 178;exact Calls.quiet_of_same (less_calls _ _ _)))
           go_wp2_with fail;go_meet;refine ⟨?_,HW5.out.drewN _⟩
           rw [HB.out,decide_eq_false (show ¬a>0 from h0),Bool.false_and]
         case rest=>
          obtain ⟨rfl,hw6⟩:=hcut;clear HW5
          cases B with
          |true=>
           have hr8:=HR5.out;rw [if_pos rfl] at hr8;generalize hEE:partitionEqual ltInt d3 a b pv=E at HE HC5 HsE hr8;obtain ⟨m,d4⟩:=E;have hE:=HE.out;have hsE:=HsE.out
           dsimp only at hE hsE hr8
           have hc5:=HC5.out _ hw6.refl;have HW6:=Lib.hid hw6;have HC7:=Lib.hid hc5;have HR8:=Lib.hid hr8;have HsE2:=Lib.hid hsE;clear hEE hr8 hsE hc5 hw6 HE HC5 HC6 HP HsP HsE HR5;go_wp2_with (go_at_call 179;refine HC7.out.mono ?_;rintro e w4 ⟨rfl,k4⟩)
           go_roundw
           case rel=>exact ⟨m,b,lim1,wb,wp,d4,rfl,rfl,rfl,rfl,rfl,hE.2,hb,by omega,hlm,HsE2.out.trans hs3,HW6.out.trans k4,HR8.out.symm⟩
           case measure=>simp [natOf];omega
          |false=>
           have hr8:=HR5.out;rw [if_neg (by simp)] at hr8;generalize hEE:Sort.partition ltInt d3 a b pv=E at HP HC6 HsP hr8;obtain ⟨m,ap,d4⟩:=E;have hP:=HP.out;have hsP:=HsP.out
           dsimp only at hP hsP hr8
           have hc6:=HC6.out _ hw6.refl;have HW6:=Lib.hid hw6;have HC7:=Lib.hid hc6;have hs4:d4.size=N:=hsP.trans hs3;obtain ⟨hP1,hP2⟩:=hP;clear hEE hsP hc6 hw6 HE HC5 HC6 HP HsP HsE HR5
           by_cases hlr:m-a<b-m
           ·rw [if_pos hlr] at hr8
            have hlrz:((m:Int)-a)<((b:Int)-m):=by omega
            obtain ⟨d5,hd5⟩:∃d5,d5=pdq ltInt d4 a m lim1 true true:=⟨_,rfl⟩
            rw [←hd5] at hr8;have hs5:d5.size=N:=by rw [hd5,pdq_size (m-a) _ _ _ _ _ _ (Nat.le_refl _)];exact hs4
            have hrec:=fun (wy:World) (k:On wy g q d4 wy)=>IH.out (m-a) (by omega) g q cap a m lim1 d4 wy hs4 k (by omega) (by omega) hlm (Nat.le_refl _)
            simp only [←hd5] at hrec;have HRec:=Lib.hid hrec;have HR8:=Lib.hid hr8;clear hrec hr8 hd5;go_upto_if 113 with (go_at_call 180;refine HC7.out.mono ?_;rintro e w4 ⟨rfl,k4⟩)
            have HW7:=Lib.hid (HW6.out.trans k4)
            clear k4;go_wp2_with (go_at_call 168;refine (HRec.out _ HW7.out.refl).mono ?_;rintro e w5 ⟨rfl,k5⟩)
            go_roundw
            case rel=>
             refine ⟨m+1,b,lim1,_,ap,d5,by go_num,rfl,rfl,rfl,rfl,by omega,hb,by omega,hlm,hs5,HW7.out.trans k5,?_⟩
             rw [HR8.out]
             congr 1
             rw [decide_eq_decide]
             have:=HL.out;omega
            case measure=>simp [natOf];omega
           ·rw [if_neg hlr] at hr8
            have hlrz:¬((m:Int)-a)<((b:Int)-m):=by omega
            obtain ⟨d5,hd5⟩:∃d5,d5=pdq ltInt d4 (m+1) b lim1 true true:=⟨_,rfl⟩
            rw [←hd5] at hr8;have hs5:d5.size=N:=by rw [hd5,pdq_size (b-(m+1)) _ _ _ _ _ _ (Nat.le_refl _)];exact hs4
            have hrec:=fun (wy:World) (k:On wy g q d4 wy)=>IH.out (b-(m+1)) (by omega) g q cap (m+1) b lim1 d4 wy hs4 k (by omega) (by omega) hlm (Nat.le_refl _)
            simp only [←hd5] at hrec;have HRec:=Lib.hid hrec;have HR8:=Lib.hid hr8;clear hrec hr8 hd5;go_upto_if 113 with (go_at_call 180;refine HC7.out.mono ?_;rintro e w4 ⟨rfl,k4⟩)
            have HW7:=Lib.hid (HW6.out.trans k4)
            clear k4;go_wp2_with (go_at_call 168;refine (HRec.out _ HW7.out.refl).mono ?_;rintro e w5 ⟨rfl,k5⟩)
            go_roundw
            case rel=>
             refine ⟨a,m,lim1,_,ap,d5,rfl,rfl,rfl,rfl,rfl,hP1,by omega,by omega,hlm,hs5,HW7.out.trans k5,?_⟩
             rw [HR8.out]
             congr 1
             rw [decide_eq_decide]
             have:=HL.out;omega
            case measure=>simp [natOf];omega
end Srt
namespace Srt
open Go.RowKit Go.Sort Win Stp Lst
set_option maxHeartbeats 1000000 in
theorem sort_calls (g q N cap:Nat) (d:Array Int) (w:World) (hN:d.size=N) (hsz:N<1000000) (hH:On w g q d w):
  Calls Tryz.prog 164 #[.slice (some ⟨g,q,none⟩) N cap] w (Done w g q (Go.Sort.sort ltInt d)):=by
 have hLen:∀w,Calls Tryz.prog 169 #[.int .u64 (N:Int)] w fun e w'=>e= .returned (.int .i64 (bitsLen N:Nat))∧w'=w:=fun w=>by
  have h:=Tryz.bits_Len (N:Int) w (by omega) (by omega)
  rwa [Int.toNat_natCast,len_eq _ (by omega)] at h
 have hk:bitsLen N≤62:=(bitsLen_le_iff N 62).2 (by omega)
 have hc:=pdq_calls N hsz N g q cap 0 N (bitsLen N) d w hN hH (Nat.zero_le _) (Nat.le_refl _) (by omega) (by omega)
 have hw:IntKind.u64.wrap (N:Int)=N:=by rw [IntKind.wrap_u64];omega
 obtain ⟨R,hR⟩:∃R,R=Go.Sort.sort ltInt d:=⟨_,rfl⟩
 rw [show pdq ltInt d 0 N (bitsLen N) true true=R by rw [hR];unfold Go.Sort.sort;rw [hN]] at hc;rw [←hR]
 have HC:=Lib.hid hc;clear hc hR hH hN;go_enter Tryz.func164,Tryz.ntmps164;go_wp2_with (first|(go_at_call 169;refine (hLen _).mono ?_;rintro e w' ⟨rfl,rfl⟩)|(go_at_call 168;refine HC.out.mono ?_;rintro e w1 ⟨rfl,k1⟩))
 go_end0;exact ⟨rfl,k1⟩
theorem insertion_nil (w:World):Calls Tryz.prog 172 #[.slice none 0 0,.int .i64 0,.int .i64 0] w fun e w'=>e= .returned (.tuple #[])∧w'=w:=by
 go_enter Tryz.func172,Tryz.ntmps172;go_wp2_with fail;go_loopw [6] (fun vi wr=>vi= .int .i64 1∧wr=w) (fun _ _=>0)
 case atStart=>exact ⟨rfl,rfl⟩
 case round=>
  obtain ⟨rfl,rfl⟩:=hrel;go_wp2_with fail;go_end0;exact ⟨rfl,rfl⟩
theorem pdq_nil (w:World):Calls Tryz.prog 168 #[.slice none 0 0,.int .i64 0,.int .i64 0,.int .i64 0] w fun e w'=>e= .returned (.tuple #[])∧w'=w:=by
 go_enter Tryz.func168,Tryz.ntmps168;go_wp2_with fail;go_loopw [1,2,3,8,9] (fun v1 v2 v3 v8 v9 wr=>v1= .int .i64 0∧v2= .int .i64 0∧v3= .int .i64 0∧v8= .bool true∧v9= .bool true∧wr=w) (fun _ _ _ _ _ _=>0)
 case atStart=>exact ⟨rfl,rfl,rfl,rfl,rfl,rfl⟩
 case round=>
  obtain ⟨rfl,rfl,rfl,rfl,rfl,rfl⟩:=hrel;go_wp2_with (go_at_call 172;refine (insertion_nil _).mono ?_;rintro e w1 ⟨rfl,rfl⟩)
  (try simp only [Exit.inBlock,Exit.then])
  refine bodyPost_ret (results_none rfl _ _ _) rfl ?_;exact ⟨rfl,rfl⟩
theorem sort_nil (w:World):Calls Tryz.prog 164 #[.slice none 0 0] w fun e w'=>e= .returned (.tuple #[])∧w'=w:=by
 have hLen:∀w,Calls Tryz.prog 169 #[.int .u64 0] w fun e w'=>e= .returned (.int .i64 0)∧w'=w:=fun w=>Tryz.bits_Len 0 w (by omega) (by omega)
 go_enter Tryz.func164,Tryz.ntmps164;go_wp2_with (first|(go_at_call 169;refine (hLen _).mono ?_;rintro e w' ⟨rfl,rfl⟩)|(go_at_call 168;refine (pdq_nil _).mono ?_;rintro e w1 ⟨rfl,rfl⟩))
 go_end0;exact ⟨rfl,rfl⟩
theorem On.cells {w:World} {g q:Nat}:∀(xs:List Int) (d:Array Int) (k:Nat) (w1:World),k+xs.length≤d.size→On w g q d w1→On w g q (Lib.lay d k xs) (w1.setCells g (q+k) (xs.map (Value.int .u32)))
 |[],d,k,w1,_,h=>h
 |x::r,d,k,w1,hk,h=>by
  have hl:k+(r.length+1)≤d.size:=by simpa using hk
  rw [Lib.lay,List.map_cons,World.setCells]
  have:=On.cells r (d.setIfInBounds k x) (k+1) _ (by simp;omega) (h.set k (by omega) x)
  rwa [show q+(k+1)=q+k+1 by omega] at this
theorem lay_size:∀(xs:List Int) (d:Array Int) (k:Nat),(Lib.lay d k xs).size=d.size
 |[],d,k=>rfl
 |x::r,d,k=>by rw [Lib.lay,lay_size r];simp
theorem lay_low (xs:List Int) (d:Array Int) (k j:Nat) (hk:k+xs.length≤d.size) (hj:j<k):(Lib.lay d k xs)[j]! =d[j]! :=by
 have h:=Lib.lay_get? xs d k j hk;rw [if_neg (by omega)] at h;simp only [getElem!_def,h]
def CmpPost (w:World) (g q N cap:Nat) (d:Array Int) (e:Ending) (w':World):Prop:=
 ∃d':Array Int,e= .returned (.slice (some ⟨g,q,none⟩) (Lib.compactUpTo d N).length cap)∧d'.size=N∧On w g q d' w'∧(Lib.compactUpTo d N).length≤N∧∀j,j<(Lib.compactUpTo d N).length→(Lib.compactUpTo d N)[j]? =some d'[j]!
theorem cmp_all {w w':World} {g q N cap:Nat} {d:Array Int} (hN:d.size=N) (hall:∀j,j<N→Lib.keeps d j=true) (h:On w g q d w'):CmpPost w g q N cap d (.returned (.slice (some ⟨g,q,none⟩) N cap)) w':=by
 have e:Lib.compactUpTo d N=d.toList:=by rw [Lib.compactUpTo_all d N hall,←hN,Lib.range_map_get]
 have el:(Lib.compactUpTo d N).length=N:=by rw [e];simpa using hN
 refine ⟨d,by rw [el],hN,h,by rw [el];exact Nat.le_refl _,fun j hj=>?_⟩
 rw [el] at hj;rw [e,Array.getElem?_toList,getElem!_pos d j (by omega),Array.getElem?_eq_getElem (by omega)]
def CmpRel1 (w:World) (g q N:Nat) (d:Array Int) (v3:Value) (wr:World):Prop:=∃k:Nat,v3= .int .i64 k∧1≤k∧k≤N∧On w g q d wr∧∀j,j<k→Lib.keeps d j=true
def CmpRel2 (w:World) (g q N k:Nat) (d:Array Int) (v3 v5:Value) (wr:World):Prop:=∃(kk k2:Nat) (dk:Array Int),v3= .int .i64 kk∧v5= .int .i64 k2∧1≤k2∧k+k2≤N∧On w g q dk wr∧Lib.CompInv d (k+k2) kk dk
theorem zero_u32 (w:World):(zeroValue 31).run Tryz.prog w= .ok (.int .u32 0) w:=by kernel_rfl
set_option maxHeartbeats 8000000 in
set_option maxRecDepth 1000000 in
theorem compact_calls (g q N cap:Nat) (d:Array Int) (w:World) (hN:d.size=N) (hsz:N<1000000) (hcap:N≤cap) (hH:On w g q d w):
  Calls Tryz.prog 165 #[.slice (some ⟨g,q,none⟩) N cap] w (CmpPost w g q N cap d):=by
 by_cases h2:N<2
 ·have HR:=Lib.hid (cmp_all (cap:=cap) hN (fun j hj=>Lib.keeps_lt_one d j (by have:=Lib.keeps_lt_one d;omega)) hH)
  clear hH;go_enter Tryz.func165,Tryz.ntmps165;go_wp2_with fail;go_ret;exact HR.out
 ·go_enter Tryz.func165,Tryz.ntmps165
  go_wp2_with fail;go_loopw [3] (CmpRel1 w g q N d) (fun v3 _=>N-natOf v3)
  case atStart=>exact ⟨1,rfl,Nat.le_refl _,by omega,hH,Lib.keeps_lt_one d⟩
  case round=>
   clear hH;obtain ⟨k,rfl,hk1,hkN,hw1,hall⟩:=hrel;obtain ⟨G,hG⟩:∃G:Nat→Int,∀t,G t=d[t]! :=⟨fun t=>d[t]!,fun _=>rfl⟩
   have hcw:∀t,t<N→wr.cell? ⟨g,q+t,none⟩=some (.int .u32 (G t)):=fun t ht=>by rw [hG];exact hw1.cell t (by omega)
   have HW:=Lib.hid hw1;have HG:=Lib.hid hG;have HA:=Lib.hid hall;clear hw1 hG hall
   by_cases hlt:k<N
   ·by_cases hdup:G k=G (k-1)
    ·have HD:=Lib.hid hdup
     have hc0:=hcw k hlt;have hc1:=hcw (k-1) (by omega)
     rw [hdup] at hc0;clear hcw hdup;generalize G (k-1)=x at hc0 hc1;have hkc:k<cap:=by omega
     go_wp2_with fail;go_quiet (fail)
     go_wp2_with fail;have HW2:=Lib.hid (HW.out.drewN nq)
     generalize wr.drewN nq=wr2 at HW2 ⊢;clear hc0 hc1 HW;go_loopw [3,5] (CmpRel2 w g q N k d) (fun _ v5 _=>N-natOf v5)
     case atStart=>exact ⟨k,1,d,rfl,rfl,Nat.le_refl _,by omega,HW2.out,Lib.CompInv.start HA.out (Lib.keeps_neg (by omega) (by rw [←HG.out,←HG.out];exact HD.out))⟩
     case round=>
      clear HW2;obtain ⟨kk,k2,dk,rfl,rfl,h21,hle,hw3,hI⟩:=hrel;have hkk:=hI.lt;have hds:=hI.size;have hds2:dk.size=N:=by omega
      have HW3:=Lib.hid hw3;have HI:=Lib.hid hI;have hcd:∀t,kk≤t→t<N→wr.cell? ⟨g,q+t,none⟩=some (.int .u32 (G t)):=fun t h1 ht=>by rw [HG.out,←hI.high t h1];exact hw3.cell t (by omega)
      have hck:=hw3.cell kk;have hfk:=hw3.free kk;clear hw3 hI
      by_cases hlt2:k+k2<N
      ·have hcm:=hcd (k+k2) (by omega) hlt2
       have hcp:=hcd (k+k2-1) (by omega) (by omega)
       have hck:=hck (by omega)
       have hfk:=hfk (by omega)
       rw [show q+(k+k2)=q+k+k2 by omega] at hcm;rw [show q+(k+k2-1)=q+k+(k2-1) by omega] at hcp;have hl2:k2<N-k:=by omega
       have hl3:k2-1<N-k:=by omega
       clear hcd hds hds2
       by_cases huv:G (k+k2)=G (k+k2-1)
       ·have HU:=Lib.hid huv
        rw [huv] at hcm;generalize G (k+k2-1)=x at hcm hcp;clear huv;go_wp2_with fail;go_quiet (fail)
        go_wp2_with fail;go_roundw
        case rel=>exact ⟨kk,k2+1,dk,rfl,by go_num,by omega,by omega,HW3.out.drewN _,HI.out.skip (Lib.keeps_neg (by omega) (by rw [←HG.out,←HG.out];exact HU.out))⟩
        case measure=>simp [natOf];omega
       ·have HU:=Lib.hid huv
        generalize hx:G (k+k2)=x at hcm huv;generalize G (k+k2-1)=y at hcp huv;generalize dk[kk]! =z at hck;have HX:=Lib.hid hx;clear hx;go_wp2_with fail;go_quiet (fail)
        go_wp2_with fail;go_roundw
        case rel=>
         refine ⟨kk+1,k2+1,dk.setIfInBounds kk x,by go_num,by go_num,by omega,by omega,?_,?_⟩
         ·exact (HW3.out.drewN _).set kk (by have:=HI.out.size;omega) x
         ·have:=HI.out.keep (by omega) (Lib.keeps_pos (by rw [←HG.out,←HG.out];exact HU.out))
          rwa [←HG.out,HX.out] at this
        case measure=>simp [natOf];omega
      ·have hend:k+k2=N:=by omega
       have hcl:∀ty,(Builtin.clear_ #[24] ty #[.slice (some ⟨g,q+kk,none⟩) (N-kk) (cap-kk)]).run Tryz.prog wr= .ok (.tuple #[]) (wr.setCells g (q+kk) (List.replicate (N-kk) (.int .u32 0))):=
        fun ty=>Lib.run_clear_slice wr _ _ ty _ Tryz.underlying24 zero_u32 rfl rfl g (q+kk) _ _ (by omega) (fun j hj=>by rw [show q+kk+j=q+(kk+j) by omega,HW3.out.cell (kk+j) (by omega)];rfl) (fun j hj=>by rw [show q+kk+j=q+(kk+j) by omega];exact HW3.out.free (kk+j) (by omega))
       have hkc2:kk<cap:=by omega
       have hkn:kk≤N:=by omega
       clear hcd hck hfk;have HE:=Lib.hid hend;clear hend;go_wp2_with fail;go_ret;have hI:=HI.out;rw [HE.out] at hI;refine ⟨Lib.lay dk kk (List.replicate (N-kk) 0),by rw [hI.len];rfl,by rw [lay_size];exact hds2,?_,by rw [hI.len];exact hkn,fun j hj=>?_⟩
       ·have:=On.cells (List.replicate (N-kk) 0) dk kk _ (by simp;omega) HW3.out
        rwa [List.map_replicate] at this
       ·rw [hI.len] at hj
        rw [lay_low _ _ _ _ (by simp;omega) hj]
        exact hI.low j hj
    ·have HD:=Lib.hid hdup
     have hc0:=hcw k hlt;have hc1:=hcw (k-1) (by omega)
     clear hcw;generalize G (k-1)=x at hc1 hdup;generalize G k=y at hc0 hdup;go_wp2_with fail;go_quiet (fail)
     go_wp2_with fail;go_roundw
     case rel=>
      refine ⟨k+1,by go_num,by omega,by omega,HW.out.drewN _,fun j hj=>?_⟩
      by_cases e:j=k
      ·subst e
       exact Lib.keeps_pos (by rw [←HG.out,←HG.out];exact HD.out)
      ·exact HA.out j (by omega)
     case measure=>simp [natOf];omega
   ·obtain rfl:k=N:=by omega
    have HR:=Lib.hid (cmp_all (cap:=cap) hN HA.out HW.out)
    clear hcw;go_wp2_with fail;go_ret;exact HR.out
theorem compact_nil (w:World):Calls Tryz.prog 165 #[.slice none 0 0] w fun e w'=>e= .returned (.slice none 0 0)∧w'=w:=by
 go_enter Tryz.func165,Tryz.ntmps165;go_wp2_with fail;go_ret;exact ⟨rfl,rfl⟩
end Srt
end Go.Proofs.YtooiooledeblmaaGreat
