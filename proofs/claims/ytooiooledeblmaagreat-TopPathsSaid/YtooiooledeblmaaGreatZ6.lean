/- slices.Sort at uint32: choosePivot. slices.Sort at uint32: partitionEqual. slices.Sort at uint32: partition. slices.Sort at uint32: xorshift.Next, nextPowerOfTwo, breakPatterns. -/
import Derived.Test.YtooiooledeblmaaGreatZ5
import Derived.Sort.LotD5
import Derived.Laws.Bits64
import Derived.Laws.Bits64b
import Derived.Test.YtooiooledeblmaaGreatShelf
set_option linter.unusedVariables false
set_option linter.unusedSimpArgs false
namespace Go.Proofs.YtooiooledeblmaaGreat
namespace Srt
open Go.RowKit Go.Sort Win Stp Lst
def hintN:Hint→Int
 | .unknown=>0
 | .increasing=>1
 | .decreasing=>2
theorem On.below {w w1:World} {g q:Nat} {d:Array Int} (hw:g<w.heap.size) (hb:Below w.heap.size w w1) (h:On w g q d w):On w g q d w1:=
 ⟨fun t ht=>(hb.cell hw).trans (h.cell t ht),fun t ht=>(hb.frozen hw).trans (h.free t ht),Chg.of_below hb,hw,Typ.same (hb.block g hw)⟩
theorem On.pv {w:World} {g q:Nat} {d:Array Int} (h:On w g q d w) (t:TypeId):Pv (w.alloc (.cells #[.int .i64 0] t (0,0))) g q d w.heap.size 0 (w.alloc (.cells #[.int .i64 0] t (0,0))):=by
 have hb:Below w.heap.size w (w.alloc (.cells #[.int .i64 0] t (0,0))):=(Below.refl _ _).alloc (Nat.le_refl _) _;exact ⟨(On.below h.old hb h).cell,(On.below h.old hb h).free,cell_of (heap_alloc_new _ _) 0,frozen_of (heap_alloc_new _ _) 0,fun e=>by have:=h.old;omega,Chg.refl _,Typ.refl _ _⟩
theorem Pv.on {w w1:World} {g q s:Nat} {d:Array Int} {o:Obj} (hw:g<w.heap.size) (h:Pv (w.alloc o) g q d w.heap.size s w1):On w g q d w1:=
 ⟨h.cell,h.free,chg_then (Chg.alloc (S:=fun i=>i=g) w o) h.chg (fun i hi e=>absurd hi (by omega)),hw,(Typ.alloc hw o).trans h.typ⟩
def PickPost (w:World) (g q:Nat) (d:Array Int) (r:Nat×Hint) (e:Ending) (w':World):Prop:=
 e= .returned (.tuple #[.int .i64 r.1,.int .i64 (hintN r.2)])∧On w g q d w'
set_option maxHeartbeats 4000000 in
set_option maxRecDepth 1000000 in
theorem pick_calls (g q N cap a b l:Nat) (d:Array Int) (w:World) (hN:d.size=N) (hH:On w g q d w) (hl:b=a+l) (hb:b≤N) (hl1:8≤l) (hsz:N<1000000):
  Calls Tryz.prog 175 #[.slice (some ⟨g,q,none⟩) N cap,.int .i64 a,.int .i64 b] w (PickPost w g q d (choosePivot ltInt d a b)):=by
 have hd:((b:Int)-a)=(l:Int):=by omega
 have hlb:b-a=l:=by omega
 obtain ⟨i,hi⟩:∃i,i=a+l/4*1:=⟨_,rfl⟩
 obtain ⟨j,hj⟩:∃j,j=a+l/4*2:=⟨_,rfl⟩
 obtain ⟨k,hk⟩:∃k,k=a+l/4*3:=⟨_,rfl⟩
 have hP:=hH.pv 3;obtain ⟨R,hR⟩:∃R,R=choosePivot ltInt d a b:=⟨_,rfl⟩
 rw [←hR]
 go_enter Tryz.func175,Tryz.ntmps175;go_upto_region 6 with fail;rw [show ((a:Int)+l-a)=(l:Int) by omega]
 rw [show ((a:Int)+(l:Int)/4)=(i:Int) by omega,show ((a:Int)+(l:Int)/4*2)=(j:Int) by omega,show ((a:Int)+(l:Int)/4*3)=(k:Int) by omega]
 unfold choosePivot at hR;simp only [hlb,←hi,←hj,←hk] at hR;rw [if_pos hl1] at hR;have hi1:0<i∧i+1<N:=by omega
 have hj1:0<j∧j+1<N:=by omega
 have hk1:0<k∧k+1<N:=by omega
 clear hi hj hk hlb hd;have hlz:(8:Int)≤(l:Int):=by omega
 by_cases h50:50≤l
 ·have h50z:(50:Int)≤(l:Int):=by omega
  rw [if_pos h50] at hR;have m1:=median_le d (i-1) i (i+1) 0 N (by omega) (by omega) (by omega)
  have c1:=adjacent_calls g q N cap i w.heap.size 0 d _ hN hP hi1.1 hi1.2 (by omega) (by omega)
  change (medianAdjacent ltInt d i 0).1<N∧(medianAdjacent ltInt d i 0).2≤0+3 at m1;generalize medianAdjacent ltInt d i 0=r1 at m1 c1 hR;obtain ⟨x1,s1⟩:=r1
  dsimp only at m1 c1 hR
  have m2:=median_le d (j-1) j (j+1) s1 N (by omega) (by omega) (by omega)
  have c2:=fun (w1:World) (k1:Pv (w.alloc (.cells #[.int .i64 0] 3 (0,0))) g q d w.heap.size s1 w1)=>adjacent_calls g q N cap j w.heap.size s1 d w1 hN k1.refl hj1.1 hj1.2 (by omega) (by omega)
  change (medianAdjacent ltInt d j s1).1<N∧(medianAdjacent ltInt d j s1).2≤s1+3 at m2;generalize medianAdjacent ltInt d j s1=r2 at m2 c2 hR;obtain ⟨x2,s2⟩:=r2
  dsimp only at m2 c2 hR
  have m3:=median_le d (k-1) k (k+1) s2 N (by omega) (by omega) (by omega)
  have c3:=fun (w1:World) (k1:Pv (w.alloc (.cells #[.int .i64 0] 3 (0,0))) g q d w.heap.size s2 w1)=>adjacent_calls g q N cap k w.heap.size s2 d w1 hN k1.refl hk1.1 hk1.2 (by omega) (by omega)
  change (medianAdjacent ltInt d k s2).1<N∧(medianAdjacent ltInt d k s2).2≤s2+3 at m3;generalize medianAdjacent ltInt d k s2=r3 at m3 c3 hR;obtain ⟨x3,s3⟩:=r3
  dsimp only at m3 c3 hR
  have m4:=median_le d x1 x2 x3 s3 N m1.1 m2.1 m3.1;have c4:=fun (w1:World) (k1:Pv (w.alloc (.cells #[.int .i64 0] 3 (0,0))) g q d w.heap.size s3 w1)=>median_calls g q N cap x1 x2 x3 w.heap.size s3 d w1 hN k1.refl m1.1 m2.1 m3.1 (by omega) (by omega)
  generalize median ltInt d x1 x2 x3 s3=r4 at m4 c4 hR;obtain ⟨x4,sm⟩:=r4
  dsimp only at m4 c4 hR
  have C1:=Lib.hid c1;have C2:=Lib.hid c2;have C3:=Lib.hid c3;have C4:=Lib.hid c4;have HR:=Lib.hid hR;clear c1 c2 c3 c4 hP hR;go_upto_region 9 with (go_at_call 187;refine C1.out.mono ?_;rintro e1 w1 ⟨rfl,k1⟩)
  go_upto_region 10 with (go_at_call 187;refine (C2.out w1 k1).mono ?_;rintro e2 w2 ⟨rfl,k2⟩)
  have k12:=k1.trans k2;go_upto_region 11 with (go_at_call 187;refine (C3.out w2 k12).mono ?_;rintro e3 w3 ⟨rfl,k3⟩)
  have k123:=k12.trans k3;go_upto_region 12 with (go_at_call 188;refine (C4.out w3 k123).mono ?_;rintro e4 w4 ⟨rfl,k4⟩)
  have KM:=k123.trans k4;have hc:=KM.cnt
  by_cases h0:sm=0
  ·have h0z:((sm:Nat):Int)=0:=by omega
   go_wp2_with fail
   (try simp only [Exit.inBlock,Exit.then])
   refine bodyPost_ret (results_tmp2 rfl _ _ _) rfl ?_;exact ⟨by rw [HR.out,if_pos h0];rfl,KM.on hH.old⟩
  ·have h0z:¬((sm:Nat):Int)=0:=by omega
   by_cases h2:sm=12
   ·have h2z:((sm:Nat):Int)=12:=by omega
    go_wp2_with fail
    (try simp only [Exit.inBlock,Exit.then])
    refine bodyPost_ret (results_tmp2 rfl _ _ _) rfl ?_;exact ⟨by rw [HR.out,if_neg h0,if_pos h2];rfl,KM.on hH.old⟩
   ·have h2z:¬((sm:Nat):Int)=12:=by omega
    go_wp2_with fail
    (try simp only [Exit.inBlock,Exit.then])
    refine bodyPost_ret (results_tmp2 rfl _ _ _) rfl ?_;exact ⟨by rw [HR.out,if_neg h0,if_neg h2];rfl,KM.on hH.old⟩
 ·have h50z:¬(50:Int)≤(l:Int):=by omega
  rw [if_neg h50] at hR;have m4:=median_le d i j k 0 N (by omega) (by omega) (by omega)
  have c4:=median_calls g q N cap i j k w.heap.size 0 d _ hN hP (by omega) (by omega) (by omega) (by omega) (by omega)
  generalize median ltInt d i j k 0=r4 at m4 c4 hR;obtain ⟨x4,sm⟩:=r4
  dsimp only at m4 c4 hR
  have C4:=Lib.hid c4;have HR:=Lib.hid hR;clear c4 hP hR;go_upto_region 12 with (go_at_call 188;refine C4.out.mono ?_;rintro e4 w4 ⟨rfl,k4⟩)
  have KM:=k4;have hc:=KM.cnt
  by_cases h0:sm=0
  ·have h0z:((sm:Nat):Int)=0:=by omega
   go_wp2_with fail
   (try simp only [Exit.inBlock,Exit.then])
   refine bodyPost_ret (results_tmp2 rfl _ _ _) rfl ?_;exact ⟨by rw [HR.out,if_pos h0];rfl,KM.on hH.old⟩
  ·have h0z:¬((sm:Nat):Int)=0:=by omega
   by_cases h2:sm=12
   ·have h2z:((sm:Nat):Int)=12:=by omega
    go_wp2_with fail
    (try simp only [Exit.inBlock,Exit.then])
    refine bodyPost_ret (results_tmp2 rfl _ _ _) rfl ?_;exact ⟨by rw [HR.out,if_neg h0,if_pos h2];rfl,KM.on hH.old⟩
   ·have h2z:¬((sm:Nat):Int)=12:=by omega
    go_wp2_with fail
    (try simp only [Exit.inBlock,Exit.then])
    refine bodyPost_ret (results_tmp2 rfl _ _ _) rfl ?_;exact ⟨by rw [HR.out,if_neg h0,if_neg h2];rfl,KM.on hH.old⟩
end Srt
namespace Srt
open Go.RowKit Go.Sort Win Stp Lst
section
variable (p:Int→Bool) (d:Array Int)
theorem up_go (j i:Nat) (h:i≤j) (hp:p d[i]! =true):scanUp p d j i=scanUp p d j (i+1):=by
 rw [scanUp,if_pos (by rw [hp];simp;exact h)]
theorem up_stop (j i:Nat) (h:¬i≤j∨p d[i]! =false):scanUp p d j i=i:=by
 rw [scanUp,if_neg]
 rcases h with h|h
 ·simp;omega
 ·simp [h]
theorem down_go (i j:Nat) (h:i≤j) (hi:0<i) (hp:p d[j]! =true):scanDown p d i j=scanDown p d i (j-1):=by
 obtain ⟨k,rfl⟩:∃k,j=k+1:=⟨j-1,by omega⟩
 rw [scanDown,if_pos (by rw [hp];simp;exact h)]
 rfl
theorem down_stop (i j:Nat) (h:¬i≤j∨p d[j]! =false):scanDown p d i j=j:=by
 cases j with
 |zero=>rw [scanDown]
 |succ k=>
  rw [scanDown,if_neg]
  rcases h with h|h
  ·simp;omega
  ·simp [h]
end
theorem part_step (a i j i2 j2:Nat) (d:Array Int) (h1:scanUp (fun x=>ltInt x d[a]!) d j i=i2) (h2:scanDown (fun x=> !ltInt x d[a]!) d i2 j=j2) (hi:i≤i2) (hj:j2≤j):
  partLoop ltInt a i j d=if j2<i2 then (j2,d) else partLoop ltInt a (i2+1) (j2-1) (swp d i2 j2):=by
 rw [partLoop]
 simp only [h1,h2]
 by_cases h:j2<i2
 ·rw [if_pos h,if_pos h]
 ·rw [if_neg h,if_neg h,dif_pos (by omega)]
theorem parteq_step (a i j i2 j2:Nat) (d:Array Int) (h1:scanUp (fun x=> !ltInt d[a]! x) d j i=i2) (h2:scanDown (fun x=>ltInt d[a]! x) d i2 j=j2) (hi:i≤i2) (hj:j2≤j):
  partEqLoop ltInt a i j d=if j2<i2 then (i2,d) else partEqLoop ltInt a (i2+1) (j2-1) (swp d i2 j2):=by
 rw [partEqLoop]
 simp only [h1,h2]
 by_cases h:j2<i2
 ·rw [if_pos h,if_pos h]
 ·rw [if_neg h,if_neg h,dif_pos (by omega)]
def UpRel (w:World) (g q:Nat) (d:Array Int) (p:Int→Bool) (i0 j:Nat) (v:Value) (wr:World):Prop:=
 ∃i:Nat,v= .int .i64 i∧i0≤i∧i≤j+1∧On w g q d wr∧scanUp p d j i=scanUp p d j i0
def DownRel (w:World) (g q:Nat) (d:Array Int) (p:Int→Bool) (i j0:Nat) (v:Value) (wr:World):Prop:=
 ∃j:Nat,v= .int .i64 j∧i≤j+1∧j≤j0∧On w g q d wr∧scanDown p d i j=scanDown p d i j0
theorem not_true {b:Bool} (h:(!b)=true):b=false:=by cases b <;>simp_all
theorem not_false {b:Bool} (h:(!b)=false):b=true:=by cases b <;>simp_all
theorem partEq_size (a:Nat):∀(n i j:Nat) (d:Array Int),j+1-i≤n→(partEqLoop ltInt a i j d).2.size=d.size
 |0,i,j,d,h=>by
  rw [partEqLoop]
  split
  ·rfl
  ·rw [dif_neg (by omega)]
 |n+1,i,j,d,h=>by
  rw [partEqLoop]
  split
  ·rfl
  ·split
   ·rw [partEq_size a n _ _ _ (by omega),size_swp]
   ·rfl
theorem partitionEqual_size (a b p:Nat) (d:Array Int):(partitionEqual ltInt d a b p).2.size=d.size:=by
 unfold partitionEqual;rw [partEq_size a _ _ _ _ (Nat.le_refl _),size_swp]
def PeRel (w:World) (g q a b N:Nat) (R:Nat×Array Int) (vi vj:Value) (wr:World):Prop:=
 ∃(i j:Nat) (dk:Array Int),vi= .int .i64 i∧vj= .int .i64 j∧a<i∧i≤j+1∧j<b∧dk.size=N∧On w g q dk wr∧partEqLoop ltInt a i j dk=R
def MidPost (w:World) (g q:Nat) (r:Nat×Array Int) (e:Ending) (w':World):Prop:=e= .returned (.int .i64 r.1)∧On w g q r.2 w'
set_option maxHeartbeats 8000000 in
set_option maxRecDepth 1000000 in
theorem partEqual_calls (g q N cap a b p:Nat) (d:Array Int) (w:World) (hN:d.size=N) (hH:On w g q d w) (hab:a<b) (hb:b≤N) (hp:p<N) (hsz:N<1000000):
  Calls Tryz.prog 179 #[.slice (some ⟨g,q,none⟩) N cap,.int .i64 a,.int .i64 b,.int .i64 p] w (MidPost w g q (partitionEqual ltInt d a b p)):=by
 obtain ⟨G,hG⟩:∃G:Nat→Int,∀t,G t=d[t]! :=⟨fun t=>d[t]!,fun _=>rfl⟩
 have hcw:∀t,t<N→w.cell? ⟨g,q+t,none⟩=some (.int .u32 (G t)):=fun t ht=>by rw [hG];exact hH.cell t (by omega)
 have hfw:∀t,t<N→w.frozen? ⟨g,q+t,none⟩=false:=fun t ht=>hH.free t (by omega)
 obtain ⟨R,hR⟩:∃R,partitionEqual ltInt d a b p=R:=⟨_,rfl⟩
 rw [hR]
 have HR:=Lib.hid hR;have HS:On w g q (swp d a p) (((w.setCell ⟨g,q+a,none⟩ (.int .u32 (G p))).setCell ⟨g,q+p,none⟩ (.int .u32 (G a))).drew):=by
  rw [hG,hG]
  exact (hH.swap a p (by omega) (by omega)).drew
 have HW:=Lib.hid HS;clear HS hG hR hH;obtain ⟨y,hy⟩:∃y,(w.setCell ⟨g,q+a,none⟩ (.int .u32 (G p))).cell? ⟨g,q+p,none⟩=some y:=by
  by_cases e:a=p
  ·subst e
   exact ⟨_,World.cell?_setCell_same _ _ _ (hcw a (by omega))⟩
  ·exact ⟨_,(World.cell?_setCell_other _ _ _ _ (by intro hh;simp only [Addr.mk.injEq] at hh;omega)).trans (hcw p (by omega))⟩
 have hyf:(w.setCell ⟨g,q+a,none⟩ (.int .u32 (G p))).frozen? ⟨g,q+p,none⟩=false:=by
  rw [set_free]
  exact hfw p (by omega)
 go_enter Tryz.func179,Tryz.ntmps179;go_upto_region 1 with fail;go_region
 all_goals go_wp2_with fail
 have HW0:=Lib.hid (show On w g q (swp d a p) _ from HW.out)
 clear hcw hfw hy hyf HW;generalize hw0:World.drew _=w0 at HW0 ⊢;go_loopw [9,10] (PeRel w g q a b N R) (fun vi vj _=>natOf vj+1-natOf vi)
 case atStart=>exact ⟨a+1,b-1,swp d a p,by go_num,by congr 1;omega,by omega,by omega,by omega,by rw [size_swp];exact hN,HW0.out,HR.out⟩
 case round=>
  clear HR HW0;obtain ⟨i,j,dk,rfl,rfl,hai,hij0,hjb,hsk,hw0,hI⟩:=hrel;obtain ⟨G,hG⟩:∃G:Nat→Int,∀t,G t=dk[t]! :=⟨fun t=>dk[t]!,fun _=>rfl⟩
  have HG:=Lib.hid hG;have HW:=Lib.hid hw0;have HI:=Lib.hid hI;clear hG hw0 hI;go_wp2_with fail;go_loopw [9] (UpRel w g q dk (fun x=> !ltInt dk[a]! x) i j) (fun v _=>j+1-natOf v)
  case atStart=>exact ⟨i,by first|rfl|(congr 1;omega),Nat.le_refl _,by omega,HW.out,rfl⟩
  case round=>
   obtain ⟨i1,rfl,hi1,hi2,hwa1,hU⟩:=hrel;have hcw:∀t,t<N→wr.cell? ⟨g,q+t,none⟩=some (.int .u32 (G t)):=fun t ht=>by rw [HG.out];exact hwa1.cell t (by omega)
   have hfw:∀t,t<N→wr.frozen? ⟨g,q+t,none⟩=false:=fun t ht=>hwa1.free t (by omega)
   have HW1:=Lib.hid hwa1;have HU:=Lib.hid hU;clear hwa1 hU
   by_cases hij:i1≤j
   ·have hijz:((i1:Nat):Int)≤((j:Nat):Int):=by omega
    go_wp2_with fail;go_quiet ((go_at_call 178;exact Calls.quiet_of_same (less_calls _ _ _)))
    go_wp2_with fail
    ·have hl:ltInt (G a) (G i1)=false:=not_true (show (!ltInt (G a) (G i1))=true by assumption)
     rw [HG.out,HG.out] at hl;go_roundw
     case rel=>exact ⟨i1+1,by go_num,by omega,by omega,HW1.out.drewN _,by rw [←HU.out,up_go _ _ _ _ hij (by simp [hl])]⟩
     case measure=>simp [natOf];omega
    ·have hl:ltInt (G a) (G i1)=true:=not_false (show (!ltInt (G a) (G i1))=false by assumption)
     rw [HG.out,HG.out] at hl;have hS:scanUp (fun x=> !ltInt dk[a]! x) dk j i=i1:=by rw [←HU.out];exact up_stop _ _ _ _ (Or.inr (by simp [hl]))
     have hE:i1≤j→(fun x=> !ltInt dk[a]! x) dk[i1]! =false:=fun _=>by simp [hl]
     generalize ltInt (G a) (G i1)=bq;have HS:=Lib.hid hS;have HE:=Lib.hid hE;have HW2:=Lib.hid (HW1.out.drewN nq)
     clear hS hE hcw hfw HW1 HU
     revert nq
     intro nq1 HW2;go_loopw [10] (DownRel w g q dk (fun x=>ltInt dk[a]! x) i1 j) (fun v _=>natOf v)
     case atStart=>exact ⟨j,by first|rfl|(congr 1;omega),by omega,Nat.le_refl _,HW2.out,rfl⟩
     case round=>
      obtain ⟨j1,rfl,hj1,hj2,hwd,hD⟩:=hrel;have hcw:∀t,t<N→wr.cell? ⟨g,q+t,none⟩=some (.int .u32 (G t)):=fun t ht=>by rw [HG.out];exact hwd.cell t (by omega)
      have hfw:∀t,t<N→wr.frozen? ⟨g,q+t,none⟩=false:=fun t ht=>hwd.free t (by omega)
      have HW3:=Lib.hid hwd;have HD:=Lib.hid hD;clear hwd hD HW2
      by_cases hij1:i1≤j1
      ·have hijz1:((i1:Nat):Int)≤((j1:Nat):Int):=by omega
       go_wp2_with fail;go_quiet ((go_at_call 178;exact Calls.quiet_of_same (less_calls _ _ _)))
       go_wp2_with fail
       ·have hl2:ltInt (G a) (G j1)=true:=by assumption
        rw [HG.out,HG.out] at hl2;go_roundw
        case rel=>exact ⟨j1-1,by congr 1;omega,by omega,by omega,HW3.out.drewN _,by rw [←HD.out,down_go _ _ _ _ hij1 (by omega) (by exact hl2)]⟩
        case measure=>simp [natOf];omega
       ·have hl2:ltInt (G a) (G j1)=false:=by assumption
        rw [HG.out,HG.out] at hl2;have hne:i1≠j1:=fun e=>by
         subst e;have h8:=HE.out (by omega)
         simp [hl2] at h8
        have hijlt:i1<j1:=by omega
        have hT:scanDown (fun x=>ltInt dk[a]! x) dk i1 j=j1:=by rw [←HD.out];exact down_stop _ _ _ _ (Or.inr (by exact hl2))
        have HT:=Lib.hid hT;have HW4:=Lib.hid (HW3.out.drewN nq)
        clear hT HW3 HD hcw hfw
        revert nq
        intro nq2 HW4;have hz:¬((j1:Nat):Int)<((i1:Nat):Int):=by omega
        go_wp2_with fail;have hcw:∀t,t<N→(wr.drewN nq2).cell? ⟨g,q+t,none⟩=some (.int .u32 (G t)):=fun t ht=>by rw [HG.out];exact HW4.out.cell t (by omega)
        have hfw:∀t,t<N→(wr.drewN nq2).frozen? ⟨g,q+t,none⟩=false:=fun t ht=>HW4.out.free t (by omega)
        have HW5:=Lib.hid ((HW4.out.swap i1 j1 (by omega) (by omega)))
        generalize wr.drewN nq2=wr3 at hcw hfw HW5 HW4 ⊢;go_region
        all_goals go_wp2_with fail
        go_roundw
        case rel=>
         refine ⟨i1+1,j1-1,swp dk i1 j1,by go_num,by congr 1;omega,by omega,by omega,by omega,by rw [size_swp];exact hsk,?_,?_⟩
         ·rw [HG.out,HG.out]
          exact HW5.out.drew
         ·have e:=parteq_step a i j i1 j1 dk HS.out HT.out (by omega) (by omega)
          rw [if_neg (by omega)] at e;rw [←e]
          exact HI.out
        case measure=>simp [natOf];omega
      ·have hijz1:¬((i1:Nat):Int)≤((j1:Nat):Int):=by omega
       go_wp2_with fail;go_quiet ((go_at_call 178;exact Calls.quiet_of_same (less_calls _ _ _)))
       go_wp2_with fail;have hT:scanDown (fun x=>ltInt dk[a]! x) dk i1 j=j1:=by rw [←HD.out];exact down_stop _ _ _ _ (Or.inl hij1)
       have HT:=Lib.hid hT;have HW4:=Lib.hid (HW3.out.drewN nq)
       clear hT HW3 HD hcw hfw
       revert nq
       intro nq2 HW4;go_upto_region 7 with fail;have hz:((j1:Nat):Int)<((i1:Nat):Int):=by omega
       go_wp2_with fail
       (try simp only [Exit.inBlock,Exit.then])
       go_ret;have e:=parteq_step a i j i1 j1 dk HS.out HT.out (by omega) (by omega)
       rw [if_pos (by omega)] at e;have hr:R=(i1,dk):=by rw [←HI.out,e]
       rw [hr]
       exact ⟨rfl,HW4.out⟩
   ·have hijz:¬((i1:Nat):Int)≤((j:Nat):Int):=by omega
    have hijb:decide (((i1:Nat):Int)≤((j:Nat):Int))=false:=decide_eq_false hijz;go_wp2_with fail;go_quiet ((go_at_call 178;exact Calls.quiet_of_same (less_calls _ _ _)))
    go_wp2_with fail;have hS:scanUp (fun x=> !ltInt dk[a]! x) dk j i=i1:=by rw [←HU.out];exact up_stop _ _ _ _ (Or.inl hij)
    have hE:i1≤j→(fun x=> !ltInt dk[a]! x) dk[i1]! =false:=fun h=>absurd h hij
    have HS:=Lib.hid hS;have HE:=Lib.hid hE;have HW2:=Lib.hid (HW1.out.drewN nq)
    clear hS hE hcw hfw HW1 HU
    revert nq
    intro nq1 HW2;go_loopw [10] (DownRel w g q dk (fun x=>ltInt dk[a]! x) i1 j) (fun v _=>natOf v)
    case atStart=>exact ⟨j,by first|rfl|(congr 1;omega),by omega,Nat.le_refl _,HW2.out,rfl⟩
    case round=>
     obtain ⟨j1,rfl,hj1,hj2,hwd,hD⟩:=hrel;have hcw:∀t,t<N→wr.cell? ⟨g,q+t,none⟩=some (.int .u32 (G t)):=fun t ht=>by rw [HG.out];exact hwd.cell t (by omega)
     have hfw:∀t,t<N→wr.frozen? ⟨g,q+t,none⟩=false:=fun t ht=>hwd.free t (by omega)
     have HW3:=Lib.hid hwd;have HD:=Lib.hid hD;clear hwd hD HW2
     by_cases hij1:i1≤j1
     ·exact absurd hij1 (by omega)
     ·have hijz1:¬((i1:Nat):Int)≤((j1:Nat):Int):=by omega
      go_wp2_with fail;go_quiet ((go_at_call 178;exact Calls.quiet_of_same (less_calls _ _ _)))
      go_wp2_with fail;have hT:scanDown (fun x=>ltInt dk[a]! x) dk i1 j=j1:=by rw [←HD.out];exact down_stop _ _ _ _ (Or.inl hij1)
      have HT:=Lib.hid hT;have HW4:=Lib.hid (HW3.out.drewN nq)
      clear hT HW3 HD hcw hfw
      revert nq
      intro nq2 HW4;go_upto_region 7 with fail;have hz:((j1:Nat):Int)<((i1:Nat):Int):=by omega
      go_wp2_with fail
      (try simp only [Exit.inBlock,Exit.then])
      go_ret;have e:=parteq_step a i j i1 j1 dk HS.out HT.out (by omega) (by omega)
      rw [if_pos (by omega)] at e;have hr:R=(i1,dk):=by rw [←HI.out,e]
      rw [hr]
      exact ⟨rfl,HW4.out⟩
end Srt
namespace Srt
open Go.RowKit Go.Sort Win Stp Lst
theorem part_size (a:Nat):∀(n i j:Nat) (d:Array Int),j+1-i≤n→(partLoop ltInt a i j d).2.size=d.size
 |0,i,j,d,h=>by
  rw [partLoop]
  split
  ·rfl
  ·rw [dif_neg (by omega)]
 |n+1,i,j,d,h=>by
  rw [partLoop]
  split
  ·rfl
  ·split
   ·rw [part_size a n _ _ _ (by omega),size_swp]
   ·rfl
theorem partition_size (a b p:Nat) (d:Array Int):(Sort.partition ltInt d a b p).2.2.size=d.size:=by
 unfold Sort.partition
 dsimp only
 split
 ·rw [size_swp,size_swp]
 ·dsimp only
  rw [size_swp,part_size a _ _ _ _ (Nat.le_refl _),size_swp,size_swp]
theorem partition_first (a b i1 j1 p:Nat) (d d1:Array Int) (hd:swp d a p=d1) (h1:scanUp (fun x=>ltInt x d1[a]!) d1 (b-1) (a+1)=i1) (h2:scanDown (fun x=> !ltInt x d1[a]!) d1 i1 (b-1)=j1):
  Sort.partition ltInt d a b p=if j1<i1 then (j1,true,swp d1 j1 a) else ((partLoop ltInt a (i1+1) (j1-1) (swp d1 i1 j1)).1,false,swp (partLoop ltInt a (i1+1) (j1-1) (swp d1 i1 j1)).2 (partLoop ltInt a (i1+1) (j1-1) (swp d1 i1 j1)).1 a):=by
 unfold Sort.partition;simp only [hd,h1,h2]
def PtRel (w:World) (g q a b N:Nat) (R:Nat×Array Int) (vi vj:Value) (wr:World):Prop:=
 ∃(i j:Nat) (dk:Array Int),vi= .int .i64 i∧vj= .int .i64 j∧a<i∧i≤j+1∧j<b∧dk.size=N∧On w g q dk wr∧partLoop ltInt a i j dk=R
def PartPost (w:World) (g q:Nat) (r:Nat×Bool×Array Int) (e:Ending) (w':World):Prop:=e= .returned (.tuple #[.int .i64 r.1,.bool r.2.1])∧On w g q r.2.2 w'
theorem swap_cell {w:World} {g q N:Nat} (a p:Nat) (v:Value) (hc:∀t,t<N→∃x,w.cell? ⟨g,q+t,none⟩=some x) (hf:∀t,t<N→w.frozen? ⟨g,q+t,none⟩=false) (ha:a<N) (hp:p<N):
  (∃y,(w.setCell ⟨g,q+a,none⟩ v).cell? ⟨g,q+p,none⟩=some y)∧(w.setCell ⟨g,q+a,none⟩ v).frozen? ⟨g,q+p,none⟩=false:=by
 refine ⟨?_,by rw [set_free];exact hf p hp⟩
 obtain ⟨x,hx⟩:=hc a ha;obtain ⟨x2,hx2⟩:=hc p hp
 by_cases e:a=p
 ·subst e
  exact ⟨_,World.cell?_setCell_same _ _ _ hx⟩
 ·exact ⟨_,(World.cell?_setCell_other _ _ _ _ (by intro hh;simp only [Addr.mk.injEq] at hh;omega)).trans hx2⟩
set_option maxHeartbeats 8000000 in
set_option maxRecDepth 1000000 in
theorem partition_calls (g q N cap a b p:Nat) (d:Array Int) (w:World) (hN:d.size=N) (hH:On w g q d w) (hab:a<b) (hb:b≤N) (hp:p<N) (hsz:N<1000000):
  Calls Tryz.prog 180 #[.slice (some ⟨g,q,none⟩) N cap,.int .i64 a,.int .i64 b,.int .i64 p] w (PartPost w g q (Sort.partition ltInt d a b p)):=by
 obtain ⟨G,hG⟩:∃G:Nat→Int,∀t,G t=d[t]! :=⟨fun t=>d[t]!,fun _=>rfl⟩
 have hcw:∀t,t<N→w.cell? ⟨g,q+t,none⟩=some (.int .u32 (G t)):=fun t ht=>by rw [hG];exact hH.cell t (by omega)
 have hfw:∀t,t<N→w.frozen? ⟨g,q+t,none⟩=false:=fun t ht=>hH.free t (by omega)
 obtain ⟨R,hR⟩:∃R,Sort.partition ltInt d a b p=R:=⟨_,rfl⟩
 rw [hR]
 obtain ⟨d1,hd1⟩:∃d1,swp d a p=d1:=⟨_,rfl⟩
 have HS:On w g q d1 (((w.setCell ⟨g,q+a,none⟩ (.int .u32 (G p))).setCell ⟨g,q+p,none⟩ (.int .u32 (G a))).drew):=by
  rw [←hd1,hG,hG]
  exact (hH.swap a p (by omega) (by omega)).drew
 have hs1:d1.size=N:=by rw [←hd1,size_swp];exact hN
 have HF:=Lib.hid (fun i1 j1 h1 h2=>hR▸partition_first a b i1 j1 p d d1 hd1 h1 h2)
 have HW9:=Lib.hid HS;obtain ⟨⟨y,hy⟩,hyf⟩:=swap_cell (N:=N) a p (.int .u32 (G p)) (fun t ht=>⟨_,hcw t ht⟩) hfw (by omega) hp;clear HS hG hR hH hd1;go_enter Tryz.func180,Tryz.ntmps180;go_upto_region 1 with fail;go_region
 all_goals go_wp2_with fail
 have HW0:=Lib.hid (show On w g q d1 _ from HW9.out)
 clear hcw hfw hy hyf HW9;generalize hw0:World.drew _=w0 at HW0 ⊢;clear hw0;obtain ⟨G,hG⟩:∃G:Nat→Int,∀t,G t=d1[t]! :=⟨fun t=>d1[t]!,fun _=>rfl⟩
 have HG:=Lib.hid hG;have HW:=HW0;clear hG HW0;go_loopw [10] (UpRel w g q d1 (fun x=>ltInt x d1[a]!) (a+1) (b-1)) (fun v _=>(b-1)+1-natOf v)
 case atStart=>exact ⟨(a+1),by first|rfl|(congr 1;omega),Nat.le_refl _,by omega,HW.out,rfl⟩
 case round=>
  obtain ⟨i1,rfl,hi1,hi2,hwa1,hU⟩:=hrel;have hcw:∀t,t<N→wr.cell? ⟨g,q+t,none⟩=some (.int .u32 (G t)):=fun t ht=>by rw [HG.out];exact hwa1.cell t (by omega)
  have hfw:∀t,t<N→wr.frozen? ⟨g,q+t,none⟩=false:=fun t ht=>hwa1.free t (by omega)
  have HW1:=Lib.hid hwa1;have HU:=Lib.hid hU;clear hwa1 hU
  by_cases hij:i1≤(b-1)
  ·have hijz:((i1:Nat):Int)≤(b:Int)-1:=by omega
   go_wp2_with fail;go_quiet ((go_at_call 178;exact Calls.quiet_of_same (less_calls _ _ _)))
   go_wp2_with fail
   ·have hl:ltInt (G i1) (G a)=true:=by assumption
    rw [HG.out,HG.out] at hl;go_roundw
    case rel=>exact ⟨i1+1,by go_num,by omega,by omega,HW1.out.drewN _,by rw [←HU.out,up_go _ _ _ _ hij (by exact hl)]⟩
    case measure=>simp [natOf];omega
   ·have hl:ltInt (G i1) (G a)=false:=by assumption
    rw [HG.out,HG.out] at hl;have hS:scanUp (fun x=>ltInt x d1[a]!) d1 (b-1) (a+1)=i1:=by rw [←HU.out];exact up_stop _ _ _ _ (Or.inr (by exact hl))
    have hE:i1≤(b-1)→(fun x=>ltInt x d1[a]!) d1[i1]! =false:=fun _=>by exact hl
    generalize ltInt (G i1) (G a)=bq;have HS:=Lib.hid hS;have HE:=Lib.hid hE;have HW2:=Lib.hid (HW1.out.drewN nq)
    clear hS hE hcw hfw HW1 HU
    revert nq
    intro nq1 HW2;go_loopw [11] (DownRel w g q d1 (fun x=> !ltInt x d1[a]!) i1 (b-1)) (fun v _=>natOf v)
    case atStart=>exact ⟨(b-1),by first|rfl|(congr 1;omega),by omega,Nat.le_refl _,HW2.out,rfl⟩
    case round=>
     obtain ⟨j1,rfl,hj1,hj2,hwd,hD⟩:=hrel;have hcw:∀t,t<N→wr.cell? ⟨g,q+t,none⟩=some (.int .u32 (G t)):=fun t ht=>by rw [HG.out];exact hwd.cell t (by omega)
     have hfw:∀t,t<N→wr.frozen? ⟨g,q+t,none⟩=false:=fun t ht=>hwd.free t (by omega)
     have HW3:=Lib.hid hwd;have HD:=Lib.hid hD;clear hwd hD HW2
     by_cases hij1:i1≤j1
     ·have hijz1:((i1:Nat):Int)≤((j1:Nat):Int):=by omega
      go_wp2_with fail;go_quiet ((go_at_call 178;exact Calls.quiet_of_same (less_calls _ _ _)))
      go_wp2_with fail
      ·have hl2:ltInt (G j1) (G a)=false:=not_true (show (!ltInt (G j1) (G a))=true by assumption)
       rw [HG.out,HG.out] at hl2;go_roundw
       case rel=>exact ⟨j1-1,by congr 1;omega,by omega,by omega,HW3.out.drewN _,by rw [←HD.out,down_go _ _ _ _ hij1 (by omega) (by simp [hl2])]⟩
       case measure=>simp [natOf];omega
      ·have hl2:ltInt (G j1) (G a)=true:=not_false (show (!ltInt (G j1) (G a))=false by assumption)
       rw [HG.out,HG.out] at hl2;have hne:i1≠j1:=fun e=>by
        subst e;have h8:=HE.out (by omega)
        simp [hl2] at h8
       have hijlt:i1<j1:=by omega
       have hT:scanDown (fun x=> !ltInt x d1[a]!) d1 i1 (b-1)=j1:=by rw [←HD.out];exact down_stop _ _ _ _ (Or.inr (by simp [hl2]))
       have HT:=Lib.hid hT;have HW4:=Lib.hid (HW3.out.drewN nq)
       clear hT HW3 HD hcw hfw
       revert nq
       intro nq2 HW4;have hz:¬((j1:Nat):Int)<((i1:Nat):Int):=by omega
       have e:=HF.out i1 j1 HS.out HT.out;rw [if_neg (by omega)] at e;obtain ⟨d2,hd2⟩:∃d2,swp d1 i1 j1=d2:=⟨_,rfl⟩
       obtain ⟨i0,hi0⟩:∃i0,i1+1=i0:=⟨_,rfl⟩
       obtain ⟨j0,hj0⟩:∃j0,j1-1=j0:=⟨_,rfl⟩
       rw [hd2,hi0,hj0] at e;have HR2:=Lib.hid e;clear e;go_upto_region 10 with fail;have hcw:∀t,t<N→(wr.drewN nq2).cell? ⟨g,q+t,none⟩=some (.int .u32 (G t)):=fun t ht=>by rw [HG.out];exact HW4.out.cell t (by omega)
       have hfw:∀t,t<N→(wr.drewN nq2).frozen? ⟨g,q+t,none⟩=false:=fun t ht=>HW4.out.free t (by omega)
       have HW5:=Lib.hid ((HW4.out.swap i1 j1 (by omega) (by omega)))
       generalize wr.drewN nq2=wr3 at hcw hfw HW5 HW4 ⊢;go_region
       all_goals go_wp2_with fail
       have HW6:=Lib.hid (show On w g q d2 (((wr3.setCell ⟨g,q+i1,none⟩ (.int .u32 (G j1))).setCell ⟨g,q+j1,none⟩ (.int .u32 (G i1))).drew) by rw [HG.out,HG.out,←hd2];exact HW5.out.drew)
       have hs2:d2.size=N:=by rw [←hd2,size_swp];exact hs1
       clear hcw hfw HW5 HW4 hd2 HF HS HT;go_loopw [10,11] (PtRel w g q a b N (partLoop ltInt a i0 j0 d2)) (fun vi vj _=>natOf vj+1-natOf vi)
       case atStart=>exact ⟨i0,j0,d2,by first|(congr 1;done)|(congr 1;omega),by congr 1;omega,by omega,by omega,by omega,hs2,HW6.out,rfl⟩
       case round=>
        clear HW6 HG;obtain ⟨i,j,dk,rfl,rfl,hai,hij0,hjb,hsk,hw0,hI⟩:=hrel;obtain ⟨G,hG⟩:∃G:Nat→Int,∀t,G t=dk[t]! :=⟨fun t=>dk[t]!,fun _=>rfl⟩
        have HG:=Lib.hid hG;have HW:=Lib.hid hw0;have HI:=Lib.hid hI;clear hG hw0 hI;go_wp2_with fail;go_loopw [10] (UpRel w g q dk (fun x=>ltInt x dk[a]!) i j) (fun v _=>j+1-natOf v)
        case atStart=>exact ⟨i,by first|rfl|(congr 1;omega),Nat.le_refl _,by omega,HW.out,rfl⟩
        case round=>
         obtain ⟨i1,rfl,hi1,hi2,hwb1,hU⟩:=hrel;have hcw:∀t,t<N→wr.cell? ⟨g,q+t,none⟩=some (.int .u32 (G t)):=fun t ht=>by rw [HG.out];exact hwb1.cell t (by omega)
         have hfw:∀t,t<N→wr.frozen? ⟨g,q+t,none⟩=false:=fun t ht=>hwb1.free t (by omega)
         have HW1:=Lib.hid hwb1;have HU:=Lib.hid hU;clear hwb1 hU
         by_cases hij:i1≤j
         ·have hijz:((i1:Nat):Int)≤((j:Nat):Int):=by omega
          go_wp2_with fail;go_quiet ((go_at_call 178;exact Calls.quiet_of_same (less_calls _ _ _)))
          go_wp2_with fail
          ·have hl:ltInt (G i1) (G a)=true:=by assumption
           rw [HG.out,HG.out] at hl;go_roundw
           case rel=>exact ⟨i1+1,by go_num,by omega,by omega,HW1.out.drewN _,by rw [←HU.out,up_go _ _ _ _ hij (by exact hl)]⟩
           case measure=>simp [natOf];omega
          ·have hl:ltInt (G i1) (G a)=false:=by assumption
           rw [HG.out,HG.out] at hl;have hS:scanUp (fun x=>ltInt x dk[a]!) dk j i=i1:=by rw [←HU.out];exact up_stop _ _ _ _ (Or.inr (by exact hl))
           have hE:i1≤j→(fun x=>ltInt x dk[a]!) dk[i1]! =false:=fun _=>by exact hl
           generalize ltInt (G i1) (G a)=bq;have HS:=Lib.hid hS;have HE:=Lib.hid hE;have HW2:=Lib.hid (HW1.out.drewN nq)
           clear hS hE hcw hfw HW1 HU
           revert nq
           intro nq1 HW2;go_loopw [11] (DownRel w g q dk (fun x=> !ltInt x dk[a]!) i1 j) (fun v _=>natOf v)
           case atStart=>exact ⟨j,by first|rfl|(congr 1;omega),by omega,Nat.le_refl _,HW2.out,rfl⟩
           case round=>
            obtain ⟨j1,rfl,hj1,hj2,hwd,hD⟩:=hrel;have hcw:∀t,t<N→wr.cell? ⟨g,q+t,none⟩=some (.int .u32 (G t)):=fun t ht=>by rw [HG.out];exact hwd.cell t (by omega)
            have hfw:∀t,t<N→wr.frozen? ⟨g,q+t,none⟩=false:=fun t ht=>hwd.free t (by omega)
            have HW3:=Lib.hid hwd;have HD:=Lib.hid hD;clear hwd hD HW2
            by_cases hij1:i1≤j1
            ·have hijz1:((i1:Nat):Int)≤((j1:Nat):Int):=by omega
             go_wp2_with fail;go_quiet ((go_at_call 178;exact Calls.quiet_of_same (less_calls _ _ _)))
             go_wp2_with fail
             ·have hl2:ltInt (G j1) (G a)=false:=not_true (show (!ltInt (G j1) (G a))=true by assumption)
              rw [HG.out,HG.out] at hl2;go_roundw
              case rel=>exact ⟨j1-1,by congr 1;omega,by omega,by omega,HW3.out.drewN _,by rw [←HD.out,down_go _ _ _ _ hij1 (by omega) (by simp [hl2])]⟩
              case measure=>simp [natOf];omega
             ·have hl2:ltInt (G j1) (G a)=true:=not_false (show (!ltInt (G j1) (G a))=false by assumption)
              rw [HG.out,HG.out] at hl2;have hne:i1≠j1:=fun e=>by
               subst e;have h8:=HE.out (by omega)
               simp [hl2] at h8
              have hijlt:i1<j1:=by omega
              have hT:scanDown (fun x=> !ltInt x dk[a]!) dk i1 j=j1:=by rw [←HD.out];exact down_stop _ _ _ _ (Or.inr (by simp [hl2]))
              have HT:=Lib.hid hT;have HW4:=Lib.hid (HW3.out.drewN nq)
              clear hT HW3 HD hcw hfw
              revert nq
              intro nq2 HW4;have hz:¬((j1:Nat):Int)<((i1:Nat):Int):=by omega
              go_wp2_with fail;have hcw:∀t,t<N→(wr.drewN nq2).cell? ⟨g,q+t,none⟩=some (.int .u32 (G t)):=fun t ht=>by rw [HG.out];exact HW4.out.cell t (by omega)
              have hfw:∀t,t<N→(wr.drewN nq2).frozen? ⟨g,q+t,none⟩=false:=fun t ht=>HW4.out.free t (by omega)
              have HW5:=Lib.hid ((HW4.out.swap i1 j1 (by omega) (by omega)))
              generalize wr.drewN nq2=wr3 at hcw hfw HW5 HW4 ⊢;go_region
              all_goals go_wp2_with fail
              go_roundw
              case rel=>
               refine ⟨i1+1,j1-1,swp dk i1 j1,by go_num,by congr 1;omega,by omega,by omega,by omega,by rw [size_swp];exact hsk,?_,?_⟩
               ·rw [HG.out,HG.out]
                exact HW5.out.drew
               ·have e:=part_step a i j i1 j1 dk HS.out HT.out (by omega) (by omega)
                rw [if_neg (by omega)] at e;rw [←e]
                exact HI.out
              case measure=>simp [natOf];omega
            ·have hijz1:¬((i1:Nat):Int)≤((j1:Nat):Int):=by omega
             go_wp2_with fail;go_quiet ((go_at_call 178;exact Calls.quiet_of_same (less_calls _ _ _)))
             go_wp2_with fail;have hT:scanDown (fun x=> !ltInt x dk[a]!) dk i1 j=j1:=by rw [←HD.out];exact down_stop _ _ _ _ (Or.inl hij1)
             have HT:=Lib.hid hT;have HW4:=Lib.hid (HW3.out.drewN nq)
             clear hT HW3 HD hcw hfw
             revert nq
             intro nq2 HW4;have hz:((j1:Nat):Int)<((i1:Nat):Int):=by omega
             have e:=part_step a i j i1 j1 dk HS.out HT.out (by omega) (by omega)
             rw [if_pos (by omega)] at e;have hr:=Lib.hid (show partLoop ltInt a i0 j0 d2=(j1,dk) by rw [←HI.out,e])
             clear e;go_upto_region 21 with fail;have HW6:=HW4;clear HW4;generalize wr.drewN nq2=wr3 at HW6 ⊢;have hcw:∀t,t<N→wr3.cell? ⟨g,q+t,none⟩=some (.int .u32 (G t)):=fun t ht=>by rw [HG.out];exact HW6.out.cell t (by omega)
             have hfw:∀t,t<N→wr3.frozen? ⟨g,q+t,none⟩=false:=fun t ht=>HW6.out.free t (by omega)
             have HW7:=Lib.hid ((HW6.out.swap j1 a (by omega) (by omega)).drew)
             obtain ⟨⟨y,hy⟩,hyf⟩:=swap_cell (N:=N) j1 a (.int .u32 (G a)) (fun t ht=>⟨_,hcw t ht⟩) hfw (by omega) (by omega)
             go_region
             all_goals go_wp2_with fail
             (try simp only [Exit.inBlock,Exit.then])
             refine bodyPost_ret (results_tmp2 rfl _ _ _) rfl ?_;rw [HR2.out,hr.out]
             refine ⟨rfl,?_⟩
             rw [HG.out,HG.out]
             exact HW7.out
         ·have hijz:¬((i1:Nat):Int)≤((j:Nat):Int):=by omega
          have hijb:decide (((i1:Nat):Int)≤((j:Nat):Int))=false:=decide_eq_false hijz;go_wp2_with fail;go_quiet ((go_at_call 178;exact Calls.quiet_of_same (less_calls _ _ _)))
          go_wp2_with fail;have hS:scanUp (fun x=>ltInt x dk[a]!) dk j i=i1:=by rw [←HU.out];exact up_stop _ _ _ _ (Or.inl hij)
          have hE:i1≤j→(fun x=>ltInt x dk[a]!) dk[i1]! =false:=fun h=>absurd h hij
          have HS:=Lib.hid hS;have HE:=Lib.hid hE;have HW2:=Lib.hid (HW1.out.drewN nq)
          clear hS hE hcw hfw HW1 HU
          revert nq
          intro nq1 HW2;go_loopw [11] (DownRel w g q dk (fun x=> !ltInt x dk[a]!) i1 j) (fun v _=>natOf v)
          case atStart=>exact ⟨j,by first|rfl|(congr 1;omega),by omega,Nat.le_refl _,HW2.out,rfl⟩
          case round=>
           obtain ⟨j1,rfl,hj1,hj2,hwd,hD⟩:=hrel;have hcw:∀t,t<N→wr.cell? ⟨g,q+t,none⟩=some (.int .u32 (G t)):=fun t ht=>by rw [HG.out];exact hwd.cell t (by omega)
           have hfw:∀t,t<N→wr.frozen? ⟨g,q+t,none⟩=false:=fun t ht=>hwd.free t (by omega)
           have HW3:=Lib.hid hwd;have HD:=Lib.hid hD;clear hwd hD HW2
           by_cases hij1:i1≤j1
           ·exact absurd hij1 (by omega)
           ·have hijz1:¬((i1:Nat):Int)≤((j1:Nat):Int):=by omega
            go_wp2_with fail;go_quiet ((go_at_call 178;exact Calls.quiet_of_same (less_calls _ _ _)))
            go_wp2_with fail;have hT:scanDown (fun x=> !ltInt x dk[a]!) dk i1 j=j1:=by rw [←HD.out];exact down_stop _ _ _ _ (Or.inl hij1)
            have HT:=Lib.hid hT;have HW4:=Lib.hid (HW3.out.drewN nq)
            clear hT HW3 HD hcw hfw
            revert nq
            intro nq2 HW4;have hz:((j1:Nat):Int)<((i1:Nat):Int):=by omega
            have e:=part_step a i j i1 j1 dk HS.out HT.out (by omega) (by omega)
            rw [if_pos (by omega)] at e;have hr:=Lib.hid (show partLoop ltInt a i0 j0 d2=(j1,dk) by rw [←HI.out,e])
            clear e;go_upto_region 21 with fail;have HW6:=HW4;clear HW4;generalize wr.drewN nq2=wr3 at HW6 ⊢;have hcw:∀t,t<N→wr3.cell? ⟨g,q+t,none⟩=some (.int .u32 (G t)):=fun t ht=>by rw [HG.out];exact HW6.out.cell t (by omega)
            have hfw:∀t,t<N→wr3.frozen? ⟨g,q+t,none⟩=false:=fun t ht=>HW6.out.free t (by omega)
            have HW7:=Lib.hid ((HW6.out.swap j1 a (by omega) (by omega)).drew)
            obtain ⟨⟨y,hy⟩,hyf⟩:=swap_cell (N:=N) j1 a (.int .u32 (G a)) (fun t ht=>⟨_,hcw t ht⟩) hfw (by omega) (by omega)
            go_region
            all_goals go_wp2_with fail
            (try simp only [Exit.inBlock,Exit.then])
            refine bodyPost_ret (results_tmp2 rfl _ _ _) rfl ?_;rw [HR2.out,hr.out]
            refine ⟨rfl,?_⟩
            rw [HG.out,HG.out]
            exact HW7.out
     ·have hijz1:¬((i1:Nat):Int)≤((j1:Nat):Int):=by omega
      go_wp2_with fail;go_quiet ((go_at_call 178;exact Calls.quiet_of_same (less_calls _ _ _)))
      go_wp2_with fail;have hT:scanDown (fun x=> !ltInt x d1[a]!) d1 i1 (b-1)=j1:=by rw [←HD.out];exact down_stop _ _ _ _ (Or.inl hij1)
      have HT:=Lib.hid hT;have HW4:=Lib.hid (HW3.out.drewN nq)
      clear hT HW3 HD hcw hfw
      revert nq
      intro nq2 HW4;have hz:((j1:Nat):Int)<((i1:Nat):Int):=by omega
      have e:=HF.out i1 j1 HS.out HT.out;rw [if_pos (by omega)] at e;have HR2:=Lib.hid e;clear e;go_upto_region 8 with fail;have HW6:=HW4;clear HW4;generalize wr.drewN nq2=wr3 at HW6 ⊢;have hcw:∀t,t<N→wr3.cell? ⟨g,q+t,none⟩=some (.int .u32 (G t)):=fun t ht=>by rw [HG.out];exact HW6.out.cell t (by omega)
      have hfw:∀t,t<N→wr3.frozen? ⟨g,q+t,none⟩=false:=fun t ht=>HW6.out.free t (by omega)
      have HW7:=Lib.hid ((HW6.out.swap j1 a (by omega) (by omega)).drew)
      obtain ⟨⟨y,hy⟩,hyf⟩:=swap_cell (N:=N) j1 a (.int .u32 (G a)) (fun t ht=>⟨_,hcw t ht⟩) hfw (by omega) (by omega)
      go_region
      all_goals go_wp2_with fail
      (try simp only [Exit.inBlock,Exit.then])
      refine bodyPost_ret (results_tmp2 rfl _ _ _) rfl ?_;rw [HR2.out]
      refine ⟨rfl,?_⟩
      rw [HG.out,HG.out]
      exact HW7.out
  ·have hijz:¬((i1:Nat):Int)≤(b:Int)-1:=by omega
   have hijb:decide (((i1:Nat):Int)≤(b:Int)-1)=false:=decide_eq_false hijz;go_wp2_with fail;go_quiet ((go_at_call 178;exact Calls.quiet_of_same (less_calls _ _ _)))
   go_wp2_with fail;have hS:scanUp (fun x=>ltInt x d1[a]!) d1 (b-1) (a+1)=i1:=by rw [←HU.out];exact up_stop _ _ _ _ (Or.inl hij)
   have hE:i1≤(b-1)→(fun x=>ltInt x d1[a]!) d1[i1]! =false:=fun h=>absurd h hij
   have HS:=Lib.hid hS;have HE:=Lib.hid hE;have HW2:=Lib.hid (HW1.out.drewN nq)
   clear hS hE hcw hfw HW1 HU
   revert nq
   intro nq1 HW2;go_loopw [11] (DownRel w g q d1 (fun x=> !ltInt x d1[a]!) i1 (b-1)) (fun v _=>natOf v)
   case atStart=>exact ⟨(b-1),by first|rfl|(congr 1;omega),by omega,Nat.le_refl _,HW2.out,rfl⟩
   case round=>
    obtain ⟨j1,rfl,hj1,hj2,hwd,hD⟩:=hrel;have hcw:∀t,t<N→wr.cell? ⟨g,q+t,none⟩=some (.int .u32 (G t)):=fun t ht=>by rw [HG.out];exact hwd.cell t (by omega)
    have hfw:∀t,t<N→wr.frozen? ⟨g,q+t,none⟩=false:=fun t ht=>hwd.free t (by omega)
    have HW3:=Lib.hid hwd;have HD:=Lib.hid hD;clear hwd hD HW2
    by_cases hij1:i1≤j1
    ·exact absurd hij1 (by omega)
    ·have hijz1:¬((i1:Nat):Int)≤((j1:Nat):Int):=by omega
     go_wp2_with fail;go_quiet ((go_at_call 178;exact Calls.quiet_of_same (less_calls _ _ _)))
     go_wp2_with fail;have hT:scanDown (fun x=> !ltInt x d1[a]!) d1 i1 (b-1)=j1:=by rw [←HD.out];exact down_stop _ _ _ _ (Or.inl hij1)
     have HT:=Lib.hid hT;have HW4:=Lib.hid (HW3.out.drewN nq)
     clear hT HW3 HD hcw hfw
     revert nq
     intro nq2 HW4;have hz:((j1:Nat):Int)<((i1:Nat):Int):=by omega
     have e:=HF.out i1 j1 HS.out HT.out;rw [if_pos (by omega)] at e;have HR2:=Lib.hid e;clear e;go_upto_region 8 with fail;have HW6:=HW4;clear HW4;generalize wr.drewN nq2=wr3 at HW6 ⊢;have hcw:∀t,t<N→wr3.cell? ⟨g,q+t,none⟩=some (.int .u32 (G t)):=fun t ht=>by rw [HG.out];exact HW6.out.cell t (by omega)
     have hfw:∀t,t<N→wr3.frozen? ⟨g,q+t,none⟩=false:=fun t ht=>HW6.out.free t (by omega)
     have HW7:=Lib.hid ((HW6.out.swap j1 a (by omega) (by omega)).drew)
     obtain ⟨⟨y,hy⟩,hyf⟩:=swap_cell (N:=N) j1 a (.int .u32 (G a)) (fun t ht=>⟨_,hcw t ht⟩) hfw (by omega) (by omega)
     go_region
     all_goals go_wp2_with fail
     (try simp only [Exit.inBlock,Exit.then])
     refine bodyPost_ret (results_tmp2 rfl _ _ _) rfl ?_;rw [HR2.out]
     refine ⟨rfl,?_⟩
     rw [HG.out,HG.out]
     exact HW7.out
end Srt
namespace Srt
open Go.RowKit Go.Sort Win Stp Lst
theorem set_set (w:World) (a:Addr) (v v':Value) (ha:a.spot=none):(w.setCell a v).setCell a v'=w.setCell a v':=by
 obtain ⟨b,o,s⟩:=a;subst ha;rw [setCell_eq,setCell_eq,mapBlock_mapBlock,setCell_eq]
 refine mapBlock_congr _ _ _ _ fun c _ _ _=>?_
 apply Array.ext_getElem?;intro k;simp only [Array.getElem?_setIfInBounds,Array.size_setIfInBounds]
 split <;>simp_all
def NextPost (w:World) (r X:Nat) (e:Ending) (w':World):Prop:=e= .returned (.int .u64 (xorNextN X:Nat))∧∃n,w'=(w.setCell ⟨r,0,none⟩ (.int .u64 (xorNextN X:Nat))).drewN n
set_option maxHeartbeats 4000000 in
set_option maxRecDepth 1000000 in
theorem next_calls (r X:Nat) (hX:X<18446744073709551616) (w:World) (hc:w.cell? ⟨r,0,none⟩=some (.int .u64 X)) (hf:w.frozen? ⟨r,0,none⟩=false):
  Calls Tryz.prog 186 #[.pointer (some ⟨r,0,none⟩)] w (NextPost w r X):=by
 obtain ⟨A,hA⟩:∃A:Nat,A=X^^^(X*8192%18446744073709551616):=⟨_,rfl⟩
 obtain ⟨B,hB⟩:∃B:Nat,B=A^^^(A/128):=⟨_,rfl⟩
 obtain ⟨C,hC⟩:∃C:Nat,C=B^^^(B*131072%18446744073709551616):=⟨_,rfl⟩
 have lA:A<18446744073709551616:=by rw [hA];exact Nat.xor_lt_two_pow (n:=64) (by omega) (by omega)
 have lB:B<18446744073709551616:=by rw [hB];exact Nat.xor_lt_two_pow (n:=64) (by omega) (by omega)
 have e1:bits .xor .u64 (X:Int) (IntKind.u64.wrap ((X:Int)*8192))=(A:Int):=by
  rw [IntKind.wrap_u64,show ((X:Int)*8192%18446744073709551616)=((X*8192%18446744073709551616:Nat):Int) by omega,bits_xor_u64_nat _ _ hX (by omega),hA]
 have e2:bits .xor .u64 (A:Int) ((A:Int)/128)=(B:Int):=by
  rw [show ((A:Int)/128)=((A/128:Nat):Int) by omega,bits_xor_u64_nat _ _ lA (by omega),hB]
 have e3:bits .xor .u64 (B:Int) (IntKind.u64.wrap ((B:Int)*131072))=(C:Int):=by
  rw [IntKind.wrap_u64,show ((B:Int)*131072%18446744073709551616)=((B*131072%18446744073709551616:Nat):Int) by omega,bits_xor_u64_nat _ _ lB (by omega),hC]
 have hv:xorNextN X=C:=by unfold xorNextN;simp only [];rw [←hA,←hB,←hC]
 unfold NextPost;rw [hv]
 clear hA hB hC hv;have hss:∀v v',(w.setCell ⟨r,0,none⟩ v).setCell ⟨r,0,none⟩ v'=w.setCell ⟨r,0,none⟩ v':=fun v v'=>set_set w _ v v' rfl
 go_enter Tryz.func186,Tryz.ntmps186;go_wp2_with fail;go_region
 all_goals go_wp2_with fail
 all_goals go_region
 all_goals go_wp2_with fail
 all_goals go_region
 all_goals go_wp2_with fail
 go_ret;exact ⟨rfl,⟨3,rfl⟩⟩
theorem pow_wrap (k:Nat) (hk:k≤62):IntKind.u64.wrap ((2:Int)^k)=((1<<<k:Nat):Int):=by
 have h:2^k<18446744073709551616:=Nat.lt_of_le_of_lt (Nat.pow_le_pow_right (by omega) hk) (by decide)
 rw [IntKind.wrap_u64,Nat.one_shiftLeft,show ((2:Int)^k)=((2^k:Nat):Int) by simp]
 generalize 2^k=z at h ⊢;omega
theorem len_half (x:Nat) (h:x≠0):bitsLen x=1+bitsLen (x/2):=by
 unfold bitsLen;rw [if_neg h,Nat.log2_def x]
 by_cases h2:2≤x
 ·rw [if_pos h2,if_neg (by omega)]
  omega
 ·rw [if_neg h2,if_pos (by omega)]
theorem len_aux:∀f x,x<2^f→Lib.bitLenAux f x=bitsLen x
 |0,x,h=>by
  obtain rfl:x=0:=by simpa using h
  rfl
 |f+1,x,h=>by
  rw [Lib.bitLenAux]
  by_cases h0:x=0
  ·subst h0
   rfl
  ·rw [if_neg h0,len_half x h0,len_aux f (x/2) (by rw [Nat.pow_succ] at h;omega)]
theorem len_eq (x:Nat) (h:x<2^64):Lib.bitLen x=bitsLen x:=len_aux 64 x h
set_option maxHeartbeats 4000000 in
theorem pow_calls (n:Nat) (hn:n<1000000) (w:World):Calls Tryz.prog 185 #[.int .i64 n] w fun e w'=>e= .returned (.int .u64 ((1<<<bitsLen n:Nat):Int))∧w'=w:=by
 have hLen:∀w,Calls Tryz.prog 169 #[.int .u64 (n:Int)] w fun e w'=>e= .returned (.int .i64 (bitsLen n:Nat))∧w'=w:=fun w=>by
  have h:=Tryz.bits_Len (n:Int) w (by omega) (by omega)
  rwa [Int.toNat_natCast,len_eq _ (by omega)] at h
 have hk:bitsLen n≤62:=(bitsLen_le_iff n 62).2 (by omega)
 have hp:=pow_wrap (bitsLen n) hk;have hw:IntKind.u64.wrap (n:Int)=n:=by rw [IntKind.wrap_u64];omega
 go_enter Tryz.func185,Tryz.ntmps185;go_wp2_with (go_at_call 169;refine (hLen _).mono ?_;rintro e w' ⟨rfl,rfl⟩)
 go_ret;exact ⟨rfl,rfl⟩
structure Rn (w:World) (g q:Nat) (d:Array Int) (r X:Nat) (w':World):Prop where
 cell:∀t,t<d.size→w'.cell? ⟨g,q+t,none⟩=some (.int .u32 d[t]!)
 free:∀t,t<d.size→w'.frozen? ⟨g,q+t,none⟩=false
 cnt:w'.cell? ⟨r,0,none⟩=some (.int .u64 X)
 fre:w'.frozen? ⟨r,0,none⟩=false
 ne:r≠g
 chg:Chg (fun i=>i=g∨i=r) w w'
 typ:Typ g w w'
theorem Rn.drewN {w w1:World} {g q r X:Nat} {d:Array Int} (h:Rn w g q d r X w1) (n:Nat):Rn w g q d r X (w1.drewN n):=⟨h.cell,h.free,h.cnt,h.fre,h.ne,h.chg.trans (Chg.drewN _ n),h.typ⟩
theorem Rn.drew {w w1:World} {g q r X:Nat} {d:Array Int} (h:Rn w g q d r X w1):Rn w g q d r X w1.drew:=⟨h.cell,h.free,h.cnt,h.fre,h.ne,h.chg.trans (Chg.drew _),h.typ⟩
theorem Rn.set {w w1:World} {g q r X:Nat} {d:Array Int} (h:Rn w g q d r X w1) (Y:Nat):Rn w g q d r Y (w1.setCell ⟨r,0,none⟩ (.int .u64 (Y:Nat))):=
 ⟨fun t ht=>by
  rw [World.cell?_setCell_other _ _ _ _ (by intro hh;simp only [Addr.mk.injEq] at hh;exact h.ne hh.1)]
  exact h.cell t ht,fun t ht=>by rw [set_free];exact h.free t ht,World.cell?_setCell_same _ _ _ h.cnt,by rw [set_free];exact h.fre,h.ne,h.chg.trans (Chg.set (S:=fun i=>i=g∨i=r) w1 (Or.inr rfl) 0 _),h.typ.trans (Typ.set _ _ _ _)⟩
theorem Rn.swap {w w1:World} {g q r X:Nat} {d:Array Int} (h:Rn w g q d r X w1) (j k:Nat) (hj:j<d.size) (hk:k<d.size) (hg:g<w1.heap.size):
  Rn w g q (swp d j k) r X ((w1.setCell ⟨g,q+j,none⟩ (.int .u32 d[k]!)).setCell ⟨g,q+k,none⟩ (.int .u32 d[j]!)):=by
 have h1:On w1 g q d w1:=⟨h.cell,h.free,Chg.refl _,hg,Typ.refl _ _⟩
 have h2:=h1.swap j k hj hk;refine ⟨h2.cell,h2.free,?_,?_,h.ne,h.chg.trans (h2.chg.mono (fun i hi=>Or.inl hi)),h.typ.trans h2.typ⟩
 ·rw [World.cell?_setCell_other _ _ _ _ (by intro hh;simp only [Addr.mk.injEq] at hh;exact h.ne hh.1.symm),World.cell?_setCell_other _ _ _ _ (by intro hh;simp only [Addr.mk.injEq] at hh;exact h.ne hh.1.symm)]
  exact h.cnt
 ·rw [set_free,set_free]
  exact h.fre
theorem On.rn {w:World} {g q:Nat} {d:Array Int} (h:On w g q d w) (t:TypeId) (X:Nat):Rn (w.alloc (.cells #[.int .u64 X] t (0,0))) g q d w.heap.size X (w.alloc (.cells #[.int .u64 X] t (0,0))):=by
 have hb:Below w.heap.size w (w.alloc (.cells #[.int .u64 X] t (0,0))):=(Below.refl _ _).alloc (Nat.le_refl _) _;exact ⟨(On.below h.old hb h).cell,(On.below h.old hb h).free,cell_of (heap_alloc_new _ _) 0,frozen_of (heap_alloc_new _ _) 0,fun e=>by have:=h.old;omega,Chg.refl _,Typ.refl _ _⟩
theorem Rn.on {w w1:World} {g q X:Nat} {d:Array Int} {o:Obj} (hw:g<w.heap.size) (h:Rn (w.alloc o) g q d w.heap.size X w1):On w g q d w1:=
 ⟨h.cell,h.free,chg_then (Chg.alloc (S:=fun i=>i=g) w o) h.chg (fun i hi e=>by rcases e with e|e;exact e;exact absurd hi (by omega)),hw,(Typ.alloc hw o).trans h.typ⟩
def bst (a l M s:Nat) (d:Array Int):Nat→UInt64×Array Int
 |0=>(UInt64.ofNat l,d)
 |t+1=>breakStep a l M (bst a l M s d t) (s+t)
theorem bst_size (a l M s:Nat) (d:Array Int):∀t,(bst a l M s d t).2.size=d.size
 |0=>rfl
 |t+1=>by
  show (breakStep a l M (bst a l M s d t) (s+t)).2.size=_
  unfold breakStep
  dsimp only
  rw [size_swp,bst_size a l M s d t]
theorem break_bst (a b l:Nat) (d:Array Int) (hl:b-a=l) (h8:8≤l):breakPatterns d a b=(bst a l (1<<<bitsLen l) (a+(l/4)*2-1) d 3).2:=by
 unfold breakPatterns;simp only [hl]
 rw [if_pos h8]
 rfl
def BkRel (w:World) (g q a l M s N:Nat) (d:Array Int) (r:Nat) (v:Value) (wr:World):Prop:=
 ∃t,t≤3∧v= .int .i64 ((s+t:Nat):Int)∧Rn w g q (bst a l M s d t).2 r (bst a l M s d t).1.toNat wr
set_option maxHeartbeats 4000000 in
set_option maxRecDepth 1000000 in
theorem break_calls (g q N cap a b l:Nat) (d:Array Int) (w:World) (hN:d.size=N) (hH:On w g q d w) (hl:b=a+l) (hb:b≤N) (h8:8≤l) (hsz:N<1000000):
  Calls Tryz.prog 174 #[.slice (some ⟨g,q,none⟩) N cap,.int .i64 a,.int .i64 b] w (Done w g q (breakPatterns d a b)):=by
 rw [break_bst a b l d (by omega) h8]
 have hM1:l<1<<<bitsLen l:=by rw [Nat.one_shiftLeft];exact lt_two_pow_bitsLen l
 have hM2:1<<<bitsLen l≤2*l:=by rw [Nat.one_shiftLeft];exact two_pow_bitsLen_le (by omega)
 have cp:=pow_calls l (by omega)
 generalize 1<<<bitsLen l=M at hM1 hM2 cp ⊢;obtain ⟨s,hs⟩:∃s,s=a+(l/4)*2-1:=⟨_,rfl⟩
 rw [←hs]
 have hsb:s+2<N:=by omega
 have h8z:(8:Int)≤(l:Int):=by omega
 have hR:=hH.rn 265 l;have CP:=Lib.hid cp;have HO:=Lib.hid hH.old;have HL:=Lib.hid hl;have hd:((b:Int)-a)=(l:Int):=by omega
 have hwl:IntKind.u64.wrap (l:Int)=l:=by rw [IntKind.wrap_u64];omega
 have HSD:=Lib.hid hs;clear cp hH hl hs;go_enter Tryz.func174,Tryz.ntmps174;go_upto_region 4 with (go_at_call 185;refine (CP.out _).mono ?_;rintro e w' ⟨rfl,rfl⟩)
 go_wp2_with fail;rw [show ((a:Int)+(l:Int)/4*2-1)=(s:Int) by have:=HSD.out;omega]
 go_loopw [9] (BkRel (w.alloc (.cells #[.int .u64 l] 265 (0,0))) g q a l M s N d w.heap.size) (fun v _=>s+3-natOf v)
 case atStart=>exact ⟨0,by omega,rfl,by rw [show (bst a l M s d 0).1.toNat=l by show (UInt64.ofNat l).toNat=l;rw [UInt64.toNat_ofNat'];omega];exact hR⟩
 case round=>
  obtain ⟨t,ht,rfl,hw1⟩:=hrel;have hk:=bst_size a l M s d t;rw [hN] at hk
  by_cases ht3:t<3
  ·have hle:(s:Int)+(t:Int)≤(a:Int)+(l:Int)/4*2+1:=by have:=HSD.out;omega
   obtain ⟨X,hX⟩:∃X,X=(bst a l M s d t).1.toNat:=⟨_,rfl⟩
   have lX:X<18446744073709551616:=by rw [hX];exact UInt64.toNat_lt _
   obtain ⟨dk,hdk⟩:∃dk,dk=(bst a l M s d t).2:=⟨_,rfl⟩
   rw [←hX,←hdk] at hw1;rw [←hdk] at hk;obtain ⟨R,hRR⟩:∃R,R=xorNextN X:=⟨_,rfl⟩
   have lR:R<18446744073709551616:=by rw [hRR];exact xorNextN_lt X lX
   obtain ⟨O,hO⟩:∃O,O=R&&&(M-1):=⟨_,rfl⟩
   have lO:O≤M-1:=by rw [hO];exact Nat.and_le_right
   have eO:bits .and .u64 (R:Int) ((M:Int)-1)=(O:Int):=by
    rw [show ((M:Int)-1)=((M-1:Nat):Int) by omega,bits_and_u64_nat _ _ lR (by omega),hO]
   have eX:(xorNext (bst a l M s d t).1).toNat=R:=by rw [xorNext_toNat,←hX,hRR]
   have hst:∀o,o=(if O≥l then O-l else O)→(bst a l M s d (t+1)).2=swp dk (s+t) (a+o):=fun o ho=>by
    show (breakStep a l M (bst a l M s d t) (s+t)).2=_
    unfold breakStep
    dsimp only
    rw [eX,←hO,←hdk,ho]
   have hx2:(bst a l M s d (t+1)).1.toNat=R:=eX;have cn:=next_calls w.heap.size X lX wr hw1.cnt hw1.fre;unfold NextPost at cn;rw [←hRR] at cn;have CN:=Lib.hid cn;have HW2:=Lib.hid hw1;have HS1:=Lib.hid hst;have HX:=Lib.hid hx2;have hgw:g<wr.heap.size:=by
    exact Nat.lt_of_lt_of_le HO.out (Nat.le_trans (Chg.alloc (S:=fun _=>True) w (.cells #[.int .u64 l] 265 (0,0))).size hw1.chg.size)
   clear cn hw1 hst hx2 eX hO hRR hX hdk hR;go_upto_region 8 with (go_at_call 186;refine CN.out.mono ?_;rintro e w' ⟨rfl,n1,rfl⟩)
   have HW3:=Lib.hid ((HW2.out.set R).drewN n1)
   have hgw2:g<((wr.setCell ⟨w.heap.size,0,none⟩ (.int .u64 (R:Nat))).drewN n1).heap.size:=by
    have:=(Chg.set (S:=fun _=>True) wr (g:=w.heap.size) trivial 0 (.int .u64 (R:Nat))).size;exact Nat.lt_of_lt_of_le hgw this
   clear CN HW2 hgw;generalize (wr.setCell ⟨w.heap.size,0,none⟩ (.int .u64 (R:Nat))).drewN n1=wr2 at HW3 hgw2 ⊢;have hgw:=hgw2;clear hgw2;obtain ⟨G,hG⟩:∃G:Nat→Int,∀t,G t=dk[t]! :=⟨fun t=>dk[t]!,fun _=>rfl⟩
   have hcw:∀t,t<N→wr2.cell? ⟨g,q+t,none⟩=some (.int .u32 (G t)):=fun t ht=>by rw [hG];exact HW3.out.cell t (by omega)
   have hfw:∀t,t<N→wr2.frozen? ⟨g,q+t,none⟩=false:=fun t ht=>HW3.out.free t (by omega)
   have HG:=Lib.hid hG;clear hG;have haN:a+l≤N:=by have:=HL.out;omega
   by_cases hOl:l≤O
   ·have hOz:(l:Int)≤(O:Int):=by omega
    obtain ⟨⟨y,hy⟩,hyf⟩:=swap_cell (N:=N) (s+t) (a+(O-l)) (.int .u32 (G (a+(O-l)))) (fun t ht=>⟨_,hcw t ht⟩) hfw (by omega) (by omega)
    have hsub:((O:Int)-(l:Int))=((O-l:Nat):Int):=by omega
    go_wp2_with fail;go_region
    all_goals go_wp2_with fail
    go_roundw
    case rel=>
     refine ⟨t+1,by omega,by first|(congr 1;done)|(congr 1;omega),?_⟩
     rw [HS1.out (O-l) (if_pos hOl).symm]
     have h9:=(HW3.out.swap (s+t) (a+(O-l)) (by omega) (by omega) hgw).drew;rw [←HG.out,←HG.out] at h9;rw [HX.out]
     exact h9
    case measure=>simp [natOf];omega
   ·have hOz:¬(l:Int)≤(O:Int):=by omega
    obtain ⟨⟨y,hy⟩,hyf⟩:=swap_cell (N:=N) (s+t) (a+(O)) (.int .u32 (G (a+(O)))) (fun t ht=>⟨_,hcw t ht⟩) hfw (by omega) (by omega)
    go_wp2_with fail;go_region
    all_goals go_wp2_with fail
    go_roundw
    case rel=>
     refine ⟨t+1,by omega,by first|(congr 1;done)|(congr 1;omega),?_⟩
     rw [HS1.out O (if_neg hOl).symm]
     have h9:=(HW3.out.swap (s+t) (a+(O)) (by omega) (by omega) hgw).drew;rw [←HG.out,←HG.out] at h9;rw [HX.out]
     exact h9
    case measure=>simp [natOf];omega
  ·have hle:¬((s:Int)+(t:Int)≤(a:Int)+(l:Int)/4*2+1):=by have:=HSD.out;omega
   have hD:=hw1.on HO.out;rw [show t=3 by omega] at hD;have HD:=Lib.hid hD;clear hD hw1 hk hR;go_wp2_with fail;go_end0;exact ⟨rfl,HD.out⟩
end Srt
end Go.Proofs.YtooiooledeblmaaGreat
