/- Functions and their walks, written by a program of this session (the kit's print, called for functions of my choice). The eight windows in memory: what each function of the package window does to them; every window, every number. -/
import Derived.Test.YtooiooledeblmaaGreatZ2
import Derived.Test.YtooiooledeblmaaGreatProg
import Derived.Below
import Derived.Deep.Draws
import Derived.Deep.AppendLies
import Derived.Maps.AppendAt
import Derived.OwnWalk
import Derived.Laws.BytesArg
import Derived.Laws.MakeOwn
import Derived.Laws.OwnMore
import Derived.Deep.OwnRows
import Derived.Tactics
import Derived.Lib.ConvBytes
import Derived.Laws.Slices
import Derived.WalkKit
import Derived.KernelRfl
import Derived.RowKit3
import Derived.Deep.LoopGhost
import Derived.Deep.QuietTactic
import Derived.BigQuiet
import Derived.WideLaws
import Derived.Deep.DeepCutAuto
import Derived.Deep.CutBlock
import Derived.Deep.RegionHeld3
import Derived.Laws.Rows
import Derived.Lib.AppendStr
import Derived.ArgAppend
import Derived.Laws.IdiomCopy
import Derived.OrdersHeld
import Derived.Laws.BitsLemmas
import Derived.RowKit
import Derived.Lib.Hide
import Derived.Laws.Bits64
import Derived.WalkLawsBesides
import Derived.Deep.RegionWith
set_option linter.unusedVariables false
set_option linter.unusedSimpArgs false
namespace Go.Proofs.YtooiooledeblmaaGreat
namespace QBp
open Go.RowKit Go.Proofs.YtooiooledeblmaaGreatW.PrintWords Go.Proofs.YtooiooledeblmaaGreatW.PrintLast Go.Proofs.YtooiooledeblmaaGreatW.PrintMore
attribute [local go_sem] max2_int min2_int max_two min_two max_three min_three max_four min_four
def errW:Option Int→Value
 |none=> .nilIface
 |some c=> .iface 0 (.int .i64 c)
theorem errW_none:errW none= .nilIface:=rfl
theorem errW_some (c:Int):errW (some c)= .iface 0 (.int .i64 c):=rfl
theorem info5:(Tryz.prog.info? 5).map (fun i=>(i.zero,i.size,i.bytes))=some (some (.int .u8 0),1,1):=by kernel_rfl
end QBp
namespace QBp
open Go.RowKit Go.Proofs.YtooiooledeblmaaGreatW.PrintWords Go.Proofs.YtooiooledeblmaaGreatW.PrintLast Go.Proofs.YtooiooledeblmaaGreatW.PrintMore
attribute [local go_sem] max2_int min2_int max_two min_two max_three min_three max_four min_four
def bias_small.f (a0:Int):Option (Int):=some (mn (mx a0 0) 1000)
set_option maxHeartbeats 8000000 in
set_option maxRecDepth 100000 in
theorem bias_small.calls (a0:Int) (r:Int) (w:World) (h:bias_small.f a0=some r):
  Calls Tryz.prog 183 #[.int .i64 a0] w fun e w'=>e= .returned (.int .i64 r)∧Below w.heap.size w w':=by
 have HB:=Aside0.mk (Below.refl w.heap.size w)
 have H:(some (mn (mx a0 0) 1000))=some r:=h;clear h;obtain ⟨ji2,hji2⟩:∃j_:Int,(mx a0 0)=j_:=⟨_,rfl⟩
 replace H:(some (mn (ji2) 1000))=some r:=by first|(rw [hji2] at H;exact H)|(simp only [hji2] at H ⊢;exact H)
 (try (have hji2l:0≤ji2:=by (rw [←hji2];unfold mx;(repeat' split) <;>omega)))
 (try (have hji2m:0≤ji2:=by omega))
 have hji2_:(if a0<0 then 0 else a0)=ji2:=hji2;obtain ⟨ji3,hji3⟩:∃j_:Int,(mn (ji2) 1000)=j_:=⟨_,rfl⟩
 replace H:(some ji3)=some r:=by first|(rw [hji3] at H;exact H)|(simp only [hji3] at H ⊢;exact H)
 have hji3_:(if 1000<(ji2) then 1000 else (ji2))=ji3:=hji3;obtain rfl:=Option.some.inj H;go_enter Tryz.func183,Tryz.ntmps183;go_wp2;go_ret;exact ⟨by first|rfl|(simp [errW_none,errW_some] <;>rfl)|(simp only [←hji2,←hji3];first|rfl|(simp [errW_none,errW_some] <;>rfl))|(simp [*,errW_none,errW_some] <;>rfl),by repeat (first|(with_reducible first|exact HB.out|apply below_alloc|apply pw_below_drewN|apply below_drew1)|exact HB.out)⟩
def bias_Threshold.f (a0:Int) (a1:Int):Option (Int):=(bias_small.f a0).bind fun t101=>((bias_small.f a1).bind fun t102=>(some (mn (mx (wrap64 ((wrap64 (36*(wrap64 (t101+1))))-t102)) 1) 26)))
set_option maxHeartbeats 8000000 in
set_option maxRecDepth 100000 in
theorem bias_Threshold.calls (a0:Int) (a1:Int) (r:Int) (w:World) (h:bias_Threshold.f a0 a1=some r):
  Calls Tryz.prog 170 #[.int .i64 a0,.int .i64 a1] w fun e w'=>e= .returned (.int .i64 r)∧Below w.heap.size w w':=by
 have HB:=Aside0.mk (Below.refl w.heap.size w)
 have H:((bias_small.f a0).bind fun t101=>((bias_small.f a1).bind fun t102=>(some (mn (mx (wrap64 ((wrap64 (36*(wrap64 (t101+1))))-t102)) 1) 26))))=some r:=h;clear h
 replace H:=Option.bind_eq_some_iff.mp H
 obtain ⟨t101,A30,H⟩:=H
 replace H:((bias_small.f a1).bind fun t102=>(some (mn (mx (wrap64 ((wrap64 (36*(wrap64 (t101+1))))-t102)) 1) 26)))=some r:=H
 have A3:=Aside0.mk A30;clear A30
 replace H:=Option.bind_eq_some_iff.mp H
 obtain ⟨t102,A40,H⟩:=H
 replace H:(some (mn (mx (wrap64 ((wrap64 (36*(wrap64 (t101+1))))-t102)) 1) 26))=some r:=H
 have A4:=Aside0.mk A40;clear A40;obtain ⟨ji5,hji5⟩:∃j_:Int,(mx (wrap64 ((wrap64 (36*(wrap64 (t101+1))))-t102)) 1)=j_:=⟨_,rfl⟩
 replace H:(some (mn (ji5) 26))=some r:=by first|(rw [hji5] at H;exact H)|(simp only [hji5] at H ⊢;exact H)
 (try rw [hji5] at A3)
 (try rw [hji5] at A4)
 (try (have hji5l:1≤ji5:=by (rw [←hji5];unfold mx;(repeat' split) <;>omega)))
 (try (have hji5m:0≤ji5:=by omega))
 have hji5_:(if (wrap64 ((wrap64 (36*(wrap64 (t101+1))))-t102))<1 then 1 else (wrap64 ((wrap64 (36*(wrap64 (t101+1))))-t102)))=ji5:=hji5;obtain ⟨ji6,hji6⟩:∃j_:Int,(mn (ji5) 26)=j_:=⟨_,rfl⟩
 replace H:(some ji6)=some r:=by first|(rw [hji6] at H;exact H)|(simp only [hji6] at H ⊢;exact H)
 (try rw [hji6] at A3)
 (try rw [hji6] at A4)
 have hji6_:(if 26<(ji5) then 26 else (ji5))=ji6:=hji6;obtain rfl:=Option.some.inj H;go_enter Tryz.func170,Tryz.ntmps170;go_wp2_with (first|((with_reducible refine gate_callee (f:=183) rfl ?_);refine goesL_ (some 6) rfl rfl Tryz.func183 (by kernel_rfl) rfl #[.int .i64 a0] rfl (by (try simp only [List.map_toArray,List.map_cons,List.map_nil]);first|done|rfl|(simp only [List.length_drop,List.length_take];rfl)) ?_;(with_reducible refine (bias_small.calls a0 t101 _ A3.out).mono ?_);rintro e w7 ⟨rfl,hb⟩;refine ⟨_,rfl,?_⟩;have n0_:=Aside0.mk (below_step (by repeat (first|(with_reducible first|exact HB.out|apply below_alloc|apply pw_below_drewN|apply below_drew1)|exact HB.out)) hb);clear HB;have HB:=n0_;clear n0_;(try clear hb);(try clear hb2);(try clear hk);(try clear hi))|((with_reducible refine gate_callee (f:=183) rfl ?_);refine goesL_ (some 10) rfl rfl Tryz.func183 (by kernel_rfl) rfl #[.int .i64 a1] rfl (by (try simp only [List.map_toArray,List.map_cons,List.map_nil]);first|done|rfl|(simp only [List.length_drop,List.length_take];rfl)) ?_;(with_reducible refine (bias_small.calls a1 t102 _ A4.out).mono ?_);rintro e w8 ⟨rfl,hb⟩;refine ⟨_,rfl,?_⟩;have n0_:=Aside0.mk (below_step (by repeat (first|(with_reducible first|exact HB.out|apply below_alloc|apply pw_below_drewN|apply below_drew1)|exact HB.out)) hb);clear HB;have HB:=n0_;clear n0_;(try clear hb);(try clear hb2);(try clear hk);(try clear hi)))
 go_ret;exact ⟨by first|rfl|(simp [errW_none,errW_some] <;>rfl)|(simp only [←hji5,←hji6];first|rfl|(simp [errW_none,errW_some] <;>rfl))|(simp [*,errW_none,errW_some] <;>rfl),by repeat (first|(with_reducible first|exact HB.out|apply below_alloc|apply pw_below_drewN|apply below_drew1)|exact HB.out)⟩
def bias_Letter.j0:Nat→Int→Bool→Option (Int×Bool)
 |0,_,_=>none
 |k+1,x0,x4=>if x4=true then (some (0,false)) else (if x0<26 then (some ((97+((x0)%256))%256,true)) else (some ((48+((wrap64 (x0-26))%256))%256,true)))
def bias_Letter.f (k:Nat) (a0:Int):Option (Int×Bool):=if a0<0 then (bias_Letter.j0 k a0 true) else (bias_Letter.j0 k a0 (decide (a0≥36)))
theorem bias_Letter.mono_l:∀k,(∀y0 y1,LeO (bias_Letter.j0 k y0 y1) (bias_Letter.j0 (k+1) y0 y1))
 |0=>fun _ _ r h=>by simp [bias_Letter.j0] at h
 |k+1=>by
  have ih0:=bias_Letter.mono_l k
  ·intro y0 y1
   unfold bias_Letter.j0
   repeat' first
   |(with_reducible exact ih0 _ _)
   |(with_reducible exact LeO.refl _)
   |(with_reducible exact LeO.none _)
   |(with_reducible refine LeO.ite ?_ ?_)
   |(with_reducible refine LeO.bind ?_ (fun _=>?_))
   |exact ih0 _ _
   |exact LeO.none _
   |refine LeO.ite ?_ ?_
   |refine LeO.bind ?_ (fun _=>?_)
theorem bias_Letter.mono:∀a0 k,LeO (bias_Letter.f k a0) (bias_Letter.f (k+1) a0):=by
 intro a0 k;have ih0:=bias_Letter.mono_l k;unfold bias_Letter.f
 repeat' first
   |(with_reducible exact ih0 _ _)
   |(with_reducible exact LeO.refl _)
   |(with_reducible exact LeO.none _)
   |(with_reducible refine LeO.ite ?_ ?_)
   |(with_reducible refine LeO.bind ?_ (fun _=>?_))
   |exact ih0 _ _
   |exact LeO.none _
   |refine LeO.ite ?_ ?_
   |refine LeO.bind ?_ (fun _=>?_)
set_option maxHeartbeats 8000000 in
set_option maxRecDepth 100000 in
theorem bias_Letter.calls (k:Nat) (a0:Int) (r1:Int) (r2:Bool) (w:World) (h:bias_Letter.f k a0=some (r1,r2)):
  Calls Tryz.prog 171 #[.int .i64 a0] w fun e w'=>e= .returned (.tuple #[.int .u8 r1,.bool r2])∧Drawn0 w w':=by
 have H:(if a0<0 then (bias_Letter.j0 k a0 true) else (bias_Letter.j0 k a0 (decide (a0≥36))))=some (r1,r2):=h;clear h;have HC2:=Aside0.mk H;clear H;go_enter Tryz.func171,Tryz.ntmps171;go_upto_region 1 with (fail)
 go_cut [4] (fun v4 wc=>∃(kq:Nat) (x4_1:Bool),v4= .bool x4_1∧Aside0 (bias_Letter.j0 kq a0 x4_1=some (r1,r2))∧Aside0 (kq≤k)∧Drawn0 w wc)
 case first=>
  have H:=HC2.out;clear HC2
  by_cases c3:a0<0
  ·rw [if_pos c3] at H
   have c3b0:decide (a0<0)=true:=decide_eq_true c3;clear c3
   (first|rw [c3b0]|(simp only [i64_w,i32_w];rw [c3b0])|skip)
   have H':=Aside0.mk H;clear H;go_wp2;go_meet
   case rel=>exact ⟨_,(true),(by first|rfl|(simp;done)|(simp [*];done)),H',⟨by first|omega|exact Nat.le_refl _⟩,by repeat (first|exact Drawn0.refl _|apply Drawn0.step)⟩
  ·rw [if_neg c3] at H
   have c3b0:decide (a0<0)=false:=decide_eq_false c3;clear c3
   (first|rw [c3b0]|(simp only [i64_w,i32_w];rw [c3b0])|skip)
   have H':=Aside0.mk H;clear H;go_wp2;go_meet
   case rel=>exact ⟨_,(decide (a0≥36)),(by first|rfl|(simp;done)|(simp [*];done)),H',⟨by first|omega|exact Nat.le_refl _⟩,by repeat (first|exact Drawn0.refl _|apply Drawn0.step)⟩
 case rest=>
  clear HC2
  try clear c1
  try clear p2
  try clear c3
  try clear c3b0
  obtain ⟨kq,x4_1,rfl,HA,HJ1,⟨mc1,rfl⟩⟩:=hcut
  cases kq with
  |zero=>exact absurd HA.out (by simp [bias_Letter.j0])
  |succ kj1=>
   have H:=HA.out;clear HA;simp only [bias_Letter.j0] at H
   by_cases c4:x4_1=true
   ·subst c4
    have H1:(some (0,false))=some (r1,r2):=by rw [if_pos rfl] at H;exact H
    clear H;have H:=H1;clear H1;simp only [Option.some.injEq,Prod.mk.injEq] at H;obtain ⟨rfl,rfl⟩:=H;go_wp2;go_ret2;exact ⟨by first|rfl|(simp;done)|(simp [*];done),by repeat (first|exact Drawn0.refl _|apply Drawn0.step)⟩
   ·replace c4:=Bool.eq_false_iff.mpr c4
    subst c4;have H1:(if a0<26 then (some ((97+((a0)%256))%256,true)) else (some ((48+((wrap64 (a0-26))%256))%256,true)))=some (r1,r2):=by rw [if_neg (show ¬(false=true) by decide)] at H;exact H
    clear H;have H:=H1;clear H1
    by_cases c5:a0<26
    ·rw [if_pos c5] at H
     have c5b0:decide (a0<26)=true:=decide_eq_true c5;clear c5;simp only [Option.some.injEq,Prod.mk.injEq] at H;obtain ⟨rfl,rfl⟩:=H;go_wp2;go_ret2;exact ⟨by first|rfl|(simp;done)|(simp [*];done),by repeat (first|exact Drawn0.refl _|apply Drawn0.step)⟩
    ·rw [if_neg c5] at H
     have c5b0:decide (a0<26)=false:=decide_eq_false c5;clear c5;simp only [Option.some.injEq,Prod.mk.injEq] at H;obtain ⟨rfl,rfl⟩:=H;go_wp2;go_ret2;exact ⟨by first|rfl|(simp;done)|(simp [*];done),by repeat (first|exact Drawn0.refl _|apply Drawn0.step)⟩
def bias_Put.l0:Nat→Int→Int→List Int→Int→Option (ByteArray)
 |0,_,_,_,_=>none
 |k+1,x0,x1,x5,x6=>(bias_Threshold.f x6 x1).bind fun t103=>(if x0<(IntKind.u64.wrap (t103)) then ((bias_Letter.f k (wrap64 (x0))).bind fun bt104=>(if x5.length<140737488355328 then (some (strOfNums (x5++[bt104.1]))) else (none))) else (if (IntKind.u64.wrap (36-(IntKind.u64.wrap (t103))))=0 then (none) else ((bias_Letter.f k (wrap64 (IntKind.u64.wrap ((IntKind.u64.wrap (t103))+(Int.tmod (IntKind.u64.wrap (x0-(IntKind.u64.wrap (t103)))) (IntKind.u64.wrap (36-(IntKind.u64.wrap (t103))))))))).bind fun bt109=>(if x5.length<140737488355328 then (bias_Put.l0 k (IntKind.u64.wrap (Int.tdiv (IntKind.u64.wrap (x0-(IntKind.u64.wrap (t103)))) (IntKind.u64.wrap (36-(IntKind.u64.wrap (t103)))))) x1 (x5++[bt109.1]) (wrap64 (x6+1))) else (none)))))
def bias_Put.f (k:Nat) (a0:Int) (a1:Int):Option (ByteArray):=bias_Put.l0 k a0 a1 ([]:List Int) 0
theorem bias_Put.mono_l:∀k,(∀y0 y1 y2 y3,LeO (bias_Put.l0 k y0 y1 y2 y3) (bias_Put.l0 (k+1) y0 y1 y2 y3))
 |0=>fun _ _ _ _ r h=>by simp [bias_Put.l0] at h
 |k+1=>by
  have ih0:=bias_Put.mono_l k
  ·intro y0 y1 y2 y3
   unfold bias_Put.l0
   repeat' first
   |(with_reducible exact ih0 _ _ _ _)
   |(with_reducible exact bias_Letter.mono _ _)
   |(with_reducible exact LeO.refl _)
   |(with_reducible exact LeO.none _)
   |(with_reducible refine LeO.ite ?_ ?_)
   |(with_reducible refine LeO.bind ?_ (fun _=>?_))
   |exact ih0 _ _ _ _
   |exact bias_Letter.mono _ _
   |exact LeO.none _
   |refine LeO.ite ?_ ?_
   |refine LeO.bind ?_ (fun _=>?_)
theorem bias_Put.mono:∀a0 a1 k,LeO (bias_Put.f k a0 a1) (bias_Put.f (k+1) a0 a1):=by
 intro a0 a1 k;have ih0:=bias_Put.mono_l k;unfold bias_Put.f
 repeat' first
   |(with_reducible exact ih0 _ _ _ _)
   |(with_reducible exact bias_Letter.mono _ _)
   |(with_reducible exact LeO.refl _)
   |(with_reducible exact LeO.none _)
   |(with_reducible refine LeO.ite ?_ ?_)
   |(with_reducible refine LeO.bind ?_ (fun _=>?_))
   |exact ih0 _ _ _ _
   |exact bias_Letter.mono _ _
   |exact LeO.none _
   |refine LeO.ite ?_ ?_
   |refine LeO.bind ?_ (fun _=>?_)
set_option maxHeartbeats 8000000 in
set_option maxRecDepth 100000 in
theorem bias_Put.calls (k:Nat) (a0:Int) (a1:Int) (r:ByteArray) (w:World) (h:bias_Put.f k a0 a1=some r):
  Calls Tryz.prog 166 #[.int .u64 a0,.int .i64 a1] w fun e w'=>e= .returned (.string r)∧Below w.heap.size w w':=by
 have HB:=Aside0.mk (Below.refl w.heap.size w)
 have H:(bias_Put.l0 k a0 a1 ([]:List Int) 0)=some r:=h;clear h;have H':=Aside0.mk H;clear H;go_enter Tryz.func166,Tryz.ntmps166;go_wp2;go_loopg [0,5,6] k (fun kq v0 v5 v6 w'=>∃(x0_1:Int) (x5_1:List Int) (x6_1:Int),v0= .int .u64 x0_1∧v6= .int .i64 x6_1∧Aside0 (bias_Put.l0 kq x0_1 a1 x5_1 x6_1=some r)∧Aside0 (kq≤k)∧Aside0 (Kd.R (Kd.int .u8) 5 w' w.heap.size (fun _=>True) v5 x5_1)∧Aside0 (Below w.heap.size w w'))
 case atStart=>exact ⟨(a0),(([]:List Int)),(0),(by first|rfl|(simp;done)|(simp [*];done)),(by first|rfl|(simp;done)|(simp [*];done)),H',⟨Nat.le_refl _⟩,⟨by first|exact Kd.R_nil _ _ _ _ _|exact Kd.N_nil _ _ _ _ _|exact Kd.V_nil _ _ _ _ _|exact Kd.Q_nil _ _ _ _ _|exact Kd.S_nil _ _ _ _ _⟩,⟨by repeat (first|(with_reducible first|exact HB.out|apply below_alloc|apply pw_below_drewN|apply below_drew1)|exact HB.out)⟩⟩
 case round=>
  clear H'
  try clear c1
  try clear p2
  obtain ⟨x0_1,x5_1,x6_1,rfl,rfl,HA,HK1,HO_5,HB⟩:=hrel
  cases gk with
  |zero=>exact absurd HA.out (by simp [bias_Put.l0])
  |succ k1=>
   have H:=HA.out;clear HA;simp only [bias_Put.l0] at H
   replace H:=Option.bind_eq_some_iff.mp H
   obtain ⟨t103,A30,H⟩:=H
   replace H:(if x0_1<(IntKind.u64.wrap (t103)) then ((bias_Letter.f k1 (wrap64 (x0_1))).bind fun bt104=>(if x5_1.length<140737488355328 then (some (strOfNums (x5_1++[bt104.1]))) else (none))) else (if (IntKind.u64.wrap (36-(IntKind.u64.wrap (t103))))=0 then (none) else ((bias_Letter.f k1 (wrap64 (IntKind.u64.wrap ((IntKind.u64.wrap (t103))+(Int.tmod (IntKind.u64.wrap (x0_1-(IntKind.u64.wrap (t103)))) (IntKind.u64.wrap (36-(IntKind.u64.wrap (t103))))))))).bind fun bt109=>(if x5_1.length<140737488355328 then (bias_Put.l0 k1 (IntKind.u64.wrap (Int.tdiv (IntKind.u64.wrap (x0_1-(IntKind.u64.wrap (t103)))) (IntKind.u64.wrap (36-(IntKind.u64.wrap (t103)))))) a1 (x5_1++[bt109.1]) (wrap64 (x6_1+1))) else (none)))))=some r:=H
   have A3:=Aside0.mk A30;clear A30
   by_cases c4:x0_1<(IntKind.u64.wrap (t103))
   ·rw [if_pos c4] at H
    have c4b0:decide (x0_1<(IntKind.u64.wrap (t103)))=true:=decide_eq_true c4;clear c4
    replace H:=Option.bind_eq_some_iff.mp H
    obtain ⟨⟨t104,t105⟩,A50,H⟩:=H
    replace H:(if x5_1.length<140737488355328 then (some (strOfNums (x5_1++[t104]))) else (none))=some r:=H
    have A5:=Aside0.mk A50;clear A50
    by_cases c6:x5_1.length<140737488355328
    ·rw [if_pos c6] at H
     have LMc6:=Aside0.mk c6;clear c6;obtain ⟨y106,hy106⟩:∃y_:List Int,y_=(x5_1++[t104]):=⟨_,rfl⟩
     replace H:(some (strOfNums y106))=some r:=by first|(rw [hy106];with_reducible exact H)|(have H2_:=(Option.bind_some _ _).symm.trans H;rw [hy106];with_reducible exact H2_)|(have H2_:=(Option.bind_some _ _).symm.trans H;with_reducible exact H2_)|with_reducible exact H|(rw [hy106];exact H)|exact H
     have Ny106:=Aside0.mk hy106;clear hy106;obtain rfl:=Option.some.inj H
     go_wp2_with (first|((with_reducible refine gate_callee (f:=170) rfl ?_);refine goesL_ (some 16) rfl rfl Tryz.func170 (by kernel_rfl) rfl #[.int .i64 x6_1,.int .i64 a1] rfl (by (try simp only [List.map_toArray,List.map_cons,List.map_nil]);first|done|rfl|(simp only [List.length_drop,List.length_take];rfl)) ?_;(with_reducible refine (bias_Threshold.calls x6_1 a1 t103 _ A3.out).mono ?_);rintro e w7 ⟨rfl,hb⟩;refine ⟨_,rfl,?_⟩;have n0_:=Aside0.mk (Kd.R_below (by (with_reducible repeat (first|apply Kd.R_alloc|apply Kd.R_drewN|apply Kd.R_drew));exact HO_5.out) hb);have n1_:=Aside0.mk (below_step (by repeat (first|(with_reducible first|exact HB.out|apply below_alloc|apply pw_below_drewN|apply below_drew1)|exact HB.out)) hb);clear HO_5;clear HB;have HO_5:=n0_;have HB:=n1_;clear n0_ n1_;(try clear hb);(try clear hb2);(try clear hk);(try clear hi))|((with_reducible refine gate_callee (f:=171) rfl ?_);refine goesL_ (some 24) rfl rfl Tryz.func171 (by kernel_rfl) rfl #[.int .i64 (wrap64 (x0_1))] rfl (by (try simp only [List.map_toArray,List.map_cons,List.map_nil]);first|done|rfl|(simp only [List.length_drop,List.length_take];rfl)) ?_;(with_reducible refine (bias_Letter.calls k1 (wrap64 (x0_1)) t104 t105 _ A5.out).mono ?_);rintro e w' ⟨rfl,⟨nd,rfl⟩⟩;refine ⟨_,rfl,?_⟩)|((with_reducible refine gate_builtin (b:=.append) (xs:=#[.tmp 27,.tmp 29]) rfl ?_);at_builtin;refine Kd.R_append (Kd.int .u8) (w0:=w) w.heap.size rfl (.tmp 27) (.tmp 29) 68 5 (.int .u8 0) 1 rfl Tryz.underlying68 info5 rfl (by decide) (by omega) u5 x5_1 t104 [.int .u8 t104] (fun _=>True) (fun _=>False) rfl rfl ?aP (fun _ hk=>hk.elim) ?aF ?aO ?aB ?aS ?aL ?_;(case aP=>exact rfl);(case aB=>exact (by repeat (first|(with_reducible first|exact HB.out|apply below_alloc|apply pw_below_drewN|apply below_drew1)|exact HB.out)));(case aF=>exact (fun _ _=>trivial));(case aO=>exact (by (with_reducible repeat (first|apply Kd.R_alloc|apply Kd.R_drewN|apply Kd.R_drew));exact HO_5.out));(case aS=>exact (below_size (by repeat (first|(with_reducible first|exact HB.out|apply below_alloc|apply pw_below_drewN|apply below_drew1)|exact HB.out))));(case aL=>have:=LMc6.out;omega);intro v107 w8 ho hb hg hat;rw [←Ny106.out] at ho;have n0_:=Aside0.mk (hb);have n1_:=Aside0.mk (ho);clear HB;clear HO_5;have HB:=n0_;have HO108:=n1_;clear n0_ n1_;clear ho hb hg hat;have hcv9:=own_string (P:=Tryz.prog) Tryz.underlying68 Tryz.underlying5 Tryz.underlying9 (Kd.own_of_R HO108.out)))
     go_ret;exact ⟨by first|rfl|(simp [errW_none,errW_some] <;>rfl)|(simp [*,errW_none,errW_some] <;>rfl),by repeat (first|(with_reducible first|exact HB.out|apply below_alloc|apply pw_below_drewN|apply below_drew1)|exact HB.out)⟩
    ·rw [if_neg c6] at H
     exact absurd H (by simp)
   ·rw [if_neg c4] at H
    have c4b0:decide (x0_1<(IntKind.u64.wrap (t103)))=false:=decide_eq_false c4;clear c4
    by_cases c10:(IntKind.u64.wrap (36-(IntKind.u64.wrap (t103))))=0
    ·rw [if_pos c10] at H
     exact absurd H (by simp)
    ·rw [if_neg c10] at H
     have c10b0:((IntKind.u64.wrap (36-(IntKind.u64.wrap (t103))))==0)=false:=beq_eq_false_iff_ne.mpr c10;have c10b1:((IntKind.u64.wrap (36-(IntKind.u64.wrap (t103)))) !=0)=true:=bne_iff_ne.mpr c10
     replace H:=Option.bind_eq_some_iff.mp H
     obtain ⟨⟨t109,t110⟩,A110,H⟩:=H
     replace H:(if x5_1.length<140737488355328 then (bias_Put.l0 k1 (IntKind.u64.wrap (Int.tdiv (IntKind.u64.wrap (x0_1-(IntKind.u64.wrap (t103)))) (IntKind.u64.wrap (36-(IntKind.u64.wrap (t103)))))) a1 (x5_1++[t109]) (wrap64 (x6_1+1))) else (none))=some r:=H
     have A11:=Aside0.mk A110;clear A110
     by_cases c12:x5_1.length<140737488355328
     ·rw [if_pos c12] at H
      have LMc12:=Aside0.mk c12;clear c12;obtain ⟨y111,hy111⟩:∃y_:List Int,y_=(x5_1++[t109]):=⟨_,rfl⟩
      replace H:(bias_Put.l0 k1 (IntKind.u64.wrap (Int.tdiv (IntKind.u64.wrap (x0_1-(IntKind.u64.wrap (t103)))) (IntKind.u64.wrap (36-(IntKind.u64.wrap (t103)))))) a1 y111 (wrap64 (x6_1+1)))=some r:=by first|(rw [hy111];with_reducible exact H)|(have H2_:=(Option.bind_some _ _).symm.trans H;rw [hy111];with_reducible exact H2_)|(have H2_:=(Option.bind_some _ _).symm.trans H;with_reducible exact H2_)|with_reducible exact H|(rw [hy111];exact H)|exact H
      have Ny111:=Aside0.mk hy111;clear hy111;have H':=Aside0.mk H;clear H
      go_wp2_with (first|((with_reducible refine gate_callee (f:=170) rfl ?_);refine goesL_ (some 16) rfl rfl Tryz.func170 (by kernel_rfl) rfl #[.int .i64 x6_1,.int .i64 a1] rfl (by (try simp only [List.map_toArray,List.map_cons,List.map_nil]);first|done|rfl|(simp only [List.length_drop,List.length_take];rfl)) ?_;(with_reducible refine (bias_Threshold.calls x6_1 a1 t103 _ A3.out).mono ?_);rintro e w13 ⟨rfl,hb⟩;refine ⟨_,rfl,?_⟩;have n0_:=Aside0.mk (Kd.R_below (by (with_reducible repeat (first|apply Kd.R_alloc|apply Kd.R_drewN|apply Kd.R_drew));exact HO_5.out) hb);have n1_:=Aside0.mk (below_step (by repeat (first|(with_reducible first|exact HB.out|apply below_alloc|apply pw_below_drewN|apply below_drew1)|exact HB.out)) hb);clear HO_5;clear HB;have HO_5:=n0_;have HB:=n1_;clear n0_ n1_;(try clear hb);(try clear hb2);(try clear hk);(try clear hi))|((with_reducible refine gate_callee (f:=171) rfl ?_);refine goesL_ (some 42) rfl rfl Tryz.func171 (by kernel_rfl) rfl #[.int .i64 (wrap64 (IntKind.u64.wrap ((IntKind.u64.wrap (t103))+(Int.tmod (IntKind.u64.wrap (x0_1-(IntKind.u64.wrap (t103)))) (IntKind.u64.wrap (36-(IntKind.u64.wrap (t103))))))))] rfl (by (try simp only [List.map_toArray,List.map_cons,List.map_nil]);first|done|rfl|(simp only [List.length_drop,List.length_take];rfl)) ?_;(with_reducible refine (bias_Letter.calls k1 (wrap64 (IntKind.u64.wrap ((IntKind.u64.wrap (t103))+(Int.tmod (IntKind.u64.wrap (x0_1-(IntKind.u64.wrap (t103)))) (IntKind.u64.wrap (36-(IntKind.u64.wrap (t103)))))))) t109 t110 _ A11.out).mono ?_);rintro e w' ⟨rfl,⟨nd,rfl⟩⟩;refine ⟨_,rfl,?_⟩)|((with_reducible refine gate_builtin (b:=.append) (xs:=#[.tmp 45,.tmp 47]) rfl ?_);at_builtin;refine Kd.R_append (Kd.int .u8) (w0:=w) w.heap.size rfl (.tmp 45) (.tmp 47) 68 5 (.int .u8 0) 1 rfl Tryz.underlying68 info5 rfl (by decide) (by omega) u5 x5_1 t109 [.int .u8 t109] (fun _=>True) (fun _=>False) rfl rfl ?aP (fun _ hk=>hk.elim) ?aF ?aO ?aB ?aS ?aL ?_;(case aP=>exact rfl);(case aB=>exact (by repeat (first|(with_reducible first|exact HB.out|apply below_alloc|apply pw_below_drewN|apply below_drew1)|exact HB.out)));(case aF=>exact (fun _ _=>trivial));(case aO=>exact (by (with_reducible repeat (first|apply Kd.R_alloc|apply Kd.R_drewN|apply Kd.R_drew));exact HO_5.out));(case aS=>exact (below_size (by repeat (first|(with_reducible first|exact HB.out|apply below_alloc|apply pw_below_drewN|apply below_drew1)|exact HB.out))));(case aL=>have:=LMc12.out;omega);intro v112 w14 ho hb hg hat;rw [←Ny111.out] at ho;have n0_:=Aside0.mk (hb);have n1_:=Aside0.mk (ho);clear HB;clear HO_5;have HB:=n0_;have HO113:=n1_;clear n0_ n1_;clear ho hb hg hat))
      go_roundg k1
      case measure=>have:=HK1.out;omega
      case rel=>exact ⟨(IntKind.u64.wrap (Int.tdiv (IntKind.u64.wrap (x0_1-(IntKind.u64.wrap (t103)))) (IntKind.u64.wrap (36-(IntKind.u64.wrap (t103)))))),(y111),(wrap64 (x6_1+1)),(by first|rfl|(simp;done)|(simp [*];done)),(by first|rfl|(simp;done)|(simp [*];done)),H',⟨by have:=HK1.out;omega⟩,⟨by (with_reducible repeat (first|apply Kd.R_alloc|apply Kd.R_drewN|apply Kd.R_drew));exact HO113.out⟩,⟨by repeat (first|(with_reducible first|exact HB.out|apply below_alloc|apply pw_below_drewN|apply below_drew1)|exact HB.out)⟩⟩
     ·rw [if_neg c12] at H
      exact absurd H (by simp)
mutual
def bias_Adapt.j0:Nat→Int→Int→Option (Int)
 |0,_,_=>none
 |k+1,x0,x1=>if (mx x1 1)=0 then (none) else (bias_Adapt.l0 k (IntKind.u64.wrap (x0+(IntKind.u64.wrap (Int.tdiv x0 (mx x1 1))))) 0)
def bias_Adapt.l0:Nat→Int→Int→Option (Int)
 |0,_,_=>none
 |k+1,x0,x7=>if x0>455 then (bias_Adapt.l0 k (IntKind.u64.wrap (Int.tdiv x0 35)) (wrap64 (x7+36))) else (if (IntKind.u64.wrap (x0+38))=0 then (none) else (some (wrap64 (x7+(wrap64 (IntKind.u64.wrap (Int.tdiv (IntKind.u64.wrap (36*x0)) (IntKind.u64.wrap (x0+38)))))))))
end
def bias_Adapt.f (k:Nat) (a0:Int) (a1:Int) (a2:Bool):Option (Int):=if a2=true then (bias_Adapt.j0 k (IntKind.u64.wrap (Int.tdiv a0 700)) a1) else (bias_Adapt.j0 k (IntKind.u64.wrap (Int.tdiv a0 2)) a1)
theorem bias_Adapt.mono_l:∀k,(∀y0 y1,LeO (bias_Adapt.j0 k y0 y1) (bias_Adapt.j0 (k+1) y0 y1))∧(∀y0 y1,LeO (bias_Adapt.l0 k y0 y1) (bias_Adapt.l0 (k+1) y0 y1))
 |0=>⟨fun _ _ r h=>by simp [bias_Adapt.j0] at h,fun _ _ r h=>by simp [bias_Adapt.l0] at h⟩
 |k+1=>by
  obtain ⟨ih0,ih1⟩:=bias_Adapt.mono_l k;refine ⟨?_,?_⟩
  ·intro y0 y1
   unfold bias_Adapt.j0
   repeat' first
   |(with_reducible exact ih0 _ _)
   |(with_reducible exact ih1 _ _)
   |(with_reducible exact LeO.refl _)
   |(with_reducible exact LeO.none _)
   |(with_reducible refine LeO.ite ?_ ?_)
   |(with_reducible refine LeO.bind ?_ (fun _=>?_))
   |exact ih0 _ _
   |exact ih1 _ _
   |exact LeO.none _
   |refine LeO.ite ?_ ?_
   |refine LeO.bind ?_ (fun _=>?_)
  ·intro y0 y1
   unfold bias_Adapt.l0
   repeat' first
   |(with_reducible exact ih0 _ _)
   |(with_reducible exact ih1 _ _)
   |(with_reducible exact LeO.refl _)
   |(with_reducible exact LeO.none _)
   |(with_reducible refine LeO.ite ?_ ?_)
   |(with_reducible refine LeO.bind ?_ (fun _=>?_))
   |exact ih0 _ _
   |exact ih1 _ _
   |exact LeO.none _
   |refine LeO.ite ?_ ?_
   |refine LeO.bind ?_ (fun _=>?_)
theorem bias_Adapt.mono:∀a0 a1 a2 k,LeO (bias_Adapt.f k a0 a1 a2) (bias_Adapt.f (k+1) a0 a1 a2):=by
 intro a0 a1 a2 k;obtain ⟨ih0,ih1⟩:=bias_Adapt.mono_l k;unfold bias_Adapt.f
 repeat' first
   |(with_reducible exact ih0 _ _)
   |(with_reducible exact ih1 _ _)
   |(with_reducible exact LeO.refl _)
   |(with_reducible exact LeO.none _)
   |(with_reducible refine LeO.ite ?_ ?_)
   |(with_reducible refine LeO.bind ?_ (fun _=>?_))
   |exact ih0 _ _
   |exact ih1 _ _
   |exact LeO.none _
   |refine LeO.ite ?_ ?_
   |refine LeO.bind ?_ (fun _=>?_)
set_option maxHeartbeats 8000000 in
set_option maxRecDepth 100000 in
theorem bias_Adapt.calls (k:Nat) (a0:Int) (a1:Int) (a2:Bool) (r:Int) (w:World) (h:bias_Adapt.f k a0 a1 a2=some r):
  Calls Tryz.prog 167 #[.int .u64 a0,.int .u64 a1,.bool a2] w fun e w'=>e= .returned (.int .i64 r)∧Below w.heap.size w w':=by
 have HB:=Aside0.mk (Below.refl w.heap.size w)
 have H:(if a2=true then (bias_Adapt.j0 k (IntKind.u64.wrap (Int.tdiv a0 700)) a1) else (bias_Adapt.j0 k (IntKind.u64.wrap (Int.tdiv a0 2)) a1))=some r:=h;clear h;have HC4:=Aside0.mk H;clear H;go_enter Tryz.func167,Tryz.ntmps167;go_upto_if 8 with (fail)
 go_cut [0] (fun v0 wc=>∃(kq:Nat) (x0_3:Int),v0= .int .u64 x0_3∧Aside0 (bias_Adapt.j0 kq x0_3 a1=some r)∧Aside0 (kq≤k)∧Aside0 (Below w.heap.size w wc))
 case first=>
  have H:=HC4.out;clear HC4
  by_cases c5:a2=true
  ·subst c5
   have H1:(bias_Adapt.j0 k (IntKind.u64.wrap (Int.tdiv a0 700)) a1)=some r:=by rw [if_pos rfl] at H;exact H
   clear H;have H:=H1;clear H1;have H':=Aside0.mk H;clear H;go_wp2;go_meet
   case rel=>exact ⟨_,(IntKind.u64.wrap (Int.tdiv a0 700)),(by first|rfl|(simp;done)|(simp [*];done)),H',⟨by first|omega|exact Nat.le_refl _⟩,⟨by repeat (first|(with_reducible first|exact HB.out|apply below_alloc|apply pw_below_drewN|apply below_drew1)|exact HB.out)⟩⟩
  ·replace c5:=Bool.eq_false_iff.mpr c5
   subst c5;have H1:(bias_Adapt.j0 k (IntKind.u64.wrap (Int.tdiv a0 2)) a1)=some r:=by rw [if_neg (show ¬(false=true) by decide)] at H;exact H
   clear H;have H:=H1;clear H1;have H':=Aside0.mk H;clear H;go_wp2;go_meet
   case rel=>exact ⟨_,(IntKind.u64.wrap (Int.tdiv a0 2)),(by first|rfl|(simp;done)|(simp [*];done)),H',⟨by first|omega|exact Nat.le_refl _⟩,⟨by repeat (first|(with_reducible first|exact HB.out|apply below_alloc|apply pw_below_drewN|apply below_drew1)|exact HB.out)⟩⟩
 case rest=>
  clear HC4
  try clear c1
  try clear p2
  try clear c5
  obtain ⟨kq,x0_3,rfl,HA,HJ3,HB⟩:=hcut
  cases kq with
  |zero=>exact absurd HA.out (by simp [bias_Adapt.j0])
  |succ kj3=>
   have H:=HA.out;clear HA;simp only [bias_Adapt.j0] at H;obtain ⟨ji6,hji6⟩:∃j_:Int,(mx a1 1)=j_:=⟨_,rfl⟩
   replace H:(if (ji6)=0 then (none) else (bias_Adapt.l0 kj3 (IntKind.u64.wrap (x0_3+(IntKind.u64.wrap (Int.tdiv x0_3 (ji6))))) 0))=some r:=by first|(rw [hji6] at H;exact H)|(simp only [hji6] at H ⊢;exact H)
   have hji6_:(if a1<1 then 1 else a1)=ji6:=hji6
   by_cases c7:(ji6)=0
   ·rw [if_pos c7] at H
    exact absurd H (by simp)
   ·rw [if_neg c7] at H
    have c7b0:((ji6)==0)=false:=beq_eq_false_iff_ne.mpr c7;have c7b1:((ji6) !=0)=true:=bne_iff_ne.mpr c7;have H':=Aside0.mk H;clear H;go_wp2;go_loopg [0,7] kj3 (fun kq v0 v7 w'=>∃(x0_2:Int) (x7_2:Int),v0= .int .u64 x0_2∧v7= .int .i64 x7_2∧Aside0 (bias_Adapt.l0 kq x0_2 x7_2=some r)∧Aside0 (kq≤kj3)∧Aside0 (Below w.heap.size w w'))
    case atStart=>exact ⟨(IntKind.u64.wrap (x0_3+(IntKind.u64.wrap (Int.tdiv x0_3 (ji6))))),(0),(by first|rfl|(simp;done)|(simp only [←hji6] <;>(first|rfl|simp))|(simp [*];done)),(by first|rfl|(simp;done)|(simp [*];done)),H',⟨Nat.le_refl _⟩,⟨by repeat (first|(with_reducible first|exact HB.out|apply below_alloc|apply pw_below_drewN|apply below_drew1)|exact HB.out)⟩⟩
    case round=>
     clear H'
     try clear c1
     try clear p2
     try clear c5
     try clear c7
     try clear c7b0
     try clear c7b1
     try clear p2
     obtain ⟨x0_2,x7_2,rfl,rfl,HA,HK2,HB⟩:=hrel
     cases gk with
     |zero=>exact absurd HA.out (by simp [bias_Adapt.l0])
     |succ k2=>
      have H:=HA.out;clear HA;simp only [bias_Adapt.l0] at H
      by_cases c8:x0_2>455
      ·rw [if_pos c8] at H
       have c8b0:decide (455<x0_2)=true:=decide_eq_true c8;clear c8;have H':=Aside0.mk H;clear H;go_wp2;go_roundg k2
       case measure=>have:=HJ3.out;have:=HK2.out;omega
       case rel=>exact ⟨(IntKind.u64.wrap (Int.tdiv x0_2 35)),(wrap64 (x7_2+36)),(by first|rfl|(simp;done)|(simp [*];done)),(by first|rfl|(simp;done)|(simp [*];done)),H',⟨by have:=HJ3.out;have:=HK2.out;omega⟩,⟨by repeat (first|(with_reducible first|exact HB.out|apply below_alloc|apply pw_below_drewN|apply below_drew1)|exact HB.out)⟩⟩
      ·rw [if_neg c8] at H
       have c8b0:decide (455<x0_2)=false:=decide_eq_false c8;clear c8
       by_cases c9:(IntKind.u64.wrap (x0_2+38))=0
       ·rw [if_pos c9] at H
        exact absurd H (by simp)
       ·rw [if_neg c9] at H
        have c9b0:((IntKind.u64.wrap (x0_2+38))==0)=false:=beq_eq_false_iff_ne.mpr c9;have c9b1:((IntKind.u64.wrap (x0_2+38)) !=0)=true:=bne_iff_ne.mpr c9;obtain rfl:=Option.some.inj H;go_wp2;go_ret;exact ⟨by first|rfl|(simp [errW_none,errW_some] <;>rfl)|(simp only [←hji6];first|rfl|(simp [errW_none,errW_some] <;>rfl))|(simp [*,errW_none,errW_some] <;>rfl),by repeat (first|(with_reducible first|exact HB.out|apply below_alloc|apply pw_below_drewN|apply below_drew1)|exact HB.out)⟩
end QBp
namespace Win
open Go.RowKit
structure Chg (S:Nat→Prop) (w w':World):Prop where
 os:w'.os=w.os
 tape:w'.tape=w.tape
 output:w'.output=w.output
 size:w.heap.size≤w'.heap.size
 block:∀i,i<w.heap.size→¬S i→w'.heap[i]? =w.heap[i]?
theorem Chg.refl {S:Nat→Prop} (w:World):Chg S w w:=⟨rfl,rfl,rfl,Nat.le_refl _,fun _ _ _=>rfl⟩
theorem Chg.trans {S:Nat→Prop} {w w1 w2:World} (h:Chg S w w1) (k:Chg S w1 w2):Chg S w w2:=
 ⟨k.os.trans h.os,k.tape.trans h.tape,k.output.trans h.output,Nat.le_trans h.size k.size,fun i hi hs=>(k.block i (Nat.lt_of_lt_of_le hi h.size) hs).trans (h.block i hi hs)⟩
theorem Chg.mono {S T:Nat→Prop} {w w':World} (h:Chg S w w') (hs:∀i,S i→T i):Chg T w w':=⟨h.os,h.tape,h.output,h.size,fun i hi ht=>h.block i hi (fun hh=>ht (hs i hh))⟩
theorem Chg.set {S:Nat→Prop} (w:World) {g:Nat} (hg:S g) (j:Nat) (v:Value):Chg S w (w.setCell ⟨g,j,none⟩ v):=by
 have b:Below 0 w (w.setCell ⟨g,j,none⟩ v):=(Below.refl 0 w).setCell (Nat.zero_le _) v;exact ⟨b.os,b.tape,b.output,b.size,fun i hi hs=>Below.heap_setCell w _ _ _ (by rintro rfl;exact hs hg)⟩
theorem Chg.alloc {S:Nat→Prop} (w:World) (o:Obj):Chg S w (w.alloc o):=by
 have b:=(Below.refl w.heap.size w).alloc (Nat.le_refl _) o;exact ⟨b.os,b.tape,b.output,b.size,fun i hi _=>b.block i hi⟩
theorem Chg.drew {S:Nat→Prop} (w:World):Chg S w w.drew:=⟨rfl,rfl,rfl,Nat.le_refl _,fun _ _ _=>rfl⟩
theorem Chg.drewN {S:Nat→Prop} (w:World) (n:Nat):Chg S w (w.drewN n):=⟨rfl,rfl,rfl,Nat.le_refl _,fun _ _ _=>rfl⟩
theorem Chg.of_below {S:Nat→Prop} {w w':World} (h:Below w.heap.size w w'):Chg S w w':=⟨h.os,h.tape,h.output,h.size,fun i hi _=>h.block i hi⟩
theorem Chg.below {S:Nat→Prop} {w0 w w':World} (hb:Below w0.heap.size w0 w) (h:Chg S w w') (hs:∀i,S i→w0.heap.size≤i):Below w0.heap.size w0 w':=
 ⟨h.os.trans hb.os,h.tape.trans hb.tape,h.output.trans hb.output,Nat.le_trans hb.size h.size,fun i hi=>(h.block i (Nat.lt_of_lt_of_le hi hb.size) (fun hh=>by have:=hs i hh;omega)).trans (hb.block i hi)⟩
theorem cell_of {w:World} {g:Nat} {cs:Array Value} {t:TypeId} (h:w.heap[g]? =some (.cells cs t (0,0))) (j:Nat):w.cell? ⟨g,j,none⟩=cs[j]? :=by
 simp [World.cell?,h]
theorem frozen_of {w:World} {g:Nat} {cs:Array Value} {t:TypeId} (h:w.heap[g]? =some (.cells cs t (0,0))) (j:Nat):w.frozen? ⟨g,j,none⟩=false:=by
 simp [World.frozen?,h]
def winCells (o u:List Int):List Value:=(o.map fun x=> .int .u32 x)++(u.map fun x=> .int .i64 x)
structure WinAt (w:World) (g:Nat) (o u:List Int):Prop where
 blk:w.heap[g]? =some (.cells (winCells o u).toArray 229 (0,0))
 lo:o.length=8
 lu:u.length=8
theorem WinAt.cellO {w:World} {g:Nat} {o u:List Int} (h:WinAt w g o u) (j:Nat) (hj:j<8):w.cell? ⟨g,j,none⟩=some (.int .u32 (o.getD j 0)):=by
 have:=h.lo;rw [cell_of h.blk]
 simp [winCells,List.getElem?_append_left,List.getD_eq_getElem?_getD,this,hj]
theorem WinAt.cellU {w:World} {g:Nat} {o u:List Int} (h:WinAt w g o u) (j:Nat) (hj:j<8):w.cell? ⟨g,8+j,none⟩=some (.int .i64 (u.getD j 0)):=by
 have:=h.lo;have:=h.lu;rw [cell_of h.blk]
 simp [winCells,List.getElem?_append_right,List.getD_eq_getElem?_getD,h.lo,h.lu,hj]
theorem WinAt.frozen {w:World} {g:Nat} {o u:List Int} (h:WinAt w g o u) (j:Nat):w.frozen? ⟨g,j,none⟩=false:=frozen_of h.blk j
theorem WinAt.keep {w w':World} {g:Nat} {o u:List Int} (h:WinAt w g o u) (he:w'.heap[g]? =w.heap[g]?):WinAt w' g o u:=⟨he.trans h.blk,h.lo,h.lu⟩
theorem WinAt.lt {w:World} {g:Nat} {o u:List Int} (h:WinAt w g o u):g<w.heap.size:=(Array.getElem?_eq_some_iff.1 h.blk).1
theorem WinAt.setO {w:World} {g:Nat} {o u:List Int} (h:WinAt w g o u) (j:Nat) (hj:j<8) (c:Int):WinAt (w.setCell ⟨g,j,none⟩ (.int .u32 c)) g (o.set j c) u:=by
 refine ⟨?_,by simp [h.lo],h.lu⟩
 rw [heap_setCell_same w g j _ _ _ h.blk]
 congr 2
 simp [winCells,h.lo,hj]
theorem WinAt.setU {w:World} {g:Nat} {o u:List Int} (h:WinAt w g o u) (j:Nat) (hj:j<8) (c:Int):WinAt (w.setCell ⟨g,8+j,none⟩ (.int .i64 c)) g o (u.set j c):=by
 refine ⟨?_,h.lo,by simp [h.lu]⟩
 rw [heap_setCell_same w g (8+j) _ _ _ h.blk]
 congr 2
 simp [winCells,h.lo]
theorem is_calls (n:Int) (w:World):Calls Tryz.prog 224 #[.int .i64 n] w fun e w'=>e= .returned (.bool (decide (0≤n)&&decide (n<8)))∧w=w':=by
 by_cases h0:0≤n
 ·by_cases h1:n<8
  ·go_enter Tryz.func224,Tryz.ntmps224
   go_wp2;go_ret;exact ⟨by first|(simp;done)|(simp;omega),rfl⟩
  ·go_enter Tryz.func224,Tryz.ntmps224
   go_wp2;go_ret;exact ⟨by first|(simp;done)|(simp;omega),rfl⟩
 ·go_enter Tryz.func224,Tryz.ntmps224
  go_wp2;go_ret;exact ⟨by first|(simp;done)|(simp;omega),rfl⟩
def wAt (o:List Int) (n:Int):Int:=if 0≤n∧n<8 then o.getD n.toNat 0 else 0
theorem at_calls (g:Nat) (o u:List Int) (n:Int) (w:World) (h:WinAt w g o u):Calls Tryz.prog 215 #[.pointer (some ⟨g,0,none⟩),.int .i64 n] w fun e w'=>e= .returned (.int .u32 (wAt o n))∧w=w':=by
 by_cases hn:0≤n∧n<8
 ·have hc:=h.cellO n.toNat (by omega)
  have he:wAt o n=o.getD n.toNat 0:=by unfold wAt;rw [if_pos hn]
  rw [he]
  obtain ⟨h0,h1⟩:=hn;have hi:=is_calls n;rw [show (decide (0≤n)&&decide (n<8))=true from by simp [h0,h1]] at hi;clear h he;go_enter Tryz.func215,Tryz.ntmps215;go_wp2_with (go_at_call 224;refine (hi _).mono ?_;rintro e w1 ⟨rfl,rfl⟩)
  go_ret;exact ⟨rfl,rfl⟩
 ·have he:wAt o n=0:=by unfold wAt;rw [if_neg hn]
  rw [he]
  have hi:=is_calls n;rw [show (decide (0≤n)&&decide (n<8))=false from by simp;omega] at hi;clear h he hn;go_enter Tryz.func215,Tryz.ntmps215;go_wp2_with (go_at_call 224;refine (hi _).mono ?_;rintro e w1 ⟨rfl,rfl⟩)
  go_ret;exact ⟨rfl,rfl⟩
theorem oldest_calls (g:Nat) (o u:List Int) (w:World) (h:WinAt w g o u):Calls Tryz.prog 220 #[.pointer (some ⟨g,0,none⟩)] w fun e w'=>e= .returned (.int .i64 (u.getD 0 0))∧w=w':=by
 have hc:=h.cellU 0 (by omega)
 clear h;go_enter Tryz.func220,Tryz.ntmps220;go_wp2;go_ret;exact ⟨rfl,rfl⟩
theorem set_calls (g:Nat) (o u:List Int) (n c:Int) (w:World) (h:WinAt w g o u):Calls Tryz.prog 223 #[.pointer (some ⟨g,0,none⟩),.int .i64 n,.int .u32 c] w fun e w'=>e= .returned (.tuple #[])∧WinAt w' g (if 0≤n∧n<8 then o.set n.toNat c else o) u∧Chg (·=g) w w':=by
 by_cases hn:0≤n∧n<8
 ·have hc:=h.cellO n.toNat (by omega)
  have hf:=h.frozen n.toNat;have hW:=h.setO n.toNat (by omega) c;rw [if_pos hn]
  obtain ⟨h0,h1⟩:=hn;have hi:=is_calls n;rw [show (decide (0≤n)&&decide (n<8))=true from by simp [h0,h1]] at hi;have HW:=Lib.hid hW;clear h hW;go_enter Tryz.func223,Tryz.ntmps223;go_wp2_with (go_at_call 224;refine (hi _).mono ?_;rintro e w1 ⟨rfl,rfl⟩)
  go_end0;exact ⟨rfl,HW.out,Chg.set (S:=(·=g)) _ rfl _ _⟩
 ·rw [if_neg hn]
  have hi:=is_calls n;rw [show (decide (0≤n)&&decide (n<8))=false from by simp;omega] at hi;have HW:=Lib.hid h;clear h hn;go_enter Tryz.func223,Tryz.ntmps223;go_wp2_with (go_at_call 224;refine (hi _).mono ?_;rintro e w1 ⟨rfl,rfl⟩)
  go_end0;exact ⟨rfl,HW.out,Chg.refl _⟩
end Win
namespace Stp
open Go.RowKit Win Go.Proofs.YtooiooledeblmaaGreatW.PrintMore
attribute [local go_sem] max2_int min2_int max_two min_two
structure B4 where
 at_:Int
 err:Int
 pl:Int
 fin:Bool
def B4.going (b:B4):Bool:=(b.err==0)&& !b.fin
structure BaseAt (w:World) (g:Nat) (b:B4):Prop where
 c0:w.cell? ⟨g,0,none⟩=some (.int .i64 b.at_)
 c1:w.cell? ⟨g,1,none⟩=some (.int .i64 b.err)
 c2:w.cell? ⟨g,2,none⟩=some (.int .i64 b.pl)
 c3:w.cell? ⟨g,3,none⟩=some (.bool b.fin)
 fz:∀j,w.frozen? ⟨g,j,none⟩=false
theorem fail_calls (g:Nat) (b:B4) (w:World) (h:BaseAt w g b):Calls Tryz.prog 140 #[.pointer (some ⟨g,0,none⟩)] w fun e w'=>e= .returned (.agg #[.int .i64 b.err,.int .i64 b.pl])∧w'=w.alloc (.cells #[.int .i64 b.err,.int .i64 b.pl] 39):=by
 have h1:=h.c1;have h2:=h.c2;have hlt:g<w.heap.size:=World.block_lt_of_cell? w ⟨g,1,none⟩ h1;clear h;go_enter Tryz.func140,Tryz.ntmps140;go_wp2;exact bodyPost_ret (v:=.agg #[.int .i64 b.err,.int .i64 b.pl]) (by simp [results,Tryz.results140,go_sem]) rfl ⟨rfl,rfl⟩
theorem going_calls (g:Nat) (b:B4) (w:World) (h:BaseAt w g b):Calls Tryz.prog 143 #[.pointer (some ⟨g,0,none⟩)] w fun e w'=>e= .returned (.bool b.going)∧w=w':=by
 have h1:=h.c1;have h3:=h.c3;clear h;obtain ⟨a,e,f,d⟩:=b;simp only at h1 h3;unfold B4.going
 by_cases he:e=0
 ·subst he
  go_enter Tryz.func143,Tryz.ntmps143;go_wp2;go_ret;exact ⟨by cases d <;>rfl,rfl⟩
 ·have hb:(e==0)=false:=by simp [he]
  clear he;go_enter Tryz.func143,Tryz.ntmps143;go_wp2;go_ret;exact ⟨by simp [hb],rfl⟩
theorem eat_calls (g:Nat) (b:B4) (n:Int) (w:World) (h:BaseAt w g b) (hg:b.going=true) (h0:0≤n) (h1:n≤1000000) (h2:0≤b.at_) (h3:b.at_≤1000000000):
  Calls Tryz.prog 148 #[.pointer (some ⟨g,0,none⟩),.int .i64 n] w fun e w'=>e= .returned (.tuple #[])∧w'=w.setCell ⟨g,0,none⟩ (.int .i64 (b.at_+n)):=by
 have hc0:=h.c0;have hf:=h.fz 0;have hgo:=going_calls g b w h;rw [hg] at hgo;have hn:decide (n<0)=false:=by simp;omega
 have hn':(if n<0 then 0 else n)=n:=by rw [if_neg (by omega)]
 clear h hg;go_enter Tryz.func148,Tryz.ntmps148;go_wp2_with (go_at_call 143;refine hgo.mono ?_;rintro e w1 ⟨rfl,rfl⟩)
 go_end0;exact ⟨rfl,rfl⟩
theorem stop_calls (g:Nat) (b:B4) (e:Int) (w:World) (h:BaseAt w g b) (hg:b.going=true) (he:e≠0):
  Calls Tryz.prog 145 #[.pointer (some ⟨g,0,none⟩),.int .i64 e] w fun x w'=>x= .returned (.tuple #[])∧w'=(w.setCell ⟨g,1,none⟩ (.int .i64 e)).setCell ⟨g,2,none⟩ (.int .i64 b.at_):=by
 have hc0:=h.c0;have hc1:=h.c1;have hc2:=h.c2;have hf1:=h.fz 1;have hf2:=h.fz 2;have hgo:=going_calls g b w h;rw [hg] at hgo;have hb:(e !=0)=true:=by simp [he]
 clear h hg he;go_enter Tryz.func145,Tryz.ntmps145;go_wp2_with (go_at_call 143;refine hgo.mono ?_;rintro e w1 ⟨rfl,rfl⟩)
 go_end0;exact ⟨rfl,rfl⟩
theorem stop_not (g:Nat) (b:B4) (e:Int) (w:World) (h:BaseAt w g b) (hg:b.going=false):
  Calls Tryz.prog 145 #[.pointer (some ⟨g,0,none⟩),.int .i64 e] w fun x w'=>x= .returned (.tuple #[])∧w=w':=by
 have hgo:=going_calls g b w h;rw [hg] at hgo;clear h hg;go_enter Tryz.func145,Tryz.ntmps145;go_wp2_with (go_at_call 143;refine hgo.mono ?_;rintro e w1 ⟨rfl,rfl⟩)
 go_end0;exact ⟨rfl,rfl⟩
theorem bend_calls (g:Nat) (b:B4) (w:World) (h:BaseAt w g b):
  Calls Tryz.prog 139 #[.pointer (some ⟨g,0,none⟩)] w fun x w'=>x= .returned (.tuple #[])∧w'=if b.going=true then w.setCell ⟨g,3,none⟩ (.bool true) else w:=by
 have hc3:=h.c3;have hf3:=h.fz 3;have hgo:=going_calls g b w h
 cases hg:b.going with
 |true=>
  rw [hg] at hgo;clear h hg;go_enter Tryz.func139,Tryz.ntmps139;go_wp2_with (go_at_call 143;refine hgo.mono ?_;rintro e w1 ⟨rfl,rfl⟩)
  go_end0;exact ⟨rfl,rfl⟩
 |false=>
  rw [hg] at hgo;clear h hg;go_enter Tryz.func139,Tryz.ntmps139;go_wp2_with (go_at_call 143;refine hgo.mono ?_;rintro e w1 ⟨rfl,rfl⟩)
  go_end0;exact ⟨rfl,rfl⟩
end Stp
namespace Stp
open Go.RowKit Win Go.Proofs.YtooiooledeblmaaGreatW.PrintMore
attribute [local go_sem] max2_int min2_int max_two min_two
theorem info_u32:(Tryz.prog.info? 31).map (fun i=>(i.zero,i.size,i.bytes))=some (some (.int .u32 0),1,4):=by kernel_rfl
def u32s (xs:List Int):List Value:=xs.map fun x=> .int .u32 x
theorem u32s_length (xs:List Int):(u32s xs).length=xs.length:=by simp [u32s]
theorem u32s_append (xs ys:List Int):u32s (xs++ys)=u32s xs++u32s ys:=by simp [u32s]
theorem chg_then {S S1:Nat→Prop} {w w1 w2:World} (h:Chg S w w1) (k:Chg S1 w1 w2) (hs:∀i,i<w.heap.size→S1 i→S i):Chg S w w2:=
 ⟨k.os.trans h.os,k.tape.trans h.tape,k.output.trans h.output,Nat.le_trans h.size k.size,fun i hi hn=>(k.block i (Nat.lt_of_lt_of_le hi h.size) (fun hh=>hn (hs i hi hh))).trans (h.block i hi hn)⟩
theorem chg_grown {w w1:World} {row:Option Nat} (h:w.grownBy w1 row):Chg (fun i=>row=some i) w w1:=⟨h.os,h.tape,h.output,h.size,fun i hi hn=>h.block i hi (fun e=>hn e.symm)⟩
theorem held_calls (g q:Nat) (A:Option Addr) (n c:Nat) (w:World) (h:w.cell? ⟨g,q,none⟩=some (.slice A n c)):Calls Tryz.prog 231 #[.pointer (some ⟨g,q,none⟩)] w fun e w'=>e= .returned (.int .i64 n)∧w=w':=by
 go_enter Tryz.func231,Tryz.ntmps231;go_wp2;go_ret;exact ⟨rfl,rfl⟩
theorem hold_calls (g q base:Nat) (v:Value) (xs:List Int) (x:Int) (a:Nat) (w:World) (hc:w.cell? ⟨g,q,none⟩=some v) (hf:w.frozen? ⟨g,q,none⟩=false)
  (ho:w.ownsRow base 31 1 v xs.length (u32s xs)) (hb:base≤w.heap.size) (hne:v.ownBlock≠some g) (ha:w.cell? ⟨a,0,none⟩=some (.int .u32 x)) (hn:xs.length≤1000000):
  Calls Tryz.prog 234 #[.pointer (some ⟨g,q,none⟩),.slice (some ⟨a,0,none⟩) 1 1] w fun e w'=>e= .returned (.tuple #[])∧∃r c w1,w'=w1.setCell ⟨g,q,none⟩ (.slice (some ⟨r,0,none⟩) (xs.length+1) c)∧
   w1.ownsRow base 31 1 (.slice (some ⟨r,0,none⟩) (xs.length+1) c) (xs++[x]).length (u32s (xs++[x]))∧w.grownBy w1 v.ownBlock∧(v.ownBlock=some r∨r=w.heap.size)∧r≠g:=by
 obtain ⟨i0,hi,hz0,hz1,hz2⟩:=info_parts info_u32;have hglt:g<w.heap.size:=World.block_lt_of_cell? w ⟨g,q,none⟩ hc;have HN:Hid (i0.zero=some (.int .u32 0)∧i0.size=1∧i0.bytes=4∧Tryz.prog.info? 31=some i0):=⟨hz0,hz1,hz2,hi⟩
 have HO:=Lib.hid ho;have HA:=Lib.hid ha;have HC:=Lib.hid hc;have HNE:=Lib.hid hne;clear ho ha hz0 hz1 hz2 hi hne;obtain ⟨A,c0,rfl⟩:∃A c,v= .slice A xs.length c:=by
  rcases HO.out.2 with ⟨h1,h2⟩|⟨g',cap,cur,h1,_⟩
  ·exact ⟨none,0,by rw [h1,h2]⟩
  ·exact ⟨_,_,h1⟩
 go_enter Tryz.func234,Tryz.ntmps234;go_wp2_with (at_builtin;refine wpList_append_lies _ rfl (.tmp 8) (.tmp 9) 24 rfl base 31 i0 (.int .u32 0) 1 4 Tryz.underlying24 HN.out.2.2.2 HN.out.1 HN.out.2.1 HN.out.2.2.1 rfl (by decide) _ _ _ rfl HO.out ⟨a,0,none⟩ 1 1 [.int .u32 x] rfl rfl ?c1 ?c2 (by decide) ?c3 ?c4 hb _ rfl ?_;(case c1=>intro j u hu;match j,hu with|0,hu=>(simp at hu;subst hu;exact HA.out));(case c2=>intro u hu;simp at hu;subst hu;rfl);(case c3=>unfold maxLen;omega);(case c4=>omega);intro r c1 w1 hown1 hgrow1 hat1 hlt1;have HO1:=Lib.hid hown1;have HG1:=Lib.hid hgrow1;have HAT:Hid ((Value.slice A xs.length c0).ownBlock=some r∨r=w.heap.size):=hat1;have hcs1:w1.cell? ⟨g,q,none⟩=_:=(hgrow1.cell_far ⟨g,q,none⟩ hglt (fun e=>HNE.out e.symm)).trans HC.out;have hfs1:w1.frozen? ⟨g,q,none⟩=false:=(hgrow1.frozen_far ⟨g,q,none⟩ hglt (fun e=>HNE.out e.symm)).trans hf;clear hown1 hgrow1 hat1)
 go_end0;refine ⟨rfl,r,c1,w1,rfl,?_,HG1.out,HAT.out,?_⟩
 ·have:=HO1.out
  rw [List.length_append,u32s_append]
  exact this
 ·rcases HAT.out with h|h
  ·exact fun e=>HNE.out (h.trans (by rw [e]))
  ·omega
theorem tell_none (g q:Nat) (room:Int) (w:World) (hc:w.cell? ⟨g,q,none⟩=some (.slice none 0 0)) (hf:w.frozen? ⟨g,q,none⟩=false):
  Calls Tryz.prog 233 #[.pointer (some ⟨g,q,none⟩),.int .i64 room] w fun e w'=>e= .returned (.slice none 0 0)∧w'=(w.setCell ⟨g,q,none⟩ (.slice none 0 0)).setCell ⟨g,q,none⟩ (.slice none 0 0):=by
 have h1:(if (0:Int)<(if room<0 then 0 else room) then (0:Int) else (if room<0 then 0 else room))=0:=by split <;>split <;>omega
 go_enter Tryz.func233,Tryz.ntmps233;go_wp2
 all_goals
  go_ret;exact ⟨rfl,rfl⟩
def Told (w:World) (g q:Nat) (xs:List Int) (e:Ending) (w':World):Prop:=∃r' c' w1 v1,e= .returned (.slice (some ⟨r',0,none⟩) xs.length c')∧w'=(w1.setCell ⟨g,q,none⟩ v1).setCell ⟨g,q,none⟩ (.slice none 0 0)∧
   w1.ownsRow w.heap.size 31 1 (.slice (some ⟨r',0,none⟩) xs.length c') xs.length (u32s xs)∧Below w.heap.size w w1
set_option maxHeartbeats 1000000 in
theorem tell_all (g q r base c:Nat) (xs:List Int) (room:Int) (w:World) (hc:w.cell? ⟨g,q,none⟩=some (.slice (some ⟨r,0,none⟩) xs.length c)) (hf:w.frozen? ⟨g,q,none⟩=false)
  (ho:w.ownsRow base 31 1 (.slice (some ⟨r,0,none⟩) xs.length c) xs.length (u32s xs)) (hne:r≠g) (h0:0<xs.length) (hn:xs.length≤1000000) (hr:(xs.length:Int)≤room):
  Calls Tryz.prog 233 #[.pointer (some ⟨g,q,none⟩),.int .i64 room] w (Told w g q xs):=by
 obtain ⟨i0,hi,hz0,hz1,hz2⟩:=info_parts info_u32;have hglt:g<w.heap.size:=World.block_lt_of_cell? w ⟨g,q,none⟩ hc;have HN:Hid (i0.zero=some (.int .u32 0)∧i0.size=1∧i0.bytes=4∧Tryz.prog.info? 31=some i0):=⟨hz0,hz1,hz2,hi⟩
 have HO:=Lib.hid ho;have hle:xs.length≤c:=by
  rcases ho.2 with ⟨h1,_⟩|⟨g',cap,cur,h1,_,_,h4,_⟩
  ·cases h1
  ·injection h1 with _ _ h1;omega
 have hm:c≤9223372036854775807:=by
  rcases ho.2 with ⟨h1,_⟩|⟨g',cap,cur,h1,_,_,h4,h5,_⟩
  ·cases h1
  ·injection h1 with _ _ h1;unfold maxLen at h5;omega
 have hcells:=ho.cells (g:=r) rfl;have HCE:=Lib.hid hcells;have HC:=Lib.hid hc;have hsz:i0.size=1:=hz1;have hix:=hi;clear ho hz0 hz2 hi hcells;obtain ⟨n,hnn⟩:∃n,n=xs.length:=⟨_,rfl⟩
 rw [←hnn] at hle h0 hn hr hc;have HNN:=Lib.hid hnn;clear hnn;have h1:(if (n:Int)<(if room<0 then 0 else room) then (n:Int) else (if room<0 then 0 else room))=n:=by
  rw [if_neg (show ¬room<0 by omega)]
  split <;>omega
 have h2:¬room<0:=by omega
 have h3:(if (n:Int)<room then (n:Int) else room)=n:=by split <;>omega
 by_cases hcn:c=n
 ·subst hcn
  go_enter Tryz.func233,Tryz.ntmps233;go_wp2_with (at_builtin;refine wpList_append_lies _ rfl (.const (.slice none 0 0)) (.tmp 20) 24 rfl w.heap.size 31 i0 (.int .u32 0) 1 4 Tryz.underlying24 HN.out.2.2.2 HN.out.1 HN.out.2.1 HN.out.2.2.1 rfl (by decide) (.slice none 0 0) 0 [] rfl (World.ownsRow_nil _ _ _ _) ⟨r,0,none⟩ _ _ (u32s xs) rfl ?c1 ?c2 ?c3 ?c4 ?c5 ?c6 (Nat.le_refl _) _ rfl ?_;(case c1=>rw [u32s_length,HNN.out];omega);(case c2=>exact HCE.out);(case c3=>intro u hu;unfold u32s at hu;rw [List.mem_map] at hu;obtain ⟨y,_,rfl⟩:=hu;rfl);(case c4=>omega);(case c5=>unfold maxLen;omega);(case c6=>omega);intro r1 c1 w1 hown1 hgrow1 hat1 hlt1;have HO1:=Lib.hid hown1;have hb1:Below w.heap.size w w1:=(Below.refl _ w).grown hgrow1 (Nat.le_refl _) (fun k hk=>by simp [Value.ownBlock] at hk);have hcs1:w1.cell? ⟨g,q,none⟩=_:=(hb1.cell (p:=⟨g,q,none⟩) hglt).trans HC.out;have hfs1:w1.frozen? ⟨g,q,none⟩=false:=(hb1.frozen (p:=⟨g,q,none⟩) hglt).trans hf;rw [←HNN.out] at hcs1;have HB1:=Lib.hid hb1;clear hown1 hgrow1 hat1 hlt1 hb1)
  go_ret;have hO:=HO1.out;simp only [Nat.zero_add,List.nil_append] at hO;unfold Told;rw [←HNN.out]
  exact ⟨r1,c1,w1,_,by simp,rfl,hO,HB1.out⟩
 ·have hcn':n<c:=by omega
  clear hcn;go_enter Tryz.func233,Tryz.ntmps233;go_wp2_with (at_builtin;refine wpList_append_lies _ rfl (.const (.slice none 0 0)) (.tmp 20) 24 rfl w.heap.size 31 i0 (.int .u32 0) 1 4 Tryz.underlying24 HN.out.2.2.2 HN.out.1 HN.out.2.1 HN.out.2.2.1 rfl (by decide) (.slice none 0 0) 0 [] rfl (World.ownsRow_nil _ _ _ _) ⟨r,0,none⟩ _ _ (u32s xs) rfl ?c1 ?c2 ?c3 ?c4 ?c5 ?c6 (Nat.le_refl _) _ rfl ?_;(case c1=>rw [u32s_length,HNN.out];omega);(case c2=>exact HCE.out);(case c3=>intro u hu;unfold u32s at hu;rw [List.mem_map] at hu;obtain ⟨y,_,rfl⟩:=hu;rfl);(case c4=>omega);(case c5=>unfold maxLen;omega);(case c6=>omega);intro r1 c1 w1 hown1 hgrow1 hat1 hlt1;have HO1:=Lib.hid hown1;have hb1:Below w.heap.size w w1:=(Below.refl _ w).grown hgrow1 (Nat.le_refl _) (fun k hk=>by simp [Value.ownBlock] at hk);have hcs1:w1.cell? ⟨g,q,none⟩=_:=(hb1.cell (p:=⟨g,q,none⟩) hglt).trans HC.out;have hfs1:w1.frozen? ⟨g,q,none⟩=false:=(hb1.frozen (p:=⟨g,q,none⟩) hglt).trans hf;rw [←HNN.out] at hcs1;have HB1:=Lib.hid hb1;clear hown1 hgrow1 hat1 hlt1 hb1)
  go_ret;have hO:=HO1.out;simp only [Nat.zero_add,List.nil_append] at hO;unfold Told;rw [←HNN.out]
  exact ⟨r1,c1,w1,_,by simp,rfl,hO,HB1.out⟩
end Stp
namespace Out
open Go.RowKit Win Stp Go.Proofs.YtooiooledeblmaaGreatW.PrintMore
attribute [local go_sem] max2_int min2_int max_two min_two
def outCells (b:B4) (l:List Int) (rs:List Value):Array Value:=(.int .i64 b.at_:: .int .i64 b.err:: .int .i64 b.pl:: .bool b.fin:: .string (strOfNums l)::rs).toArray
structure OutAt (T:TypeId) (w:World) (g:Nat) (b:B4) (l:List Int) (rs:List Value):Prop where
 blk:w.heap[g]? =some (.cells (outCells b l rs) T (0,0))
section
variable {T:TypeId} {w:World} {g:Nat} {b:B4} {l:List Int} {rs:List Value}
theorem OutAt.base (h:OutAt T w g b l rs):BaseAt w g b:=⟨by rw [cell_of h.blk];rfl,by rw [cell_of h.blk];rfl,by rw [cell_of h.blk];rfl,by rw [cell_of h.blk];rfl,frozen_of h.blk⟩
theorem OutAt.fz (h:OutAt T w g b l rs):∀j,w.frozen? ⟨g,j,none⟩=false:=frozen_of h.blk
theorem OutAt.c4 (h:OutAt T w g b l rs):w.cell? ⟨g,4,none⟩=some (.string (strOfNums l)):=by rw [cell_of h.blk];rfl
theorem OutAt.c5 {v:Value} (h:OutAt T w g b l (v::rs)):w.cell? ⟨g,5,none⟩=some v:=by rw [cell_of h.blk];rfl
theorem OutAt.lt (h:OutAt T w g b l rs):g<w.heap.size:=(Array.getElem?_eq_some_iff.1 h.blk).1
theorem OutAt.keep {w':World} (h:OutAt T w g b l rs) (h0:w'.heap[g]? =w.heap[g]?):OutAt T w' g b l rs:=⟨h0.trans h.blk⟩
theorem OutAt.alloc (h:OutAt T w g b l rs) (o:Obj):OutAt T (w.alloc o) g b l rs:=h.keep (Below.heap_alloc w o g h.lt)
theorem OutAt.below {w':World} (h:OutAt T w g b l rs) (hb:Below w.heap.size w w'):OutAt T w' g b l rs:=h.keep (hb.block g h.lt)
theorem OutAt.drewN (h:OutAt T w g b l rs) (n:Nat):OutAt T (w.drewN n) g b l rs:=h.keep rfl
theorem OutAt.set (h:OutAt T w g b l rs) (j:Nat) (v:Value) {b':B4} {l':List Int} {rs':List Value} (he:(outCells b l rs).setIfInBounds j v=outCells b' l' rs'):OutAt T (w.setCell ⟨g,j,none⟩ v) g b' l' rs':=by
 refine ⟨?_⟩
 rw [heap_setCell_same w g j _ _ _ h.blk,he]
theorem OutAt.setAt (h:OutAt T w g b l rs) (n:Int):OutAt T (w.setCell ⟨g,0,none⟩ (.int .i64 n)) g {b with at_:=n} l rs:=h.set 0 _ (by simp [outCells])
theorem OutAt.setFin (h:OutAt T w g b l rs) (f:Bool):OutAt T (w.setCell ⟨g,3,none⟩ (.bool f)) g {b with fin:=f} l rs:=h.set 3 _ (by simp [outCells])
theorem OutAt.setStr (h:OutAt T w g b l rs) (l':List Int):OutAt T (w.setCell ⟨g,4,none⟩ (.string (strOfNums l'))) g b l' rs:=h.set 4 _ (by simp [outCells])
theorem OutAt.set5 {v:Value} (h:OutAt T w g b l (v::rs)) (v':Value):OutAt T (w.setCell ⟨g,5,none⟩ v') g b l (v'::rs):=h.set 5 _ (by simp [outCells])
end
def ES (g:Nat):Nat→Prop:=fun i=>i=g
theorem es_g {g:Nat} {w:World} (j:Nat) (v:Value):Chg (ES g) w (w.setCell ⟨g,j,none⟩ v):=Chg.set (S:=ES g) w rfl j v
theorem str_append (a b:List Int):strOfNums a++strOfNums b=strOfNums (a++b):=by
 have:(strOfNums a++strOfNums b).data=(strOfNums (a++b)).data:=by
  rw [ByteArray.data_append]
  simp [strOfNums]
 cases h1:(strOfNums a++strOfNums b)
 cases h2:strOfNums (a++b)
 rw [h1,h2] at this;simp only at this;rw [this]
theorem str_size (a:List Int):(strOfNums a).size=a.length:=by simp [strOfNums,ByteArray.size]
theorem str_extract (l:List Int) (a b:Nat):(strOfNums l).extract a b=strOfNums ((l.drop a).take (b-a)):=by
 have:((strOfNums l).extract a b).data=(strOfNums ((l.drop a).take (b-a))).data:=by
  rw [ByteArray.data_extract]
  simp [strOfNums,List.extract_eq_take_drop]
 cases h1:(strOfNums l).extract a b
 cases h2:strOfNums ((l.drop a).take (b-a))
 rw [h1,h2] at this;simp only at this;rw [this]
def isB (c:Int):Bool:=decide (c≤1114111)&&(decide (c<55296)||decide (57343<c))
theorem isB_iff {c:Int}:isB c=true↔c≤1114111∧(c<55296∨57343<c):=by unfold isB;simp
theorem sis_calls (c:Int) (w:World):Calls Tryz.prog 77 #[.int .u32 c] w fun e w'=>e= .returned (.bool (isB c))∧w=w':=by
 unfold isB
 by_cases h1:c≤1114111
 ·by_cases h2:c<55296
  ·rw [decide_eq_true h1,decide_eq_true h2]
   go_enter Tryz.func77,Tryz.ntmps77;go_wp2;go_ret;exact ⟨rfl,rfl⟩
  ·rw [decide_eq_true h1,decide_eq_false h2]
   go_enter Tryz.func77,Tryz.ntmps77;go_wp2;go_ret;exact ⟨rfl,rfl⟩
 ·rw [decide_eq_false h1]
  go_enter Tryz.func77,Tryz.ntmps77;go_wp2;go_ret;exact ⟨rfl,rfl⟩
section
variable {T:TypeId} {w:World} {g:Nat} {b:B4} {l:List Int} {rs:List Value}
theorem give_calls (room:Int) (h:OutAt T w g b l rs) (hl:l.length≤1000000) (hr:(l.length:Int)≤room):Calls Tryz.prog 144 #[.pointer (some ⟨g,4,none⟩),.int .i64 room] w fun e w'=>e= .returned (.string (strOfNums l))∧OutAt T w' g b [] rs∧Chg (ES g) w w':=by
 have h4:=h.c4;have f4:=h.fz 4;have hst:=h.setStr []
 have s1:=str_size l;have e1:=str_extract l 0 l.length;have e2:=str_extract l l.length l.length;rw [←s1] at e1 e2;have t1:(l.drop 0).take ((strOfNums l).size-0)=l:=by rw [s1];simp
 have t2:(l.drop (strOfNums l).size).take ((strOfNums l).size-(strOfNums l).size)=[]:=by simp
 rw [t1] at e1;rw [t2] at e2;have hsz:(strOfNums l).size≤1000000:=by omega
 have hrm:((strOfNums l).size:Int)≤room:=by omega
 have HS:=Lib.hid hst;obtain ⟨Z,hZ⟩:∃Z,Z=strOfNums []:=⟨_,rfl⟩
 rw [←hZ] at e2;have HZ:=Lib.hid hZ;clear h hst t1 t2 s1 hl hr hZ;generalize strOfNums l=A at*;have hnn:(if (if room<0 then 0 else room)<(A.size:Int) then (if room<0 then 0 else room) else (A.size:Int))=A.size:=by repeat' (first|omega|split)
 have HN:=Lib.hid hnn;clear hnn;go_enter Tryz.func144,Tryz.ntmps144;go_upto_region 1 with fail;go_cut [5] (fun v wx=>v= .int .i64 (A.size:Int)∧w=wx)
 case first=>
  go_wp2_with fail
  all_goals
   go_meet;refine ⟨?_,rfl⟩
   congr 1
   repeat' (first|omega|split)
 case rest=>
  obtain ⟨rfl,rfl⟩:=hcut;go_wp2_with fail;go_ret;refine ⟨rfl,?_,es_g 4 _⟩
  have:=HS.out;rw [show strOfNums []=ByteArray.empty from rfl] at this;exact this
theorem kept_calls (h:OutAt T w g b l rs) (hl:l.length≤1000000):Calls Tryz.prog 142 #[.pointer (some ⟨g,4,none⟩)] w fun e w'=>e= .returned (.int .i64 l.length)∧w=w':=by
 have h4:=h.c4;have s1:=str_size l;generalize strOfNums l=A at*;clear h;rw [←s1] at hl ⊢;clear s1;go_enter Tryz.func142,Tryz.ntmps142;go_wp2;go_ret;exact ⟨rfl,rfl⟩
theorem keep_calls (xs:List Int) (h:OutAt T w g b l rs) (hl:l.length≤1000000) (hx:xs.length≤1000000):Calls Tryz.prog 146 #[.pointer (some ⟨g,4,none⟩),.string (strOfNums xs)] w fun e w'=>e= .returned (.tuple #[])∧OutAt T w' g b (l++xs) rs∧Chg (ES g) w w':=by
 have h4:=h.c4;have f4:=h.fz 4;have HS:=Lib.hid (h.setStr (l++xs))
 have HA:=Lib.hid (str_append l xs)
 have s1:=str_size l;have s2:=str_size xs;rw [←s1] at hl;rw [←s2] at hx;clear h s1 s2;generalize strOfNums l=A at*;generalize strOfNums xs=X at*;go_enter Tryz.func146,Tryz.ntmps146;go_wp2;go_end0;refine ⟨rfl,?_,es_g 4 _⟩
 rw [HA.out]
 exact HS.out
theorem oend_calls (h:OutAt T w g b l rs) (hg:b.going=true):Calls Tryz.prog 139 #[.pointer (some ⟨g,0,none⟩)] w fun e w'=>e= .returned (.tuple #[])∧OutAt T w' g {b with fin:=true} l rs∧Chg (ES g) w w':=by
 refine (bend_calls g b w h.base).mono ?_;rintro e w' ⟨rfl,rfl⟩
 rw [if_pos hg]
 exact ⟨rfl,h.setFin true,es_g 3 _⟩
theorem odone_calls (h:OutAt T w g b l rs) (hl:l.length≤1000000):Calls Tryz.prog 138 #[.pointer (some ⟨g,0,none⟩)] w fun e w'=>e= .returned (.bool (!b.going&&(l.length==0)))∧w=w':=by
 have hgo:=Lib.hid (going_calls g b w h.base)
 have hke:=Lib.hid (kept_calls h hl)
 clear h
 cases hg:b.going with
 |true=>
  rw [hg] at hgo;clear hg;go_enter Tryz.func138,Tryz.ntmps138;go_wp2_with fail;refine hgo.out.mono ?_;rintro e w1 ⟨rfl,rfl⟩
  go_wp2_with fail;go_ret;exact ⟨rfl,rfl⟩
 |false=>
  rw [hg] at hgo;clear hg;go_enter Tryz.func138,Tryz.ntmps138;go_wp2_with fail;refine hgo.out.mono ?_;rintro e w1 ⟨rfl,rfl⟩
  go_wp2_with fail;refine hke.out.mono ?_;rintro e w1 ⟨rfl,rfl⟩
  go_wp2_with fail;go_ret;refine ⟨?_,rfl⟩
  have:((l.length:Int)==0)=(l.length==0):=by rw [Bool.eq_iff_iff];simp
  simp [this]
end
end Out
end Go.Proofs.YtooiooledeblmaaGreat
