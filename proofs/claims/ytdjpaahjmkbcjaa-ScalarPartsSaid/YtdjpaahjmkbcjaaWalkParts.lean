/- ScalarParts: the law's own walk, over the printed functions' contracts. -/
import Derived.Test.YtdjpaahjmkbcjaaPScalarPartsx2
namespace Go.Proofs.Ytdjpaahjmkbcjaa.PScalarParts
open Go.RowKit Go.Proofs.YtdjpaahjmkbcjaaW.PrintWords Go.Proofs.YtdjpaahjmkbcjaaW.PrintLast Go.Proofs.YtdjpaahjmkbcjaaW.PrintMore
set_option linter.unusedVariables false
theorem bt2 {w w1 w2 : World} (h : Below w.heap.size w w1) (k : Below w1.heap.size w1 w2) : Below w.heap.size w w2 := below_then h h.size k
set_option maxHeartbeats 400000 in
theorem parts_big (A0 : Option Addr) (c0 : Nat) (l0 : List Int) (A1 : Option Addr) (c1 : Nat) (l1 : List Int) (A2 : Option Addr) (c2 : Nat) (l2 : List Int) (w : World) (k : Nat) (ha : pilcrowlaw01_awake.f k = some true)
    (hb : ((l0.length : Int) > 500) ∨ (l1.length : Int) > 500 ∨ (l2.length : Int) > 500) :
    Calls Try.prog 7 #[.slice A0 l0.length c0, .slice A1 l1.length c1, .slice A2 l2.length c2] w fun e w' => e = .returned (.bool true) ∧ Below w.heap.size w w' := by
  have hA : ∀ w, Calls Try.prog 8 #[] w fun e w' => e = .returned (.bool true) ∧ Below w.heap.size w w' := fun w => pilcrowlaw01_awake.calls k true w ha
  clear ha
  by_cases h0 : (l0.length : Int) > 500
  · clear hb
    go_enter Try.func7, Try.ntmps7
    go_wp2_with (go_at_call 8; refine (hA _).mono ?_; rintro e w1 ⟨rfl, HB⟩)
    go_ret
    exact ⟨rfl, bt2 ‹_› ‹_›⟩
  · by_cases h1 : (l1.length : Int) > 500
    · clear hb
      go_enter Try.func7, Try.ntmps7
      go_wp2_with (go_at_call 8; refine (hA _).mono ?_; rintro e w1 ⟨rfl, HB⟩)
      go_ret
      exact ⟨rfl, bt2 ‹_› ‹_›⟩
    · have h2 : (l2.length : Int) > 500 := by omega
      clear hb
      go_enter Try.func7, Try.ntmps7
      go_wp2_with (go_at_call 8; refine (hA _).mono ?_; rintro e w1 ⟨rfl, HB⟩)
      go_ret
      exact ⟨rfl, bt2 ‹_› ‹_›⟩
/-- A fresh row of two slices reads as the two. -/
theorem two_rows {w : World} {A B : Option Addr} {a b : List Int} {ca cb : Nat} (hA : Kd.C (Kd.int .u32) w A a.length a) (hB : Kd.C (Kd.int .u32) w B b.length b) (hca : a.length ≤ ca) (hcb : b.length ≤ cb) (t : TypeId) :
    Kd.C (Kd.slice 22 (Kd.int .u32)) (w.alloc (.cells #[.slice A a.length ca, .slice B b.length cb] t)) (some ⟨w.heap.size, 0, none⟩) 2 [a, b] := by
  have bl : Below w.heap.size w (w.alloc (.cells #[.slice A a.length ca, .slice B b.length cb] t)) := (Below.refl _ _).alloc (Nat.le_refl _) _
  refine ⟨rfl, by decide, fun _ => ⟨_, rfl, fun j p hj => ?_⟩⟩
  match j, hj with
  | 0, hj =>
    simp at hj
    subst hj
    refine ⟨[.slice A a.length ca], rfl, ⟨A, ca, rfl, hca, Kd.C_below hA bl⟩, fun i u hu => ?_⟩
    match i, hu with
    | 0, hu => simp at hu; subst hu; simp [Addr.add, Kd.slice]
  | 1, hj =>
    simp at hj
    subst hj
    refine ⟨[.slice B b.length cb], rfl, ⟨B, cb, rfl, hcb, Kd.C_below hB bl⟩, fun i u hu => ?_⟩
    match i, hu with
    | 0, hu => simp at hu; subst hu; simp [Addr.add, Kd.slice]
set_option maxHeartbeats 1000000 in
theorem parts_small (A0 : Option Addr) (c0 : Nat) (l0 : List Int) (A1 : Option Addr) (c1 : Nat) (l1 : List Int) (A2 : Option Addr) (c2 : Nat) (l2 : List Int) (w : World) (k : Nat) (ha : pilcrowlaw01_awake.f k = some true)
    (hr0 : Kd.C (Kd.int .u32) w A0 l0.length l0) (hc0 : l0.length ≤ c0) (hr1 : Kd.C (Kd.int .u32) w A1 l1.length l1) (hc1 : l1.length ≤ c1) (hr2 : Kd.C (Kd.int .u32) w A2 l2.length l2) (hc2 : l2.length ≤ c2)
    (h0 : ¬ (l0.length : Int) > 500) (h1 : ¬ (l1.length : Int) > 500) (h2 : ¬ (l2.length : Int) > 500) (x y : List Int) (o u v : Int)
    (hx : scalar_Join.f k [l2, l0] = some x) (hy : scalar_Join.f k [l2, l1] = some y) (ho : scalar_Order.f k x y = some o) (ho' : scalar_Order.f k l0 l1 = some o) (hu : scalar_Units.f k x = some (u + v)) (hu2 : scalar_Units.f k l2 = some u) (hu0 : scalar_Units.f k l0 = some v)
    (bu : 0 ≤ u) (bu' : u ≤ 10000) (bv : 0 ≤ v) (bv' : v ≤ 10000) :
    Calls Try.prog 7 #[.slice A0 l0.length c0, .slice A1 l1.length c1, .slice A2 l2.length c2] w fun e w' => e = .returned (.bool true) ∧ Below w.heap.size w w' := by
  have hA : ∀ w, Calls Try.prog 8 #[] w fun e w' => e = .returned (.bool true) ∧ Below w.heap.size w w' := fun w => pilcrowlaw01_awake.calls k true w ha
  have HX := Aside0.mk hx
  have HY := Aside0.mk hy
  have HO := Aside0.mk ho
  have HO' := Aside0.mk ho'
  have HU := Aside0.mk hu
  have HU2 := Aside0.mk hu2
  have HU0 := Aside0.mk hu0
  have R0 := Aside0.mk hr0
  have R1 := Aside0.mk hr1
  have R2 := Aside0.mk hr2
  have C0 := Aside0.mk hc0
  have C1 := Aside0.mk hc1
  have C2 := Aside0.mk hc2
  clear ha hx hy ho ho' hu hu2 hu0 hr0 hr1 hr2 hc0 hc1 hc2
  go_enter Try.func7, Try.ntmps7
  go_wp2_with (go_at_call 8; refine (hA _).mono ?_; rintro e w1 ⟨rfl, HB⟩)
  clear hA
  have B1 := Aside0.mk HB
  clear HB
  refine (scalar_Join.calls k _ _ [l2, l0] x _ (two_rows (Kd.C_below R2.out B1.out) (Kd.C_below R0.out B1.out) C2.out C0.out 26) (Nat.le_refl _) HX.out).mono ?_
  rintro e w2 ⟨vx, rfl, hRx, HB2⟩
  have X1 := Aside0.mk hRx
  have B2 := Aside0.mk (bt2 B1.out (below_alloc (Below.refl _ _) (.cells #[.slice A2 l2.length c2, .slice A0 l0.length c0] 26)))
  have B3 := Aside0.mk (bt2 B2.out HB2)
  clear hRx HB2
  obtain ⟨Ax, cx, rfl⟩ := Kd.R_slice X1.out
  go_wp2_with fail
  refine (scalar_Join.calls k _ _ [l2, l1] y _ (two_rows (Kd.C_below R2.out B3.out) (Kd.C_below R1.out B3.out) C2.out C1.out 26) (Nat.le_refl _) HY.out).mono ?_
  rintro e w3 ⟨vy, rfl, hRy, HB4⟩
  have Y1 := Aside0.mk hRy
  have B5 := Aside0.mk (bt2 (below_alloc (Below.refl w2.heap.size w2) (.cells #[.slice A2 l2.length c2, .slice A1 l1.length c1] 26)) HB4)
  have B4 := Aside0.mk (bt2 B3.out B5.out)
  clear hRy HB4
  obtain ⟨Ay, cy, rfl⟩ := Kd.R_slice Y1.out
  have X2 := Aside0.mk (Kd.C_below (Kd.R_reads' X1.out).2.2 B5.out)
  have CX := Aside0.mk (Kd.R_reads' X1.out).2.1
  have CY := Aside0.mk (Kd.R_reads' Y1.out).2.1
  have Y2 := Aside0.mk (Kd.R_reads' Y1.out).2.2
  go_wp2_with fail
  refine (scalar_Order.calls k _ _ x _ _ y o _ X2.out CX.out Y2.out CY.out HO.out).mono ?_
  rintro e w4 ⟨rfl, ⟨n4, rfl⟩⟩
  go_wp2_with fail
  refine (scalar_Order.calls k _ _ l0 _ _ l1 o _ (Kd.C_drewN (Kd.C_below R0.out B4.out) _) C0.out (Kd.C_drewN (Kd.C_below R1.out B4.out) _) C1.out HO'.out).mono ?_
  rintro e w5 ⟨rfl, ⟨n5, rfl⟩⟩
  go_wp2_with fail
  refine (scalar_Units.calls k _ _ x _ _ (Kd.C_drewN X2.out _) CX.out HU.out).mono ?_
  rintro e w6 ⟨rfl, ⟨n6, rfl⟩⟩
  go_wp2_with fail
  refine (scalar_Units.calls k _ _ l2 _ _ (Kd.C_drewN (Kd.C_below R2.out B4.out) _) C2.out HU2.out).mono ?_
  rintro e w7 ⟨rfl, ⟨n7, rfl⟩⟩
  go_wp2_with fail
  refine (scalar_Units.calls k _ _ l0 _ _ (Kd.C_drewN (Kd.C_below R0.out B4.out) _) C0.out HU0.out).mono ?_
  rintro e w8 ⟨rfl, ⟨n8, rfl⟩⟩
  go_wp2_with fail
  go_ret
  exact ⟨by simp, pw_below_drewN B4.out _⟩
end Go.Proofs.Ytdjpaahjmkbcjaa.PScalarParts
