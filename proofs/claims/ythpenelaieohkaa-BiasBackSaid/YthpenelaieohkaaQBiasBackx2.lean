/- Written by a program of this session: functions, and their walks. -/
import Derived.Test.YthpenelaieohkaaQBiasBackx0
import Derived.Test.YthpenelaieohkaaQBiasBackx1
namespace Go.Proofs.Ythpenelaieohkaa.QBiasBack
open Go.RowKit Go.Proofs.YthpenelaieohkaaW.PrintWords Go.Proofs.YthpenelaieohkaaW.PrintLast Go.Proofs.YthpenelaieohkaaW.PrintMore
attribute [local go_sem] max2_int min2_int max_two min_two max_three min_three max_four min_four   -- for this text's walks alone
set_option linter.unusedVariables false
set_option linter.unusedSimpArgs false

/-! ### bias_Get: function 21 -/
mutual
def bias_Get.j0 : Nat → ByteArray → Int → Int → Bool → Option (Int × Int × Int)
  | 0, _, _, _, _ => none
  | k + 1, x0, x1, x2, x22 => if x22 = true then (some (0, 0, 1)) else (bias_Get.l0 k x0 x1 x2 0 1 0)
def bias_Get.l0 : Nat → ByteArray → Int → Int → Int → Int → Int → Option (Int × Int × Int)
  | 0, _, _, _, _, _, _ => none
  | k + 1, x0, x1, x2, x9, x10, x11 => if x1 = (x0.size : Int) then (some (0, 0, 4)) else (if 0 ≤ x1 then (if x1 < (x0.size : Int) then ((bias_Digit.f k (bt x0 x1)).bind fun bt124 => (if bt124.2 = true then (if bt124.1 > 0 then (if (IntKind.u64.wrap (bt124.1)) = 0 then (none) else (bias_Get.j2 k x0 x1 x2 x9 x10 x11 bt124.1 (decide (x10 > (IntKind.u64.wrap (Int.tdiv (IntKind.u64.wrap (4611686018427387904 - x9)) (IntKind.u64.wrap (bt124.1)))))))) else (bias_Get.j2 k x0 x1 x2 x9 x10 x11 bt124.1 false)) else (some (0, 0, 3)))) else (none)) else (none))
def bias_Get.j2 : Nat → ByteArray → Int → Int → Int → Int → Int → Int → Bool → Option (Int × Int × Int)
  | 0, _, _, _, _, _, _, _, _ => none
  | k + 1, x0, x1, x2, x9, x10, x11, x12, x48 => if x48 = true then (some (0, 0, 5)) else ((bias_Threshold.f x11 x2).bind fun t126 => (if x12 < t126 then (some (IntKind.u64.wrap (x9 + (IntKind.u64.wrap ((IntKind.u64.wrap (x12)) * x10))), wrap64 (x1 + 1), 0)) else (if (IntKind.u64.wrap (wrap64 (36 - t126))) = 0 then (none) else (if x10 > (IntKind.u64.wrap (Int.tdiv (4611686018427387904 : Int) (IntKind.u64.wrap (wrap64 (36 - t126))))) then (bias_Get.l0 k x0 (wrap64 (x1 + 1)) x2 (IntKind.u64.wrap (x9 + (IntKind.u64.wrap ((IntKind.u64.wrap (x12)) * x10)))) 4611686018427387905 (wrap64 (x11 + 1))) else (bias_Get.l0 k x0 (wrap64 (x1 + 1)) x2 (IntKind.u64.wrap (x9 + (IntKind.u64.wrap ((IntKind.u64.wrap (x12)) * x10)))) (IntKind.u64.wrap (x10 * (IntKind.u64.wrap (wrap64 (36 - t126))))) (wrap64 (x11 + 1)))))))
end
def bias_Get.f (k : Nat) (a0 : ByteArray) (a1 : Int) (a2 : Int) : Option (Int × Int × Int) := if a1 < 0 then (bias_Get.j0 k a0 a1 a2 true) else (bias_Get.j0 k a0 a1 a2 (decide (a1 > (a0.size : Int))))
theorem bias_Get.mono_l : ∀ k, (∀ y0 y1 y2 y3, LeO (bias_Get.j0 k y0 y1 y2 y3) (bias_Get.j0 (k + 1) y0 y1 y2 y3)) ∧ (∀ y0 y1 y2 y3 y4 y5, LeO (bias_Get.l0 k y0 y1 y2 y3 y4 y5) (bias_Get.l0 (k + 1) y0 y1 y2 y3 y4 y5)) ∧ (∀ y0 y1 y2 y3 y4 y5 y6 y7, LeO (bias_Get.j2 k y0 y1 y2 y3 y4 y5 y6 y7) (bias_Get.j2 (k + 1) y0 y1 y2 y3 y4 y5 y6 y7))
  | 0 => ⟨fun _ _ _ _ r h => by simp [bias_Get.j0] at h, fun _ _ _ _ _ _ r h => by simp [bias_Get.l0] at h, fun _ _ _ _ _ _ _ _ r h => by simp [bias_Get.j2] at h⟩
  | k + 1 => by
    obtain ⟨ih0, ih1, ih2⟩ := bias_Get.mono_l k
    refine ⟨?_, ?_, ?_⟩
    · intro y0 y1 y2 y3
      unfold bias_Get.j0
      repeat' first
      | (with_reducible exact ih0 _ _ _ _)
      | (with_reducible exact ih1 _ _ _ _ _ _)
      | (with_reducible exact ih2 _ _ _ _ _ _ _ _)
      | (with_reducible exact bias_Digit.mono _ _)
      | (with_reducible exact LeO.refl _)
      | (with_reducible exact LeO.none _)
      | (with_reducible refine LeO.ite ?_ ?_)
      | (with_reducible refine LeO.bind ?_ (fun _ => ?_))
      | exact ih0 _ _ _ _
      | exact ih1 _ _ _ _ _ _
      | exact ih2 _ _ _ _ _ _ _ _
      | exact bias_Digit.mono _ _
      | exact LeO.none _
      | refine LeO.ite ?_ ?_
      | refine LeO.bind ?_ (fun _ => ?_)
    · intro y0 y1 y2 y3 y4 y5
      unfold bias_Get.l0
      repeat' first
      | (with_reducible exact ih0 _ _ _ _)
      | (with_reducible exact ih1 _ _ _ _ _ _)
      | (with_reducible exact ih2 _ _ _ _ _ _ _ _)
      | (with_reducible exact bias_Digit.mono _ _)
      | (with_reducible exact LeO.refl _)
      | (with_reducible exact LeO.none _)
      | (with_reducible refine LeO.ite ?_ ?_)
      | (with_reducible refine LeO.bind ?_ (fun _ => ?_))
      | exact ih0 _ _ _ _
      | exact ih1 _ _ _ _ _ _
      | exact ih2 _ _ _ _ _ _ _ _
      | exact bias_Digit.mono _ _
      | exact LeO.none _
      | refine LeO.ite ?_ ?_
      | refine LeO.bind ?_ (fun _ => ?_)
    · intro y0 y1 y2 y3 y4 y5 y6 y7
      unfold bias_Get.j2
      repeat' first
      | (with_reducible exact ih0 _ _ _ _)
      | (with_reducible exact ih1 _ _ _ _ _ _)
      | (with_reducible exact ih2 _ _ _ _ _ _ _ _)
      | (with_reducible exact bias_Digit.mono _ _)
      | (with_reducible exact LeO.refl _)
      | (with_reducible exact LeO.none _)
      | (with_reducible refine LeO.ite ?_ ?_)
      | (with_reducible refine LeO.bind ?_ (fun _ => ?_))
      | exact ih0 _ _ _ _
      | exact ih1 _ _ _ _ _ _
      | exact ih2 _ _ _ _ _ _ _ _
      | exact bias_Digit.mono _ _
      | exact LeO.none _
      | refine LeO.ite ?_ ?_
      | refine LeO.bind ?_ (fun _ => ?_)
theorem bias_Get.mono : ∀ a0 a1 a2 k, LeO (bias_Get.f k a0 a1 a2) (bias_Get.f (k + 1) a0 a1 a2) := by
  intro a0 a1 a2 k
  obtain ⟨ih0, ih1, ih2⟩ := bias_Get.mono_l k
  unfold bias_Get.f
  repeat' first
      | (with_reducible exact ih0 _ _ _ _)
      | (with_reducible exact ih1 _ _ _ _ _ _)
      | (with_reducible exact ih2 _ _ _ _ _ _ _ _)
      | (with_reducible exact bias_Digit.mono _ _)
      | (with_reducible exact LeO.refl _)
      | (with_reducible exact LeO.none _)
      | (with_reducible refine LeO.ite ?_ ?_)
      | (with_reducible refine LeO.bind ?_ (fun _ => ?_))
      | exact ih0 _ _ _ _
      | exact ih1 _ _ _ _ _ _
      | exact ih2 _ _ _ _ _ _ _ _
      | exact bias_Digit.mono _ _
      | exact LeO.none _
      | refine LeO.ite ?_ ?_
      | refine LeO.bind ?_ (fun _ => ?_)
set_option maxHeartbeats 8000000 in
set_option maxRecDepth 100000 in
theorem bias_Get.calls (k : Nat) (a0 : ByteArray) (a1 : Int) (a2 : Int) (r1 : Int) (r2 : Int) (r3 : Int) (w : World) (h : bias_Get.f k a0 a1 a2 = some (r1, r2, r3)) :
    Calls Try.prog 21 #[.string a0, .int .i64 a1, .int .i64 a2] w fun e w' => e = .returned (.tuple #[.int .u64 r1, .int .i64 r2, .int .i64 r3]) ∧ Below w.heap.size w w' := by
  have HB := Aside0.mk (Below.refl w.heap.size w)
  have H : (if a1 < 0 then (bias_Get.j0 k a0 a1 a2 true) else (bias_Get.j0 k a0 a1 a2 (decide (a1 > (a0.size : Int))))) = some (r1, r2, r3) := h
  clear h
  have HC4 := Aside0.mk H
  clear H
  go_enter Try.func21, Try.ntmps21
  go_upto_region 1 with (fail)
  go_cut [22] (fun v22 wc => ∃ (kq : Nat) (x22_3 : Bool), v22 = .bool x22_3 ∧ Aside0 (bias_Get.j0 kq a0 a1 a2 x22_3 = some (r1, r2, r3)) ∧ Aside0 (kq ≤ k) ∧ Aside0 (Below w.heap.size w wc))
  case first =>
    have H := HC4.out
    clear HC4
    by_cases c5 : a1 < 0
    · rw [if_pos c5] at H
      have c5b0 : decide (a1 < 0) = true := decide_eq_true c5
      clear c5
      (first | rw [c5b0] | (simp only [i64_w, i32_w]; rw [c5b0]) | skip)
      have H' := Aside0.mk H
      clear H
      go_wp2
      go_meet
      case rel => exact ⟨_, (true), (by first | rfl | (simp; done) | (simp [*]; done)), H', ⟨by first | omega | exact Nat.le_refl _⟩, ⟨by repeat (first | (with_reducible first | exact HB.out | apply below_alloc | apply pw_below_drewN | apply below_drew1) | exact HB.out)⟩⟩
    · rw [if_neg c5] at H
      have c5b0 : decide (a1 < 0) = false := decide_eq_false c5
      clear c5
      (first | rw [c5b0] | (simp only [i64_w, i32_w]; rw [c5b0]) | skip)
      have H' := Aside0.mk H
      clear H
      go_wp2
      go_meet
      case rel => exact ⟨_, (decide (a1 > (a0.size : Int))), (by first | rfl | (simp; done) | (simp [*]; done)), H', ⟨by first | omega | exact Nat.le_refl _⟩, ⟨by repeat (first | (with_reducible first | exact HB.out | apply below_alloc | apply pw_below_drewN | apply below_drew1) | exact HB.out)⟩⟩
  case rest =>
    clear HC4
    try clear c2
    try clear p2
    try clear c5
    try clear c5b0
    obtain ⟨kq, x22_3, rfl, HA, HJ3, HB⟩ := hcut
    cases kq with
    | zero => exact absurd HA.out (by simp [bias_Get.j0])
    | succ kj3 =>
      have H := HA.out
      clear HA
      simp only [bias_Get.j0] at H
      by_cases c6 : x22_3 = true
      · subst c6
        have H1 : (some (0, 0, 1)) = some (r1, r2, r3) := by rw [if_pos rfl] at H; exact H
        clear H
        have H := H1
        clear H1
        simp only [Option.some.injEq, Prod.mk.injEq] at H
        obtain ⟨rfl, rfl, rfl⟩ := H
        go_wp2
        go_ret3
        exact ⟨by first | rfl | (simp [errW_none, errW_some] <;> rfl) | (simp [*, errW_none, errW_some] <;> rfl), by repeat (first | (with_reducible first | exact HB.out | apply below_alloc | apply pw_below_drewN | apply below_drew1) | exact HB.out)⟩
      · replace c6 := Bool.eq_false_iff.mpr c6
        subst c6
        have H1 : (bias_Get.l0 kj3 a0 a1 a2 0 1 0) = some (r1, r2, r3) := by rw [if_neg (show ¬ (false = true) by decide)] at H; exact H
        clear H
        have H := H1
        clear H1
        have H' := Aside0.mk H
        clear H
        go_wp2
        go_loopg [1, 9, 10, 11] kj3 (fun kq v1 v9 v10 v11 w' => ∃ (x1_2 : Int) (x9_2 : Int) (x10_2 : Int) (x11_2 : Int), v1 = .int .i64 x1_2 ∧ v9 = .int .u64 x9_2 ∧ v10 = .int .u64 x10_2 ∧ v11 = .int .i64 x11_2 ∧ Aside0 (bias_Get.l0 kq a0 x1_2 a2 x9_2 x10_2 x11_2 = some (r1, r2, r3)) ∧ Aside0 (kq ≤ kj3) ∧ Aside0 (Below w.heap.size w w'))
        case atStart => exact ⟨(a1), (0), (1), (0), (by first | rfl | (simp; done) | (simp [*]; done)), (by first | rfl | (simp; done) | (simp [*]; done)), (by first | rfl | (simp; done) | (simp [*]; done)), (by first | rfl | (simp; done) | (simp [*]; done)), H', ⟨Nat.le_refl _⟩, ⟨by repeat (first | (with_reducible first | exact HB.out | apply below_alloc | apply pw_below_drewN | apply below_drew1) | exact HB.out)⟩⟩
        case round =>
          clear H'
          try clear c2
          try clear p2
          try clear c5
          try clear c5b0
          try clear c6
          try clear p2
          obtain ⟨x1_2, x9_2, x10_2, x11_2, rfl, rfl, rfl, rfl, HA, HK2, HB⟩ := hrel
          cases gk with
          | zero => exact absurd HA.out (by simp [bias_Get.l0])
          | succ k2 =>
            have H := HA.out
            clear HA
            simp only [bias_Get.l0] at H
            by_cases c7 : x1_2 = (a0.size : Int)
            · rw [if_pos c7] at H
              have c7b0 : (x1_2 == (a0.size : Int)) = true := beq_iff_eq.mpr c7
              have c7b1 : (x1_2 != (a0.size : Int)) = false := bne_eq_false_iff_eq.mpr c7
              clear c7
              simp only [Option.some.injEq, Prod.mk.injEq] at H
              obtain ⟨rfl, rfl, rfl⟩ := H
              go_wp2
              go_ret3
              exact ⟨by first | rfl | (simp [errW_none, errW_some] <;> rfl) | (simp [*, errW_none, errW_some] <;> rfl), by repeat (first | (with_reducible first | exact HB.out | apply below_alloc | apply pw_below_drewN | apply below_drew1) | exact HB.out)⟩
            · rw [if_neg c7] at H
              have c7b0 : (x1_2 == (a0.size : Int)) = false := beq_eq_false_iff_ne.mpr c7
              have c7b1 : (x1_2 != (a0.size : Int)) = true := bne_iff_ne.mpr c7
              by_cases c8 : 0 ≤ x1_2
              · rw [if_pos c8] at H
                have c8b0 : decide (0 ≤ x1_2) = true := decide_eq_true c8
                clear c8
                by_cases c9 : x1_2 < (a0.size : Int)
                · rw [if_pos c9] at H
                  have c9b0 : decide (x1_2 < (a0.size : Int)) = true := decide_eq_true c9
                  clear c9
                  replace H := Option.bind_eq_some_iff.mp H
                  obtain ⟨⟨t124, t125⟩, A110, H⟩ := H
                  replace H : (if t125 = true then (if t124 > 0 then (if (IntKind.u64.wrap (t124)) = 0 then (none) else (bias_Get.j2 k2 a0 x1_2 a2 x9_2 x10_2 x11_2 t124 (decide (x10_2 > (IntKind.u64.wrap (Int.tdiv (IntKind.u64.wrap (4611686018427387904 - x9_2)) (IntKind.u64.wrap (t124)))))))) else (bias_Get.j2 k2 a0 x1_2 a2 x9_2 x10_2 x11_2 t124 false)) else (some (0, 0, 3))) = some (r1, r2, r3) := H
                  have A11 := Aside0.mk A110
                  clear A110
                  by_cases c12 : t125 = true
                  · subst c12
                    have H1 : (if t124 > 0 then (if (IntKind.u64.wrap (t124)) = 0 then (none) else (bias_Get.j2 k2 a0 x1_2 a2 x9_2 x10_2 x11_2 t124 (decide (x10_2 > (IntKind.u64.wrap (Int.tdiv (IntKind.u64.wrap (4611686018427387904 - x9_2)) (IntKind.u64.wrap (t124)))))))) else (bias_Get.j2 k2 a0 x1_2 a2 x9_2 x10_2 x11_2 t124 false)) = some (r1, r2, r3) := by rw [if_pos rfl] at H; exact H
                    clear H
                    have H := H1
                    clear H1
                    have HC13 := Aside0.mk H
                    clear H
                    have p10 : 0 ≤ (x1_2 : Int) := of_decide_eq_true (by first | (with_reducible assumption) | assumption)
                    have q10 : x1_2 < (a0.size : Int) := of_decide_eq_true (by first | (with_reducible assumption) | assumption)
                    have hx10 := bt_at a0 x1_2
                    replace p10 := eq_true p10
                    replace q10 := eq_true q10
                    go_upto_region 11 with (first | ((with_reducible refine gate_callee (f := 15) rfl ?_); refine goesL_ (some 33) rfl rfl Try.func15 (by kernel_rfl) rfl #[.int .u8 (bt a0 x1_2)] rfl (by (try simp only [List.map_toArray, List.map_cons, List.map_nil]); first | done | rfl | (simp only [List.length_drop, List.length_take]; rfl)) ?_; (with_reducible refine (bias_Digit.calls k2 (bt a0 x1_2) t124 true _ A11.out).mono ?_); rintro e w' ⟨rfl, ⟨nd, rfl⟩⟩; refine ⟨_, rfl, ?_⟩))
                    (try simp only [Act.put, List.setIfInBounds_toArray, List.set_cons_zero, List.set_cons_succ])
                    go_cut [48] (fun v48 wc => ∃ (kq : Nat) (x48_12 : Bool), v48 = .bool x48_12 ∧ Aside0 (bias_Get.j2 kq a0 x1_2 a2 x9_2 x10_2 x11_2 t124 x48_12 = some (r1, r2, r3)) ∧ Aside0 (kq ≤ k2) ∧ Aside0 (Below w.heap.size w wc))
                    case first =>
                      have H := HC13.out
                      clear HC13
                      by_cases c14 : t124 > 0
                      · rw [if_pos c14] at H
                        have c14b0 : decide (0 < t124) = true := decide_eq_true c14
                        clear c14
                        (first | rw [c14b0] | (simp only [i64_w, i32_w]; rw [c14b0]) | skip)
                        by_cases c15 : (IntKind.u64.wrap (t124)) = 0
                        · rw [if_pos c15] at H
                          exact absurd H (by simp)
                        · rw [if_neg c15] at H
                          have c15b0 : ((IntKind.u64.wrap (t124)) == 0) = false := beq_eq_false_iff_ne.mpr c15
                          have c15b1 : ((IntKind.u64.wrap (t124)) != 0) = true := bne_iff_ne.mpr c15
                          have H' := Aside0.mk H
                          clear H
                          go_wp2
                          go_meet
                          case rel => exact ⟨_, (decide (x10_2 > (IntKind.u64.wrap (Int.tdiv (IntKind.u64.wrap (4611686018427387904 - x9_2)) (IntKind.u64.wrap (t124)))))), (by first | rfl | (simp; done) | (simp [*]; done)), H', ⟨by have := HJ3.out; have := HK2.out; first | omega | exact Nat.le_refl _⟩, ⟨by repeat (first | (with_reducible first | exact HB.out | apply below_alloc | apply pw_below_drewN | apply below_drew1) | exact HB.out)⟩⟩
                      · rw [if_neg c14] at H
                        have c14b0 : decide (0 < t124) = false := decide_eq_false c14
                        clear c14
                        (first | rw [c14b0] | (simp only [i64_w, i32_w]; rw [c14b0]) | skip)
                        have H' := Aside0.mk H
                        clear H
                        go_wp2
                        go_meet
                        case rel => exact ⟨_, (false), (by first | rfl | (simp; done) | (simp [*]; done)), H', ⟨by have := HJ3.out; have := HK2.out; first | omega | exact Nat.le_refl _⟩, ⟨by repeat (first | (with_reducible first | exact HB.out | apply below_alloc | apply pw_below_drewN | apply below_drew1) | exact HB.out)⟩⟩
                    case rest =>
                      clear HC13
                      try clear c1
                      try clear p1
                      try clear q1
                      try clear hx1
                      try clear c2
                      try clear p2
                      try clear c5
                      try clear c5b0
                      try clear c6
                      try clear c7
                      try clear c7b0
                      try clear c7b1
                      try clear c8
                      try clear c8b0
                      try clear c9
                      try clear c9b0
                      try clear p10
                      try clear q10
                      try clear hx10
                      try clear c12
                      try clear c14
                      try clear c14b0
                      try clear c15
                      try clear c15b0
                      try clear c15b1
                      try clear p10
                      try clear p2
                      try clear q10
                      obtain ⟨kq, x48_12, rfl, HA, HJ12, HB⟩ := hcut
                      cases kq with
                      | zero => exact absurd HA.out (by simp [bias_Get.j2])
                      | succ kj12 =>
                        have H := HA.out
                        clear HA
                        simp only [bias_Get.j2] at H
                        by_cases c16 : x48_12 = true
                        · subst c16
                          have H1 : (some (0, 0, 5)) = some (r1, r2, r3) := by rw [if_pos rfl] at H; exact H
                          clear H
                          have H := H1
                          clear H1
                          simp only [Option.some.injEq, Prod.mk.injEq] at H
                          obtain ⟨rfl, rfl, rfl⟩ := H
                          go_wp2
                          go_ret3
                          exact ⟨by first | rfl | (simp [errW_none, errW_some] <;> rfl) | (simp [*, errW_none, errW_some] <;> rfl), by repeat (first | (with_reducible first | exact HB.out | apply below_alloc | apply pw_below_drewN | apply below_drew1) | exact HB.out)⟩
                        · replace c16 := Bool.eq_false_iff.mpr c16
                          subst c16
                          have H1 : ((bias_Threshold.f x11_2 a2).bind fun t126 => (if t124 < t126 then (some (IntKind.u64.wrap (x9_2 + (IntKind.u64.wrap ((IntKind.u64.wrap (t124)) * x10_2))), wrap64 (x1_2 + 1), 0)) else (if (IntKind.u64.wrap (wrap64 (36 - t126))) = 0 then (none) else (if x10_2 > (IntKind.u64.wrap (Int.tdiv (4611686018427387904 : Int) (IntKind.u64.wrap (wrap64 (36 - t126))))) then (bias_Get.l0 kj12 a0 (wrap64 (x1_2 + 1)) a2 (IntKind.u64.wrap (x9_2 + (IntKind.u64.wrap ((IntKind.u64.wrap (t124)) * x10_2)))) 4611686018427387905 (wrap64 (x11_2 + 1))) else (bias_Get.l0 kj12 a0 (wrap64 (x1_2 + 1)) a2 (IntKind.u64.wrap (x9_2 + (IntKind.u64.wrap ((IntKind.u64.wrap (t124)) * x10_2)))) (IntKind.u64.wrap (x10_2 * (IntKind.u64.wrap (wrap64 (36 - t126))))) (wrap64 (x11_2 + 1))))))) = some (r1, r2, r3) := by rw [if_neg (show ¬ (false = true) by decide)] at H; exact H
                          clear H
                          have H := H1
                          clear H1
                          replace H := Option.bind_eq_some_iff.mp H
                          obtain ⟨t126, A170, H⟩ := H
                          replace H : (if t124 < t126 then (some (IntKind.u64.wrap (x9_2 + (IntKind.u64.wrap ((IntKind.u64.wrap (t124)) * x10_2))), wrap64 (x1_2 + 1), 0)) else (if (IntKind.u64.wrap (wrap64 (36 - t126))) = 0 then (none) else (if x10_2 > (IntKind.u64.wrap (Int.tdiv (4611686018427387904 : Int) (IntKind.u64.wrap (wrap64 (36 - t126))))) then (bias_Get.l0 kj12 a0 (wrap64 (x1_2 + 1)) a2 (IntKind.u64.wrap (x9_2 + (IntKind.u64.wrap ((IntKind.u64.wrap (t124)) * x10_2)))) 4611686018427387905 (wrap64 (x11_2 + 1))) else (bias_Get.l0 kj12 a0 (wrap64 (x1_2 + 1)) a2 (IntKind.u64.wrap (x9_2 + (IntKind.u64.wrap ((IntKind.u64.wrap (t124)) * x10_2)))) (IntKind.u64.wrap (x10_2 * (IntKind.u64.wrap (wrap64 (36 - t126))))) (wrap64 (x11_2 + 1)))))) = some (r1, r2, r3) := H
                          have A17 := Aside0.mk A170
                          clear A170
                          by_cases c18 : t124 < t126
                          · rw [if_pos c18] at H
                            have c18b0 : decide (t124 < t126) = true := decide_eq_true c18
                            clear c18
                            simp only [Option.some.injEq, Prod.mk.injEq] at H
                            obtain ⟨rfl, rfl, rfl⟩ := H
                            go_wp2_with (first | ((with_reducible refine gate_callee (f := 13) rfl ?_); refine goesL_ (some 59) rfl rfl Try.func13 (by kernel_rfl) rfl #[.int .i64 x11_2, .int .i64 a2] rfl (by (try simp only [List.map_toArray, List.map_cons, List.map_nil]); first | done | rfl | (simp only [List.length_drop, List.length_take]; rfl)) ?_; (with_reducible refine (bias_Threshold.calls x11_2 a2 t126 _ A17.out).mono ?_); rintro e w19 ⟨rfl, hb⟩; refine ⟨_, rfl, ?_⟩; have n0_ := Aside0.mk (below_step (by repeat (first | (with_reducible first | exact HB.out | apply below_alloc | apply pw_below_drewN | apply below_drew1) | exact HB.out)) hb); clear HB; have HB := n0_; clear n0_; (try clear hb); (try clear hb2); (try clear hk); (try clear hi)))
                            go_ret3
                            exact ⟨by first | rfl | (simp [errW_none, errW_some] <;> rfl) | (simp [*, errW_none, errW_some] <;> rfl), by repeat (first | (with_reducible first | exact HB.out | apply below_alloc | apply pw_below_drewN | apply below_drew1) | exact HB.out)⟩
                          · rw [if_neg c18] at H
                            have c18b0 : decide (t124 < t126) = false := decide_eq_false c18
                            clear c18
                            by_cases c20 : (IntKind.u64.wrap (wrap64 (36 - t126))) = 0
                            · rw [if_pos c20] at H
                              exact absurd H (by simp)
                            · rw [if_neg c20] at H
                              have c20b0 : ((IntKind.u64.wrap (wrap64 (36 - t126))) == 0) = false := beq_eq_false_iff_ne.mpr c20
                              have c20b1 : ((IntKind.u64.wrap (wrap64 (36 - t126))) != 0) = true := bne_iff_ne.mpr c20
                              by_cases c21 : x10_2 > (IntKind.u64.wrap (Int.tdiv (4611686018427387904 : Int) (IntKind.u64.wrap (wrap64 (36 - t126)))))
                              · rw [if_pos c21] at H
                                have c21b0 : decide ((IntKind.u64.wrap (Int.tdiv (4611686018427387904 : Int) (IntKind.u64.wrap (wrap64 (36 - t126))))) < x10_2) = true := decide_eq_true c21
                                clear c21
                                have H' := Aside0.mk H
                                clear H
                                go_wp2_with (first | ((with_reducible refine gate_callee (f := 13) rfl ?_); refine goesL_ (some 59) rfl rfl Try.func13 (by kernel_rfl) rfl #[.int .i64 x11_2, .int .i64 a2] rfl (by (try simp only [List.map_toArray, List.map_cons, List.map_nil]); first | done | rfl | (simp only [List.length_drop, List.length_take]; rfl)) ?_; (with_reducible refine (bias_Threshold.calls x11_2 a2 t126 _ A17.out).mono ?_); rintro e w22 ⟨rfl, hb⟩; refine ⟨_, rfl, ?_⟩; have n0_ := Aside0.mk (below_step (by repeat (first | (with_reducible first | exact HB.out | apply below_alloc | apply pw_below_drewN | apply below_drew1) | exact HB.out)) hb); clear HB; have HB := n0_; clear n0_; (try clear hb); (try clear hb2); (try clear hk); (try clear hi)))
                                go_roundg kj12
                                case measure => have := HJ3.out; have := HK2.out; have := HJ12.out; omega
                                case rel => exact ⟨(wrap64 (x1_2 + 1)), (IntKind.u64.wrap (x9_2 + (IntKind.u64.wrap ((IntKind.u64.wrap (t124)) * x10_2)))), (4611686018427387905), (wrap64 (x11_2 + 1)), (by first | rfl | (simp; done) | (simp [*]; done)), (by first | rfl | (simp; done) | (simp [*]; done)), (by first | rfl | (simp; done) | (simp [*]; done)), (by first | rfl | (simp; done) | (simp [*]; done)), H', ⟨by have := HJ3.out; have := HK2.out; have := HJ12.out; omega⟩, ⟨by repeat (first | (with_reducible first | exact HB.out | apply below_alloc | apply pw_below_drewN | apply below_drew1) | exact HB.out)⟩⟩
                              · rw [if_neg c21] at H
                                have c21b0 : decide ((IntKind.u64.wrap (Int.tdiv (4611686018427387904 : Int) (IntKind.u64.wrap (wrap64 (36 - t126))))) < x10_2) = false := decide_eq_false c21
                                clear c21
                                have H' := Aside0.mk H
                                clear H
                                go_wp2_with (first | ((with_reducible refine gate_callee (f := 13) rfl ?_); refine goesL_ (some 59) rfl rfl Try.func13 (by kernel_rfl) rfl #[.int .i64 x11_2, .int .i64 a2] rfl (by (try simp only [List.map_toArray, List.map_cons, List.map_nil]); first | done | rfl | (simp only [List.length_drop, List.length_take]; rfl)) ?_; (with_reducible refine (bias_Threshold.calls x11_2 a2 t126 _ A17.out).mono ?_); rintro e w23 ⟨rfl, hb⟩; refine ⟨_, rfl, ?_⟩; have n0_ := Aside0.mk (below_step (by repeat (first | (with_reducible first | exact HB.out | apply below_alloc | apply pw_below_drewN | apply below_drew1) | exact HB.out)) hb); clear HB; have HB := n0_; clear n0_; (try clear hb); (try clear hb2); (try clear hk); (try clear hi)))
                                go_roundg kj12
                                case measure => have := HJ3.out; have := HK2.out; have := HJ12.out; omega
                                case rel => exact ⟨(wrap64 (x1_2 + 1)), (IntKind.u64.wrap (x9_2 + (IntKind.u64.wrap ((IntKind.u64.wrap (t124)) * x10_2)))), (IntKind.u64.wrap (x10_2 * (IntKind.u64.wrap (wrap64 (36 - t126))))), (wrap64 (x11_2 + 1)), (by first | rfl | (simp; done) | (simp [*]; done)), (by first | rfl | (simp; done) | (simp [*]; done)), (by first | rfl | (simp; done) | (simp [*]; done)), (by first | rfl | (simp; done) | (simp [*]; done)), H', ⟨by have := HJ3.out; have := HK2.out; have := HJ12.out; omega⟩, ⟨by repeat (first | (with_reducible first | exact HB.out | apply below_alloc | apply pw_below_drewN | apply below_drew1) | exact HB.out)⟩⟩
                  · replace c12 := Bool.eq_false_iff.mpr c12
                    subst c12
                    have H1 : (some (0, 0, 3)) = some (r1, r2, r3) := by rw [if_neg (show ¬ (false = true) by decide)] at H; exact H
                    clear H
                    have H := H1
                    clear H1
                    simp only [Option.some.injEq, Prod.mk.injEq] at H
                    obtain ⟨rfl, rfl, rfl⟩ := H
                    have p10 : 0 ≤ (x1_2 : Int) := of_decide_eq_true (by first | (with_reducible assumption) | assumption)
                    have q10 : x1_2 < (a0.size : Int) := of_decide_eq_true (by first | (with_reducible assumption) | assumption)
                    have hx10 := bt_at a0 x1_2
                    replace p10 := eq_true p10
                    replace q10 := eq_true q10
                    go_wp2_with (first | ((with_reducible refine gate_callee (f := 15) rfl ?_); refine goesL_ (some 33) rfl rfl Try.func15 (by kernel_rfl) rfl #[.int .u8 (bt a0 x1_2)] rfl (by (try simp only [List.map_toArray, List.map_cons, List.map_nil]); first | done | rfl | (simp only [List.length_drop, List.length_take]; rfl)) ?_; (with_reducible refine (bias_Digit.calls k2 (bt a0 x1_2) t124 false _ A11.out).mono ?_); rintro e w' ⟨rfl, ⟨nd, rfl⟩⟩; refine ⟨_, rfl, ?_⟩))
                    go_ret3
                    exact ⟨by first | rfl | (simp [errW_none, errW_some] <;> rfl) | (simp [*, errW_none, errW_some] <;> rfl), by repeat (first | (with_reducible first | exact HB.out | apply below_alloc | apply pw_below_drewN | apply below_drew1) | exact HB.out)⟩
                · rw [if_neg c9] at H
                  exact absurd H (by simp)
              · rw [if_neg c8] at H
                exact absurd H (by simp)

/-! ### pilcrowlaw09_BiasBack: function 8 -/
def pilcrowlaw09_BiasBack.j0 : Nat → Int → Int → ByteArray → Bool → Option (Bool)
  | 0, _, _, _, _ => none
  | k + 1, x0, x1, x2, x21 => if x21 = true then ((pilcrowlaw09_awake.f k).bind fun t128 => (some t128)) else ((bias_Put.f k x0 x1).bind fun t129 => (if x2.size + t129.size ≤ 9223372036854775807 then (if (x2 ++ t129).size + x2.size ≤ 9223372036854775807 then ((bias_Get.f k ((x2 ++ t129) ++ x2) (x2.size : Int) x1).bind fun bt130 => (if bt130.2.2 = 0 then (if bt130.1 = x0 then (some (bt130.2.1 == (wrap64 ((x2.size : Int) + (t129.size : Int))))) else (some false)) else (some false))) else (none)) else (none)))
def pilcrowlaw09_BiasBack.f (k : Nat) (a0 : Int) (a1 : Int) (a2 : ByteArray) : Option (Bool) := (pilcrowlaw09_awake.f k).bind fun t127 => (if t127 = true then (if a0 > 4611686018427387904 then (pilcrowlaw09_BiasBack.j0 k a0 a1 a2 true) else (pilcrowlaw09_BiasBack.j0 k a0 a1 a2 (decide ((a2.size : Int) > 100)))) else (pilcrowlaw09_BiasBack.j0 k a0 a1 a2 true))
theorem pilcrowlaw09_BiasBack.mono_l : ∀ k, (∀ y0 y1 y2 y3, LeO (pilcrowlaw09_BiasBack.j0 k y0 y1 y2 y3) (pilcrowlaw09_BiasBack.j0 (k + 1) y0 y1 y2 y3))
  | 0 => fun _ _ _ _ r h => by simp [pilcrowlaw09_BiasBack.j0] at h
  | k + 1 => by
    have ih0 := pilcrowlaw09_BiasBack.mono_l k
    · intro y0 y1 y2 y3
      unfold pilcrowlaw09_BiasBack.j0
      repeat' first
      | (with_reducible exact ih0 _ _ _ _)
      | (with_reducible exact bias_Get.mono _ _ _ _)
      | (with_reducible exact bias_Put.mono _ _ _)
      | (with_reducible exact pilcrowlaw09_awake.mono _)
      | (with_reducible exact LeO.refl _)
      | (with_reducible exact LeO.none _)
      | (with_reducible refine LeO.ite ?_ ?_)
      | (with_reducible refine LeO.bind ?_ (fun _ => ?_))
      | exact ih0 _ _ _ _
      | exact bias_Get.mono _ _ _ _
      | exact bias_Put.mono _ _ _
      | exact pilcrowlaw09_awake.mono _
      | exact LeO.none _
      | refine LeO.ite ?_ ?_
      | refine LeO.bind ?_ (fun _ => ?_)
theorem pilcrowlaw09_BiasBack.mono : ∀ a0 a1 a2 k, LeO (pilcrowlaw09_BiasBack.f k a0 a1 a2) (pilcrowlaw09_BiasBack.f (k + 1) a0 a1 a2) := by
  intro a0 a1 a2 k
  have ih0 := pilcrowlaw09_BiasBack.mono_l k
  unfold pilcrowlaw09_BiasBack.f
  repeat' first
      | (with_reducible exact ih0 _ _ _ _)
      | (with_reducible exact bias_Get.mono _ _ _ _)
      | (with_reducible exact bias_Put.mono _ _ _)
      | (with_reducible exact pilcrowlaw09_awake.mono _)
      | (with_reducible exact LeO.refl _)
      | (with_reducible exact LeO.none _)
      | (with_reducible refine LeO.ite ?_ ?_)
      | (with_reducible refine LeO.bind ?_ (fun _ => ?_))
      | exact ih0 _ _ _ _
      | exact bias_Get.mono _ _ _ _
      | exact bias_Put.mono _ _ _
      | exact pilcrowlaw09_awake.mono _
      | exact LeO.none _
      | refine LeO.ite ?_ ?_
      | refine LeO.bind ?_ (fun _ => ?_)
set_option maxHeartbeats 8000000 in
set_option maxRecDepth 100000 in
theorem pilcrowlaw09_BiasBack.calls (k : Nat) (a0 : Int) (a1 : Int) (a2 : ByteArray) (r : Bool) (w : World) (h : pilcrowlaw09_BiasBack.f k a0 a1 a2 = some r) :
    Calls Try.prog 8 #[.int .u64 a0, .int .i64 a1, .string a2] w fun e w' => e = .returned (.bool r) ∧ Below w.heap.size w w' := by
  have HB := Aside0.mk (Below.refl w.heap.size w)
  have H : ((pilcrowlaw09_awake.f k).bind fun t127 => (if t127 = true then (if a0 > 4611686018427387904 then (pilcrowlaw09_BiasBack.j0 k a0 a1 a2 true) else (pilcrowlaw09_BiasBack.j0 k a0 a1 a2 (decide ((a2.size : Int) > 100)))) else (pilcrowlaw09_BiasBack.j0 k a0 a1 a2 true))) = some r := h
  clear h
  have HC4 := Aside0.mk H
  clear H
  go_enter Try.func8, Try.ntmps8
  go_upto_region 1 with (fail)
  go_cut [21] (fun v21 wc => ∃ (kq : Nat) (x21_3 : Bool), v21 = .bool x21_3 ∧ Aside0 (pilcrowlaw09_BiasBack.j0 kq a0 a1 a2 x21_3 = some r) ∧ Aside0 (kq ≤ k) ∧ Aside0 (Below w.heap.size w wc))
  case first =>
    have H := HC4.out
    clear HC4
    replace H := Option.bind_eq_some_iff.mp H
    obtain ⟨t127, A50, H⟩ := H
    replace H : (if t127 = true then (if a0 > 4611686018427387904 then (pilcrowlaw09_BiasBack.j0 k a0 a1 a2 true) else (pilcrowlaw09_BiasBack.j0 k a0 a1 a2 (decide ((a2.size : Int) > 100)))) else (pilcrowlaw09_BiasBack.j0 k a0 a1 a2 true)) = some r := H
    have A5 := Aside0.mk A50
    clear A50
    by_cases c6 : t127 = true
    · subst c6
      have H1 : (if a0 > 4611686018427387904 then (pilcrowlaw09_BiasBack.j0 k a0 a1 a2 true) else (pilcrowlaw09_BiasBack.j0 k a0 a1 a2 (decide ((a2.size : Int) > 100)))) = some r := by rw [if_pos rfl] at H; exact H
      clear H
      have H := H1
      clear H1
      by_cases c7 : a0 > 4611686018427387904
      · rw [if_pos c7] at H
        have c7b0 : decide (4611686018427387904 < a0) = true := decide_eq_true c7
        clear c7
        (first | rw [c7b0] | (simp only [i64_w, i32_w]; rw [c7b0]) | skip)
        have H' := Aside0.mk H
        clear H
        go_wp2_with (first | ((with_reducible refine gate_callee (f := 11) rfl ?_); refine goesL_ (some 11) rfl rfl Try.func11 (by kernel_rfl) rfl #[] rfl (by (try simp only [List.map_toArray, List.map_cons, List.map_nil]); first | done | rfl | (simp only [List.length_drop, List.length_take]; rfl)) ?_; (with_reducible refine (pilcrowlaw09_awake.calls k  true _ A5.out).mono ?_); rintro e w8 ⟨rfl, hb⟩; refine ⟨_, rfl, ?_⟩; have n0_ := Aside0.mk (below_step (by repeat (first | (with_reducible first | exact HB.out | apply below_alloc | apply pw_below_drewN | apply below_drew1) | exact HB.out)) hb); clear HB; have HB := n0_; clear n0_; (try clear hb); (try clear hb2); (try clear hk); (try clear hi)))
        go_meet
        case rel => exact ⟨_, (true), (by first | rfl | (simp; done) | (simp [*]; done)), H', ⟨by first | omega | exact Nat.le_refl _⟩, ⟨by repeat (first | (with_reducible first | exact HB.out | apply below_alloc | apply pw_below_drewN | apply below_drew1) | exact HB.out)⟩⟩
      · rw [if_neg c7] at H
        have c7b0 : decide (4611686018427387904 < a0) = false := decide_eq_false c7
        clear c7
        (first | rw [c7b0] | (simp only [i64_w, i32_w]; rw [c7b0]) | skip)
        have H' := Aside0.mk H
        clear H
        go_wp2_with (first | ((with_reducible refine gate_callee (f := 11) rfl ?_); refine goesL_ (some 11) rfl rfl Try.func11 (by kernel_rfl) rfl #[] rfl (by (try simp only [List.map_toArray, List.map_cons, List.map_nil]); first | done | rfl | (simp only [List.length_drop, List.length_take]; rfl)) ?_; (with_reducible refine (pilcrowlaw09_awake.calls k  true _ A5.out).mono ?_); rintro e w9 ⟨rfl, hb⟩; refine ⟨_, rfl, ?_⟩; have n0_ := Aside0.mk (below_step (by repeat (first | (with_reducible first | exact HB.out | apply below_alloc | apply pw_below_drewN | apply below_drew1) | exact HB.out)) hb); clear HB; have HB := n0_; clear n0_; (try clear hb); (try clear hb2); (try clear hk); (try clear hi)))
        go_meet
        case rel => exact ⟨_, (decide ((a2.size : Int) > 100)), (by first | rfl | (simp; done) | (simp [*]; done)), H', ⟨by first | omega | exact Nat.le_refl _⟩, ⟨by repeat (first | (with_reducible first | exact HB.out | apply below_alloc | apply pw_below_drewN | apply below_drew1) | exact HB.out)⟩⟩
    · replace c6 := Bool.eq_false_iff.mpr c6
      subst c6
      have H1 : (pilcrowlaw09_BiasBack.j0 k a0 a1 a2 true) = some r := by rw [if_neg (show ¬ (false = true) by decide)] at H; exact H
      clear H
      have H := H1
      clear H1
      have H' := Aside0.mk H
      clear H
      go_wp2_with (first | ((with_reducible refine gate_callee (f := 11) rfl ?_); refine goesL_ (some 11) rfl rfl Try.func11 (by kernel_rfl) rfl #[] rfl (by (try simp only [List.map_toArray, List.map_cons, List.map_nil]); first | done | rfl | (simp only [List.length_drop, List.length_take]; rfl)) ?_; (with_reducible refine (pilcrowlaw09_awake.calls k  false _ A5.out).mono ?_); rintro e w10 ⟨rfl, hb⟩; refine ⟨_, rfl, ?_⟩; have n0_ := Aside0.mk (below_step (by repeat (first | (with_reducible first | exact HB.out | apply below_alloc | apply pw_below_drewN | apply below_drew1) | exact HB.out)) hb); clear HB; have HB := n0_; clear n0_; (try clear hb); (try clear hb2); (try clear hk); (try clear hi)))
      go_meet
      case rel => exact ⟨_, (true), (by first | rfl | (simp; done) | (simp [*]; done)), H', ⟨by first | omega | exact Nat.le_refl _⟩, ⟨by repeat (first | (with_reducible first | exact HB.out | apply below_alloc | apply pw_below_drewN | apply below_drew1) | exact HB.out)⟩⟩
  case rest =>
    clear HC4
    try clear c1
    try clear p2
    try clear c6
    try clear c7
    try clear c7b0
    try clear c8
    obtain ⟨kq, x21_3, rfl, HA, HJ3, HB⟩ := hcut
    cases kq with
    | zero => exact absurd HA.out (by simp [pilcrowlaw09_BiasBack.j0])
    | succ kj3 =>
      have H := HA.out
      clear HA
      simp only [pilcrowlaw09_BiasBack.j0] at H
      by_cases c11 : x21_3 = true
      · subst c11
        have H1 : ((pilcrowlaw09_awake.f kj3).bind fun t128 => (some t128)) = some r := by rw [if_pos rfl] at H; exact H
        clear H
        have H := H1
        clear H1
        replace H := Option.bind_eq_some_iff.mp H
        obtain ⟨t128, A120, H⟩ := H
        replace H : (some t128) = some r := H
        have A12 := Aside0.mk A120
        clear A120
        obtain rfl := Option.some.inj H
        go_wp2_with (first | ((with_reducible refine gate_callee (f := 11) rfl ?_); refine goesL_ (some 22) rfl rfl Try.func11 (by kernel_rfl) rfl #[] rfl (by (try simp only [List.map_toArray, List.map_cons, List.map_nil]); first | done | rfl | (simp only [List.length_drop, List.length_take]; rfl)) ?_; (with_reducible refine (pilcrowlaw09_awake.calls kj3  t128 _ A12.out).mono ?_); rintro e w13 ⟨rfl, hb⟩; refine ⟨_, rfl, ?_⟩; have n0_ := Aside0.mk (below_step (by repeat (first | (with_reducible first | exact HB.out | apply below_alloc | apply pw_below_drewN | apply below_drew1) | exact HB.out)) hb); clear HB; have HB := n0_; clear n0_; (try clear hb); (try clear hb2); (try clear hk); (try clear hi)))
        go_ret
        exact ⟨by first | rfl | (simp [errW_none, errW_some] <;> rfl) | (simp [*, errW_none, errW_some] <;> rfl), by repeat (first | (with_reducible first | exact HB.out | apply below_alloc | apply pw_below_drewN | apply below_drew1) | exact HB.out)⟩
      · replace c11 := Bool.eq_false_iff.mpr c11
        subst c11
        have H1 : ((bias_Put.f kj3 a0 a1).bind fun t129 => (if a2.size + t129.size ≤ 9223372036854775807 then (if (a2 ++ t129).size + a2.size ≤ 9223372036854775807 then ((bias_Get.f kj3 ((a2 ++ t129) ++ a2) (a2.size : Int) a1).bind fun bt130 => (if bt130.2.2 = 0 then (if bt130.1 = a0 then (some (bt130.2.1 == (wrap64 ((a2.size : Int) + (t129.size : Int))))) else (some false)) else (some false))) else (none)) else (none))) = some r := by rw [if_neg (show ¬ (false = true) by decide)] at H; exact H
        clear H
        have H := H1
        clear H1
        replace H := Option.bind_eq_some_iff.mp H
        obtain ⟨t129, A140, H⟩ := H
        replace H : (if a2.size + t129.size ≤ 9223372036854775807 then (if (a2 ++ t129).size + a2.size ≤ 9223372036854775807 then ((bias_Get.f kj3 ((a2 ++ t129) ++ a2) (a2.size : Int) a1).bind fun bt130 => (if bt130.2.2 = 0 then (if bt130.1 = a0 then (some (bt130.2.1 == (wrap64 ((a2.size : Int) + (t129.size : Int))))) else (some false)) else (some false))) else (none)) else (none)) = some r := H
        have A14 := Aside0.mk A140
        clear A140
        by_cases c15 : a2.size + t129.size ≤ 9223372036854775807
        · rw [if_pos c15] at H
          have c15b0 := eq_true c15
          have c15b1 : decide (a2.size + t129.size ≤ 9223372036854775807) = true := decide_eq_true c15
          try have c15b2 : (9223372036854775807 < a2.size + t129.size) = False := eq_false (Nat.not_lt.2 c15)
          by_cases c16 : (a2 ++ t129).size + a2.size ≤ 9223372036854775807
          · rw [if_pos c16] at H
            have c16b0 := eq_true c16
            have c16b1 : decide ((a2 ++ t129).size + a2.size ≤ 9223372036854775807) = true := decide_eq_true c16
            try have c16b2 : (9223372036854775807 < (a2 ++ t129).size + a2.size) = False := eq_false (Nat.not_lt.2 c16)
            replace H := Option.bind_eq_some_iff.mp H
            obtain ⟨⟨t130, t131, t132⟩, A170, H⟩ := H
            replace H : (if t132 = 0 then (if t130 = a0 then (some (t131 == (wrap64 ((a2.size : Int) + (t129.size : Int))))) else (some false)) else (some false)) = some r := H
            have A17 := Aside0.mk A170
            clear A170
            by_cases c18 : t132 = 0
            · rw [if_pos c18] at H
              have c18b0 : (t132 == 0) = true := beq_iff_eq.mpr c18
              have c18b1 : (t132 != 0) = false := bne_eq_false_iff_eq.mpr c18
              clear c18
              by_cases c19 : t130 = a0
              · rw [if_pos c19] at H
                have c19b0 : (t130 == a0) = true := beq_iff_eq.mpr c19
                have c19b1 : (t130 != a0) = false := bne_eq_false_iff_eq.mpr c19
                clear c19
                obtain rfl := Option.some.inj H
                go_wp2_with (first | ((with_reducible refine gate_callee (f := 19) rfl ?_); refine goesL_ (some 25) rfl rfl Try.func19 (by kernel_rfl) rfl #[.int .u64 a0, .int .i64 a1] rfl (by (try simp only [List.map_toArray, List.map_cons, List.map_nil]); first | done | rfl | (simp only [List.length_drop, List.length_take]; rfl)) ?_; (with_reducible refine (bias_Put.calls kj3 a0 a1 t129 _ A14.out).mono ?_); rintro e w20 ⟨rfl, hb⟩; refine ⟨_, rfl, ?_⟩; have n0_ := Aside0.mk (below_step (by repeat (first | (with_reducible first | exact HB.out | apply below_alloc | apply pw_below_drewN | apply below_drew1) | exact HB.out)) hb); clear HB; have HB := n0_; clear n0_; (try clear hb); (try clear hb2); (try clear hk); (try clear hi)) | ((with_reducible refine gate_callee (f := 21) rfl ?_); refine goesL_ (some 35) rfl rfl Try.func21 (by kernel_rfl) rfl #[.string ((a2 ++ t129) ++ a2), .int .i64 (a2.size : Int), .int .i64 a1] rfl (by (try simp only [List.map_toArray, List.map_cons, List.map_nil]); first | done | rfl | (simp only [List.length_drop, List.length_take]; rfl)) ?_; (with_reducible refine (bias_Get.calls kj3 ((a2 ++ t129) ++ a2) (a2.size : Int) a1 t130 t131 t132 _ A17.out).mono ?_); rintro e w21 ⟨rfl, hb⟩; refine ⟨_, rfl, ?_⟩; have n0_ := Aside0.mk (below_step (by repeat (first | (with_reducible first | exact HB.out | apply below_alloc | apply pw_below_drewN | apply below_drew1) | exact HB.out)) hb); clear HB; have HB := n0_; clear n0_; (try clear hb); (try clear hb2); (try clear hk); (try clear hi)))
                go_ret
                exact ⟨by first | rfl | (rw [show wrap64 ((a2.size : Int) + (t129.size : Int)) = (a2.size : Int) + (t129.size : Int) from by unfold wrap64; omega]; rfl) | (simp [errW_none, errW_some] <;> rfl) | (simp [*, errW_none, errW_some] <;> rfl), by repeat (first | (with_reducible first | exact HB.out | apply below_alloc | apply pw_below_drewN | apply below_drew1) | exact HB.out)⟩
              · rw [if_neg c19] at H
                have c19b0 : (t130 == a0) = false := beq_eq_false_iff_ne.mpr c19
                have c19b1 : (t130 != a0) = true := bne_iff_ne.mpr c19
                obtain rfl := Option.some.inj H
                go_wp2_with (first | ((with_reducible refine gate_callee (f := 19) rfl ?_); refine goesL_ (some 25) rfl rfl Try.func19 (by kernel_rfl) rfl #[.int .u64 a0, .int .i64 a1] rfl (by (try simp only [List.map_toArray, List.map_cons, List.map_nil]); first | done | rfl | (simp only [List.length_drop, List.length_take]; rfl)) ?_; (with_reducible refine (bias_Put.calls kj3 a0 a1 t129 _ A14.out).mono ?_); rintro e w22 ⟨rfl, hb⟩; refine ⟨_, rfl, ?_⟩; have n0_ := Aside0.mk (below_step (by repeat (first | (with_reducible first | exact HB.out | apply below_alloc | apply pw_below_drewN | apply below_drew1) | exact HB.out)) hb); clear HB; have HB := n0_; clear n0_; (try clear hb); (try clear hb2); (try clear hk); (try clear hi)) | ((with_reducible refine gate_callee (f := 21) rfl ?_); refine goesL_ (some 35) rfl rfl Try.func21 (by kernel_rfl) rfl #[.string ((a2 ++ t129) ++ a2), .int .i64 (a2.size : Int), .int .i64 a1] rfl (by (try simp only [List.map_toArray, List.map_cons, List.map_nil]); first | done | rfl | (simp only [List.length_drop, List.length_take]; rfl)) ?_; (with_reducible refine (bias_Get.calls kj3 ((a2 ++ t129) ++ a2) (a2.size : Int) a1 t130 t131 t132 _ A17.out).mono ?_); rintro e w23 ⟨rfl, hb⟩; refine ⟨_, rfl, ?_⟩; have n0_ := Aside0.mk (below_step (by repeat (first | (with_reducible first | exact HB.out | apply below_alloc | apply pw_below_drewN | apply below_drew1) | exact HB.out)) hb); clear HB; have HB := n0_; clear n0_; (try clear hb); (try clear hb2); (try clear hk); (try clear hi)))
                go_ret
                exact ⟨by first | rfl | (simp [errW_none, errW_some] <;> rfl) | (simp [*, errW_none, errW_some] <;> rfl), by repeat (first | (with_reducible first | exact HB.out | apply below_alloc | apply pw_below_drewN | apply below_drew1) | exact HB.out)⟩
            · rw [if_neg c18] at H
              have c18b0 : (t132 == 0) = false := beq_eq_false_iff_ne.mpr c18
              have c18b1 : (t132 != 0) = true := bne_iff_ne.mpr c18
              obtain rfl := Option.some.inj H
              go_wp2_with (first | ((with_reducible refine gate_callee (f := 19) rfl ?_); refine goesL_ (some 25) rfl rfl Try.func19 (by kernel_rfl) rfl #[.int .u64 a0, .int .i64 a1] rfl (by (try simp only [List.map_toArray, List.map_cons, List.map_nil]); first | done | rfl | (simp only [List.length_drop, List.length_take]; rfl)) ?_; (with_reducible refine (bias_Put.calls kj3 a0 a1 t129 _ A14.out).mono ?_); rintro e w24 ⟨rfl, hb⟩; refine ⟨_, rfl, ?_⟩; have n0_ := Aside0.mk (below_step (by repeat (first | (with_reducible first | exact HB.out | apply below_alloc | apply pw_below_drewN | apply below_drew1) | exact HB.out)) hb); clear HB; have HB := n0_; clear n0_; (try clear hb); (try clear hb2); (try clear hk); (try clear hi)) | ((with_reducible refine gate_callee (f := 21) rfl ?_); refine goesL_ (some 35) rfl rfl Try.func21 (by kernel_rfl) rfl #[.string ((a2 ++ t129) ++ a2), .int .i64 (a2.size : Int), .int .i64 a1] rfl (by (try simp only [List.map_toArray, List.map_cons, List.map_nil]); first | done | rfl | (simp only [List.length_drop, List.length_take]; rfl)) ?_; (with_reducible refine (bias_Get.calls kj3 ((a2 ++ t129) ++ a2) (a2.size : Int) a1 t130 t131 t132 _ A17.out).mono ?_); rintro e w25 ⟨rfl, hb⟩; refine ⟨_, rfl, ?_⟩; have n0_ := Aside0.mk (below_step (by repeat (first | (with_reducible first | exact HB.out | apply below_alloc | apply pw_below_drewN | apply below_drew1) | exact HB.out)) hb); clear HB; have HB := n0_; clear n0_; (try clear hb); (try clear hb2); (try clear hk); (try clear hi)))
              go_ret
              exact ⟨by first | rfl | (simp [errW_none, errW_some] <;> rfl) | (simp [*, errW_none, errW_some] <;> rfl), by repeat (first | (with_reducible first | exact HB.out | apply below_alloc | apply pw_below_drewN | apply below_drew1) | exact HB.out)⟩
          · rw [if_neg c16] at H
            exact absurd H (by simp)
        · rw [if_neg c15] at H
          exact absurd H (by simp)

/-- THE ONE PURE STATEMENT of pilcrowlaw09_BiasBack: yours. -/
def pilcrowlaw09_BiasBack.Pure : Prop := ∀ (a0 : Int) (a1 : Int) (a2 : ByteArray), (Lit.int .u64 a0).wf = true → (Lit.int .i64 a1).wf = true → a2.size ≤ 140737488351232 → ∃ k, pilcrowlaw09_BiasBack.f k a0 a1 a2 = some true
theorem pilcrowlaw09_BiasBack.walk (P : pilcrowlaw09_BiasBack.Pure) (a0 : Int) (a1 : Int) (a2 : ByteArray) (w : World) (w0 : (Lit.int .u64 a0).wf = true) (w1 : (Lit.int .i64 a1).wf = true) (w2 : a2.size ≤ 140737488351232) :
    Calls Try.prog 8 #[.int .u64 a0, .int .i64 a1, .string a2] w fun e w' => e = .returned (.bool true) ∧ Below w.heap.size w w' := by
  obtain ⟨k, h⟩ := P a0 a1 a2 w0 w1 w2
  refine (pilcrowlaw09_BiasBack.calls k a0 a1 a2 true w h).mono ?_
  rintro e w' ⟨rfl, hd⟩
  exact ⟨rfl, hd⟩

end Go.Proofs.Ythpenelaieohkaa.QBiasBack
