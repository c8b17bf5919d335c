-- PRINTED BY print.sh 35421559b90ae4d0a3588c463048766b98c2df88dd9212a6774a882060cdf62d: not written by this session
import Derived.Test.YthpenelaieohkaaPBiasDigitsx0
import Derived.Test.YthpenelaieohkaaPBiasDigitsx1
namespace Go.Proofs.Ythpenelaieohkaa.PBiasDigits
open Go.RowKit Go.Proofs.YthpenelaieohkaaW.PrintWords Go.Proofs.YthpenelaieohkaaW.PrintLast Go.Proofs.YthpenelaieohkaaW.PrintMore
attribute [local go_sem] max2_int min2_int max_two min_two max_three min_three max_four min_four   -- for this text's walks alone
set_option linter.unusedVariables false
set_option linter.unusedSimpArgs false

/-! ### pilcrowref09_Digit: function 16 -/
mutual
def pilcrowref09_Digit.j0 : Nat → Int → Bool → Option (Int)
  | 0, _, _ => none
  | k + 1, x0, x9 => if x9 = true then (pilcrowref09_Digit.j1 k ((x0 + 32) % 256)) else (pilcrowref09_Digit.j1 k x0)
def pilcrowref09_Digit.j1 : Nat → Int → Option (Int)
  | 0, _ => none
  | k + 1, x0 => pilcrowref09_Digit.l0 k x0 0
def pilcrowref09_Digit.l0 : Nat → Int → Int → Option (Int)
  | 0, _, _ => none
  | k + 1, x0, x3 => if x3 < 36 then ((pilcrowref09_Digits.f).bind fun t124 => (if 0 ≤ x3 then (if x3 < (t124.size : Int) then (if (bt t124 x3) = x0 then (some x3) else (pilcrowref09_Digit.l0 k x0 (wrap64 (x3 + 1)))) else (none)) else (none))) else (some (-1))
end
def pilcrowref09_Digit.f (k : Nat) (a0 : Int) : Option (Int) := if a0 ≥ 65 then (pilcrowref09_Digit.j0 k a0 (decide (a0 ≤ 90))) else (pilcrowref09_Digit.j0 k a0 false)
theorem pilcrowref09_Digit.mono_l : ∀ k, (∀ y0 y1, LeO (pilcrowref09_Digit.j0 k y0 y1) (pilcrowref09_Digit.j0 (k + 1) y0 y1)) ∧ (∀ y0, LeO (pilcrowref09_Digit.j1 k y0) (pilcrowref09_Digit.j1 (k + 1) y0)) ∧ (∀ y0 y1, LeO (pilcrowref09_Digit.l0 k y0 y1) (pilcrowref09_Digit.l0 (k + 1) y0 y1))
  | 0 => ⟨fun _ _ r h => by simp [pilcrowref09_Digit.j0] at h, fun _ r h => by simp [pilcrowref09_Digit.j1] at h, fun _ _ r h => by simp [pilcrowref09_Digit.l0] at h⟩
  | k + 1 => by
    obtain ⟨ih0, ih1, ih2⟩ := pilcrowref09_Digit.mono_l k
    refine ⟨?_, ?_, ?_⟩
    · intro y0 y1
      unfold pilcrowref09_Digit.j0
      repeat' first
      | (with_reducible exact ih0 _ _)
      | (with_reducible exact ih1 _)
      | (with_reducible exact ih2 _ _)
      | (with_reducible exact LeO.refl _)
      | (with_reducible exact LeO.none _)
      | (with_reducible refine LeO.ite ?_ ?_)
      | (with_reducible refine LeO.bind ?_ (fun _ => ?_))
      | exact ih0 _ _
      | exact ih1 _
      | exact ih2 _ _
      | exact LeO.none _
      | refine LeO.ite ?_ ?_
      | refine LeO.bind ?_ (fun _ => ?_)
    · intro y0
      unfold pilcrowref09_Digit.j1
      repeat' first
      | (with_reducible exact ih0 _ _)
      | (with_reducible exact ih1 _)
      | (with_reducible exact ih2 _ _)
      | (with_reducible exact LeO.refl _)
      | (with_reducible exact LeO.none _)
      | (with_reducible refine LeO.ite ?_ ?_)
      | (with_reducible refine LeO.bind ?_ (fun _ => ?_))
      | exact ih0 _ _
      | exact ih1 _
      | exact ih2 _ _
      | exact LeO.none _
      | refine LeO.ite ?_ ?_
      | refine LeO.bind ?_ (fun _ => ?_)
    · intro y0 y1
      unfold pilcrowref09_Digit.l0
      repeat' first
      | (with_reducible exact ih0 _ _)
      | (with_reducible exact ih1 _)
      | (with_reducible exact ih2 _ _)
      | (with_reducible exact LeO.refl _)
      | (with_reducible exact LeO.none _)
      | (with_reducible refine LeO.ite ?_ ?_)
      | (with_reducible refine LeO.bind ?_ (fun _ => ?_))
      | exact ih0 _ _
      | exact ih1 _
      | exact ih2 _ _
      | exact LeO.none _
      | refine LeO.ite ?_ ?_
      | refine LeO.bind ?_ (fun _ => ?_)
theorem pilcrowref09_Digit.mono : ∀ a0 k, LeO (pilcrowref09_Digit.f k a0) (pilcrowref09_Digit.f (k + 1) a0) := by
  intro a0 k
  obtain ⟨ih0, ih1, ih2⟩ := pilcrowref09_Digit.mono_l k
  unfold pilcrowref09_Digit.f
  repeat' first
      | (with_reducible exact ih0 _ _)
      | (with_reducible exact ih1 _)
      | (with_reducible exact ih2 _ _)
      | (with_reducible exact LeO.refl _)
      | (with_reducible exact LeO.none _)
      | (with_reducible refine LeO.ite ?_ ?_)
      | (with_reducible refine LeO.bind ?_ (fun _ => ?_))
      | exact ih0 _ _
      | exact ih1 _
      | exact ih2 _ _
      | exact LeO.none _
      | refine LeO.ite ?_ ?_
      | refine LeO.bind ?_ (fun _ => ?_)
set_option maxHeartbeats 8000000 in
set_option maxRecDepth 100000 in
theorem pilcrowref09_Digit.calls (k : Nat) (a0 : Int) (r : Int) (w : World) (h : pilcrowref09_Digit.f k a0 = some r) :
    Calls Try.prog 16 #[.int .u8 a0] w fun e w' => e = .returned (.int .i64 r) ∧ Drawn0 w w' := by
  have H : (if a0 ≥ 65 then (pilcrowref09_Digit.j0 k a0 (decide (a0 ≤ 90))) else (pilcrowref09_Digit.j0 k a0 false)) = some r := h
  clear h
  have HC2 := Aside0.mk H
  clear H
  go_enter Try.func16, Try.ntmps16
  go_upto_region 1 with (fail)
  go_cut [9] (fun v9 wc => ∃ (kq : Nat) (x9_1 : Bool), v9 = .bool x9_1 ∧ Aside0 (pilcrowref09_Digit.j0 kq a0 x9_1 = some r) ∧ Aside0 (kq ≤ k) ∧ Drawn0 w wc)
  case first =>
    have H := HC2.out
    clear HC2
    by_cases c3 : a0 ≥ 65
    · rw [if_pos c3] at H
      have c3b0 : decide (65 ≤ a0) = true := decide_eq_true c3
      clear c3
      (first | rw [c3b0] | (simp only [i64_w, i32_w]; rw [c3b0]) | skip)
      have H' := Aside0.mk H
      clear H
      go_wp2
      go_meet
      case rel => exact ⟨_, (decide (a0 ≤ 90)), (by first | rfl | (simp; done) | (simp [*]; done)), H', ⟨by first | omega | exact Nat.le_refl _⟩, by repeat (first | exact Drawn0.refl _ | apply Drawn0.step)⟩
    · rw [if_neg c3] at H
      have c3b0 : decide (65 ≤ a0) = false := decide_eq_false c3
      clear c3
      (first | rw [c3b0] | (simp only [i64_w, i32_w]; rw [c3b0]) | skip)
      have H' := Aside0.mk H
      clear H
      go_wp2
      go_meet
      case rel => exact ⟨_, (false), (by first | rfl | (simp; done) | (simp [*]; done)), H', ⟨by first | omega | exact Nat.le_refl _⟩, by repeat (first | exact Drawn0.refl _ | apply Drawn0.step)⟩
  case rest =>
    clear HC2
    try clear c1
    try clear p2
    try clear c3
    try clear c3b0
    obtain ⟨kq, x9_1, rfl, HA, HJ1, ⟨mc1, rfl⟩⟩ := hcut
    cases kq with
    | zero => exact absurd HA.out (by simp [pilcrowref09_Digit.j0])
    | succ kj1 =>
      have H := HA.out
      clear HA
      simp only [pilcrowref09_Digit.j0] at H
      have HC4 := Aside0.mk H
      clear H
      go_upto_if 9 with (fail)
      go_cut [0] (fun v0 wc => ∃ (kq : Nat) (x0_3 : Int), v0 = .int .u8 x0_3 ∧ Aside0 (pilcrowref09_Digit.j1 kq x0_3 = some r) ∧ Aside0 (kq ≤ kj1) ∧ Drawn0 w wc)
      case first =>
        have H := HC4.out
        clear HC4
        by_cases c5 : x9_1 = true
        · subst c5
          have H1 : (pilcrowref09_Digit.j1 kj1 ((a0 + 32) % 256)) = some r := by rw [if_pos rfl] at H; exact H
          clear H
          have H := H1
          clear H1
          have H' := Aside0.mk H
          clear H
          go_wp2
          go_meet
          case rel => exact ⟨_, ((a0 + 32) % 256), (by first | rfl | (simp; done) | (simp [*]; done)), H', ⟨by have := HJ1.out; first | omega | exact Nat.le_refl _⟩, by repeat (first | exact Drawn0.refl _ | apply Drawn0.step)⟩
        · replace c5 := Bool.eq_false_iff.mpr c5
          subst c5
          have H1 : (pilcrowref09_Digit.j1 kj1 a0) = some r := by rw [if_neg (show ¬ (false = true) by decide)] at H; exact H
          clear H
          have H := H1
          clear H1
          have H' := Aside0.mk H
          clear H
          go_wp2
          go_meet
          case rel => exact ⟨_, (a0), (by first | rfl | (simp; done) | (simp [*]; done)), H', ⟨by have := HJ1.out; first | omega | exact Nat.le_refl _⟩, by repeat (first | exact Drawn0.refl _ | apply Drawn0.step)⟩
      case rest =>
        clear HC4
        try clear c1
        try clear p2
        try clear c3
        try clear c3b0
        try clear c5
        try clear p2
        obtain ⟨kq, x0_3, rfl, HA, HJ3, ⟨mc3, rfl⟩⟩ := hcut
        cases kq with
        | zero => exact absurd HA.out (by simp [pilcrowref09_Digit.j1])
        | succ kj3 =>
          have H := HA.out
          clear HA
          simp only [pilcrowref09_Digit.j1] at H
          have H' := Aside0.mk H
          clear H
          go_wp2
          go_loopg [3] kj3 (fun kq v3 w' => ∃ (x3_3 : Int), v3 = .int .i64 x3_3 ∧ Aside0 (pilcrowref09_Digit.l0 kq x0_3 x3_3 = some r) ∧ Aside0 (kq ≤ kj3) ∧ Drawn0 w w')
          case atStart => exact ⟨(0), (by first | rfl | (simp; done) | (simp [*]; done)), H', ⟨Nat.le_refl _⟩, by repeat (first | exact Drawn0.refl _ | apply Drawn0.step)⟩
          case round =>
            clear H'
            try clear c1
            try clear p2
            try clear c3
            try clear c3b0
            try clear c5
            try clear p2
            obtain ⟨x3_3, rfl, HA, HK3, ⟨m3, rfl⟩⟩ := hrel
            cases gk with
            | zero => exact absurd HA.out (by simp [pilcrowref09_Digit.l0])
            | succ k3 =>
              have H := HA.out
              clear HA
              simp only [pilcrowref09_Digit.l0] at H
              by_cases c6 : x3_3 < 36
              · rw [if_pos c6] at H
                have c6b0 : decide (x3_3 < 36) = true := decide_eq_true c6
                clear c6
                replace H := Option.bind_eq_some_iff.mp H
                obtain ⟨t124, A70, H⟩ := H
                replace H : (if 0 ≤ x3_3 then (if x3_3 < (t124.size : Int) then (if (bt t124 x3_3) = x0_3 then (some x3_3) else (pilcrowref09_Digit.l0 k3 x0_3 (wrap64 (x3_3 + 1)))) else (none)) else (none)) = some r := H
                have A7 := Aside0.mk A70
                clear A70
                by_cases c8 : 0 ≤ x3_3
                · rw [if_pos c8] at H
                  have c8b0 : decide (0 ≤ x3_3) = true := decide_eq_true c8
                  clear c8
                  by_cases c9 : x3_3 < (t124.size : Int)
                  · rw [if_pos c9] at H
                    have c9b0 : decide (x3_3 < (t124.size : Int)) = true := decide_eq_true c9
                    clear c9
                    by_cases c11 : (bt t124 x3_3) = x0_3
                    · rw [if_pos c11] at H
                      have c11b0 : ((bt t124 x3_3) == x0_3) = true := beq_iff_eq.mpr c11
                      have c11b1 : ((bt t124 x3_3) != x0_3) = false := bne_eq_false_iff_eq.mpr c11
                      clear c11
                      obtain rfl := Option.some.inj H
                      go_wp2_with (first | ((with_reducible refine gate_callee (f := 18) rfl ?_); refine goesL_ (some 16) rfl rfl Try.func18 (by kernel_rfl) rfl #[] rfl (by (try simp only [List.map_toArray, List.map_cons, List.map_nil]); first | done | rfl | (simp only [List.length_drop, List.length_take]; rfl)) ?_; (with_reducible refine (pilcrowref09_Digits.calls  t124 _ A7.out).mono ?_); rintro e w' ⟨rfl, ⟨nd, rfl⟩⟩; refine ⟨_, rfl, ?_⟩; have p10 : 0 ≤ (x3_3 : Int) := of_decide_eq_true (by first | (with_reducible assumption) | assumption); have q10 : x3_3 < (t124.size : Int) := of_decide_eq_true (by first | (with_reducible assumption) | assumption); have hx10 := bt_at t124 x3_3; replace p10 := eq_true p10; replace q10 := eq_true q10))
                      go_ret
                      exact ⟨by first | rfl | (simp; done) | (simp [*]; done), by repeat (first | exact Drawn0.refl _ | apply Drawn0.step)⟩
                    · rw [if_neg c11] at H
                      have c11b0 : ((bt t124 x3_3) == x0_3) = false := beq_eq_false_iff_ne.mpr c11
                      have c11b1 : ((bt t124 x3_3) != x0_3) = true := bne_iff_ne.mpr c11
                      have H' := Aside0.mk H
                      clear H
                      go_wp2_with (first | ((with_reducible refine gate_callee (f := 18) rfl ?_); refine goesL_ (some 16) rfl rfl Try.func18 (by kernel_rfl) rfl #[] rfl (by (try simp only [List.map_toArray, List.map_cons, List.map_nil]); first | done | rfl | (simp only [List.length_drop, List.length_take]; rfl)) ?_; (with_reducible refine (pilcrowref09_Digits.calls  t124 _ A7.out).mono ?_); rintro e w' ⟨rfl, ⟨nd, rfl⟩⟩; refine ⟨_, rfl, ?_⟩; have p10 : 0 ≤ (x3_3 : Int) := of_decide_eq_true (by first | (with_reducible assumption) | assumption); have q10 : x3_3 < (t124.size : Int) := of_decide_eq_true (by first | (with_reducible assumption) | assumption); have hx10 := bt_at t124 x3_3; replace p10 := eq_true p10; replace q10 := eq_true q10))
                      go_roundg k3
                      case measure => have := HJ1.out; have := HJ3.out; have := HK3.out; omega
                      case rel => exact ⟨(wrap64 (x3_3 + 1)), (by first | rfl | (simp; done) | (simp [*]; done)), H', ⟨by have := HJ1.out; have := HJ3.out; have := HK3.out; omega⟩, by repeat (first | exact Drawn0.refl _ | apply Drawn0.step)⟩
                  · rw [if_neg c9] at H
                    exact absurd H (by simp)
                · rw [if_neg c8] at H
                  exact absurd H (by simp)
              · rw [if_neg c6] at H
                have c6b0 : decide (x3_3 < 36) = false := decide_eq_false c6
                clear c6
                obtain rfl := Option.some.inj H
                go_wp2
                go_ret
                exact ⟨by first | rfl | (simp; done) | (simp [*]; done), by repeat (first | exact Drawn0.refl _ | apply Drawn0.step)⟩

/-! ### pilcrowlaw09_BiasDigits: function 5 -/
def pilcrowlaw09_BiasDigits.j0 : Nat → Int → Int → Bool → Bool → Option (Bool)
  | 0, _, _, _, _ => none
  | k + 1, x1, x8, x9, x45 => if x45 = true then (some false) else (if x1 < 0 then (if x9 = true then (some false) else (some (x8 == 0))) else (if x1 > 35 then (if x9 = true then (some false) else (some (x8 == 0))) else (if x9 = true then ((pilcrowref09_Digits.f).bind fun t131 => (if 0 ≤ x1 then (if x1 < (t131.size : Int) then (some (x8 == (bt t131 x1))) else (none)) else (none))) else (some false))))
def pilcrowlaw09_BiasDigits.f (k : Nat) (a0 : Int) (a1 : Int) : Option (Bool) := (bias_Digit.f k a0).bind fun bt125 => ((pilcrowref09_Digit.f k a0).bind fun t127 => ((bias_Letter.f k a1).bind fun bt128 => ((pilcrowlaw09_awake.f k).bind fun t130 => (if t130 = true then (if (bt125.2 != (decide (t127 ≥ 0))) = true then (pilcrowlaw09_BiasDigits.j0 k a1 bt128.1 bt128.2 true) else (if bt125.2 = true then (if bt125.1 = t127 then (pilcrowlaw09_BiasDigits.j0 k a1 bt128.1 bt128.2 false) else (pilcrowlaw09_BiasDigits.j0 k a1 bt128.1 bt128.2 true)) else (pilcrowlaw09_BiasDigits.j0 k a1 bt128.1 bt128.2 (bt125.1 != 0)))) else (pilcrowlaw09_BiasDigits.j0 k a1 bt128.1 bt128.2 true)))))
theorem pilcrowlaw09_BiasDigits.mono_l : ∀ k, (∀ y0 y1 y2 y3, LeO (pilcrowlaw09_BiasDigits.j0 k y0 y1 y2 y3) (pilcrowlaw09_BiasDigits.j0 (k + 1) y0 y1 y2 y3))
  | 0 => fun _ _ _ _ r h => by simp [pilcrowlaw09_BiasDigits.j0] at h
  | k + 1 => by
    have ih0 := pilcrowlaw09_BiasDigits.mono_l k
    · intro y0 y1 y2 y3
      unfold pilcrowlaw09_BiasDigits.j0
      repeat' first
      | (with_reducible exact ih0 _ _ _ _)
      | (with_reducible exact bias_Digit.mono _ _)
      | (with_reducible exact bias_Letter.mono _ _)
      | (with_reducible exact pilcrowlaw09_awake.mono _)
      | (with_reducible exact pilcrowref09_Digit.mono _ _)
      | (with_reducible exact LeO.refl _)
      | (with_reducible exact LeO.none _)
      | (with_reducible refine LeO.ite ?_ ?_)
      | (with_reducible refine LeO.bind ?_ (fun _ => ?_))
      | exact ih0 _ _ _ _
      | exact bias_Digit.mono _ _
      | exact bias_Letter.mono _ _
      | exact pilcrowlaw09_awake.mono _
      | exact pilcrowref09_Digit.mono _ _
      | exact LeO.none _
      | refine LeO.ite ?_ ?_
      | refine LeO.bind ?_ (fun _ => ?_)
theorem pilcrowlaw09_BiasDigits.mono : ∀ a0 a1 k, LeO (pilcrowlaw09_BiasDigits.f k a0 a1) (pilcrowlaw09_BiasDigits.f (k + 1) a0 a1) := by
  intro a0 a1 k
  have ih0 := pilcrowlaw09_BiasDigits.mono_l k
  unfold pilcrowlaw09_BiasDigits.f
  repeat' first
      | (with_reducible exact ih0 _ _ _ _)
      | (with_reducible exact bias_Digit.mono _ _)
      | (with_reducible exact bias_Letter.mono _ _)
      | (with_reducible exact pilcrowlaw09_awake.mono _)
      | (with_reducible exact pilcrowref09_Digit.mono _ _)
      | (with_reducible exact LeO.refl _)
      | (with_reducible exact LeO.none _)
      | (with_reducible refine LeO.ite ?_ ?_)
      | (with_reducible refine LeO.bind ?_ (fun _ => ?_))
      | exact ih0 _ _ _ _
      | exact bias_Digit.mono _ _
      | exact bias_Letter.mono _ _
      | exact pilcrowlaw09_awake.mono _
      | exact pilcrowref09_Digit.mono _ _
      | exact LeO.none _
      | refine LeO.ite ?_ ?_
      | refine LeO.bind ?_ (fun _ => ?_)
set_option maxHeartbeats 8000000 in
set_option maxRecDepth 100000 in
theorem pilcrowlaw09_BiasDigits.calls (k : Nat) (a0 : Int) (a1 : Int) (r : Bool) (w : World) (h : pilcrowlaw09_BiasDigits.f k a0 a1 = some r) :
    Calls Try.prog 5 #[.int .u8 a0, .int .i64 a1] w fun e w' => e = .returned (.bool r) ∧ Below w.heap.size w w' := by
  have HB := Aside0.mk (Below.refl w.heap.size w)
  have H : ((bias_Digit.f k a0).bind fun bt125 => ((pilcrowref09_Digit.f k a0).bind fun t127 => ((bias_Letter.f k a1).bind fun bt128 => ((pilcrowlaw09_awake.f k).bind fun t130 => (if t130 = true then (if (bt125.2 != (decide (t127 ≥ 0))) = true then (pilcrowlaw09_BiasDigits.j0 k a1 bt128.1 bt128.2 true) else (if bt125.2 = true then (if bt125.1 = t127 then (pilcrowlaw09_BiasDigits.j0 k a1 bt128.1 bt128.2 false) else (pilcrowlaw09_BiasDigits.j0 k a1 bt128.1 bt128.2 true)) else (pilcrowlaw09_BiasDigits.j0 k a1 bt128.1 bt128.2 (bt125.1 != 0)))) else (pilcrowlaw09_BiasDigits.j0 k a1 bt128.1 bt128.2 true)))))) = some r := h
  clear h
  replace H := Option.bind_eq_some_iff.mp H
  obtain ⟨⟨t125, t126⟩, A30, H⟩ := H
  replace H : ((pilcrowref09_Digit.f k a0).bind fun t127 => ((bias_Letter.f k a1).bind fun bt128 => ((pilcrowlaw09_awake.f k).bind fun t130 => (if t130 = true then (if (t126 != (decide (t127 ≥ 0))) = true then (pilcrowlaw09_BiasDigits.j0 k a1 bt128.1 bt128.2 true) else (if t126 = true then (if t125 = t127 then (pilcrowlaw09_BiasDigits.j0 k a1 bt128.1 bt128.2 false) else (pilcrowlaw09_BiasDigits.j0 k a1 bt128.1 bt128.2 true)) else (pilcrowlaw09_BiasDigits.j0 k a1 bt128.1 bt128.2 (t125 != 0)))) else (pilcrowlaw09_BiasDigits.j0 k a1 bt128.1 bt128.2 true))))) = some r := H
  have A3 := Aside0.mk A30
  clear A30
  replace H := Option.bind_eq_some_iff.mp H
  obtain ⟨t127, A40, H⟩ := H
  replace H : ((bias_Letter.f k a1).bind fun bt128 => ((pilcrowlaw09_awake.f k).bind fun t130 => (if t130 = true then (if (t126 != (decide (t127 ≥ 0))) = true then (pilcrowlaw09_BiasDigits.j0 k a1 bt128.1 bt128.2 true) else (if t126 = true then (if t125 = t127 then (pilcrowlaw09_BiasDigits.j0 k a1 bt128.1 bt128.2 false) else (pilcrowlaw09_BiasDigits.j0 k a1 bt128.1 bt128.2 true)) else (pilcrowlaw09_BiasDigits.j0 k a1 bt128.1 bt128.2 (t125 != 0)))) else (pilcrowlaw09_BiasDigits.j0 k a1 bt128.1 bt128.2 true)))) = some r := H
  have A4 := Aside0.mk A40
  clear A40
  replace H := Option.bind_eq_some_iff.mp H
  obtain ⟨⟨t128, t129⟩, A50, H⟩ := H
  replace H : ((pilcrowlaw09_awake.f k).bind fun t130 => (if t130 = true then (if (t126 != (decide (t127 ≥ 0))) = true then (pilcrowlaw09_BiasDigits.j0 k a1 t128 t129 true) else (if t126 = true then (if t125 = t127 then (pilcrowlaw09_BiasDigits.j0 k a1 t128 t129 false) else (pilcrowlaw09_BiasDigits.j0 k a1 t128 t129 true)) else (pilcrowlaw09_BiasDigits.j0 k a1 t128 t129 (t125 != 0)))) else (pilcrowlaw09_BiasDigits.j0 k a1 t128 t129 true))) = some r := H
  have A5 := Aside0.mk A50
  clear A50
  have HC6 := Aside0.mk H
  clear H
  go_enter Try.func5, Try.ntmps5
  go_upto_region 4 with (first | ((with_reducible refine gate_callee (f := 15) rfl ?_); refine goesL_ (some 12) rfl rfl Try.func15 (by kernel_rfl) rfl #[.int .u8 a0] rfl (by (try simp only [List.map_toArray, List.map_cons, List.map_nil]); first | done | rfl | (simp only [List.length_drop, List.length_take]; rfl)) ?_; (with_reducible refine (bias_Digit.calls k a0 t125 t126 _ A3.out).mono ?_); rintro e w' ⟨rfl, ⟨nd, rfl⟩⟩; refine ⟨_, rfl, ?_⟩) | ((with_reducible refine gate_callee (f := 16) rfl ?_); refine goesL_ (some 16) rfl rfl Try.func16 (by kernel_rfl) rfl #[.int .u8 a0] rfl (by (try simp only [List.map_toArray, List.map_cons, List.map_nil]); first | done | rfl | (simp only [List.length_drop, List.length_take]; rfl)) ?_; (with_reducible refine (pilcrowref09_Digit.calls k a0 t127 _ A4.out).mono ?_); rintro e w' ⟨rfl, ⟨nd, rfl⟩⟩; refine ⟨_, rfl, ?_⟩) | ((with_reducible refine gate_callee (f := 17) rfl ?_); refine goesL_ (some 19) rfl rfl Try.func17 (by kernel_rfl) rfl #[.int .i64 a1] rfl (by (try simp only [List.map_toArray, List.map_cons, List.map_nil]); first | done | rfl | (simp only [List.length_drop, List.length_take]; rfl)) ?_; (with_reducible refine (bias_Letter.calls k a1 t128 t129 _ A5.out).mono ?_); rintro e w' ⟨rfl, ⟨nd, rfl⟩⟩; refine ⟨_, rfl, ?_⟩))
  (try simp only [Act.put, List.setIfInBounds_toArray, List.set_cons_zero, List.set_cons_succ])
  go_cut [45] (fun v45 wc => ∃ (kq : Nat) (x45_5 : Bool), v45 = .bool x45_5 ∧ Aside0 (pilcrowlaw09_BiasDigits.j0 kq a1 t128 t129 x45_5 = some r) ∧ Aside0 (kq ≤ k) ∧ Aside0 (Below w.heap.size w wc))
  case first =>
    have H := HC6.out
    clear HC6
    replace H := Option.bind_eq_some_iff.mp H
    obtain ⟨t130, A70, H⟩ := H
    replace H : (if t130 = true then (if (t126 != (decide (t127 ≥ 0))) = true then (pilcrowlaw09_BiasDigits.j0 k a1 t128 t129 true) else (if t126 = true then (if t125 = t127 then (pilcrowlaw09_BiasDigits.j0 k a1 t128 t129 false) else (pilcrowlaw09_BiasDigits.j0 k a1 t128 t129 true)) else (pilcrowlaw09_BiasDigits.j0 k a1 t128 t129 (t125 != 0)))) else (pilcrowlaw09_BiasDigits.j0 k a1 t128 t129 true)) = some r := H
    have A7 := Aside0.mk A70
    clear A70
    by_cases c8 : t130 = true
    · subst c8
      have H1 : (if (t126 != (decide (t127 ≥ 0))) = true then (pilcrowlaw09_BiasDigits.j0 k a1 t128 t129 true) else (if t126 = true then (if t125 = t127 then (pilcrowlaw09_BiasDigits.j0 k a1 t128 t129 false) else (pilcrowlaw09_BiasDigits.j0 k a1 t128 t129 true)) else (pilcrowlaw09_BiasDigits.j0 k a1 t128 t129 (t125 != 0)))) = some r := by rw [if_pos rfl] at H; exact H
      clear H
      have H := H1
      clear H1
      by_cases c9 : (t126 != (decide (t127 ≥ 0))) = true
      · rw [if_pos c9] at H
        have c9b0 : (t126 != (decide (t127 ≥ 0))) = true := c9
        (try (have c9b1 : decide (t126 = (decide (t127 ≥ 0))) = false := by simpa using c9))
        (try (have c9b2 : (t126 == (decide (t127 ≥ 0))) = false := by simpa using c9))
        (try (have c9b3 : ¬ (t126 = (decide (t127 ≥ 0))) := by simpa using c9))
        clear c9
        (first | rw [c9b0] | (simp only [i64_w, i32_w]; rw [c9b0]) | skip)
        have H' := Aside0.mk H
        clear H
        go_wp2_with (first | ((with_reducible refine gate_callee (f := 11) rfl ?_); refine goesL_ (some 22) rfl rfl Try.func11 (by kernel_rfl) rfl #[] rfl (by (try simp only [List.map_toArray, List.map_cons, List.map_nil]); first | done | rfl | (simp only [List.length_drop, List.length_take]; rfl)) ?_; (with_reducible refine (pilcrowlaw09_awake.calls k  true _ A7.out).mono ?_); rintro e w10 ⟨rfl, hb⟩; refine ⟨_, rfl, ?_⟩; have n0_ := Aside0.mk (below_step (by repeat (first | (with_reducible first | exact HB.out | apply below_alloc | apply pw_below_drewN | apply below_drew1) | exact HB.out)) hb); clear HB; have HB := n0_; clear n0_; (try clear hb); (try clear hb2); (try clear hk); (try clear hi)))
        go_meet
        case rel => exact ⟨_, (true), (by first | rfl | (simp; done) | (simp [*]; done)), H', ⟨by first | omega | exact Nat.le_refl _⟩, ⟨by repeat (first | (with_reducible first | exact HB.out | apply below_alloc | apply pw_below_drewN | apply below_drew1) | exact HB.out)⟩⟩
      · rw [if_neg c9] at H
        have c9b0 : (t126 != (decide (t127 ≥ 0))) = false := by simpa using c9
        (try (have c9b1 : decide (t126 = (decide (t127 ≥ 0))) = true := by simpa using c9))
        (try (have c9b2 : (t126 == (decide (t127 ≥ 0))) = true := by simpa using c9))
        clear c9
        (first | rw [c9b0] | (simp only [i64_w, i32_w]; rw [c9b0]) | skip)
        by_cases c11 : t126 = true
        · subst c11
          have H1 : (if t125 = t127 then (pilcrowlaw09_BiasDigits.j0 k a1 t128 t129 false) else (pilcrowlaw09_BiasDigits.j0 k a1 t128 t129 true)) = some r := by rw [if_pos rfl] at H; exact H
          clear H
          have H := H1
          clear H1
          by_cases c12 : t125 = t127
          · rw [if_pos c12] at H
            have c12b0 : (t125 == t127) = true := beq_iff_eq.mpr c12
            have c12b1 : (t125 != t127) = false := bne_eq_false_iff_eq.mpr c12
            clear c12
            have H' := Aside0.mk H
            clear H
            go_wp2_with (first | ((with_reducible refine gate_callee (f := 11) rfl ?_); refine goesL_ (some 22) rfl rfl Try.func11 (by kernel_rfl) rfl #[] rfl (by (try simp only [List.map_toArray, List.map_cons, List.map_nil]); first | done | rfl | (simp only [List.length_drop, List.length_take]; rfl)) ?_; (with_reducible refine (pilcrowlaw09_awake.calls k  true _ A7.out).mono ?_); rintro e w13 ⟨rfl, hb⟩; refine ⟨_, rfl, ?_⟩; have n0_ := Aside0.mk (below_step (by repeat (first | (with_reducible first | exact HB.out | apply below_alloc | apply pw_below_drewN | apply below_drew1) | exact HB.out)) hb); clear HB; have HB := n0_; clear n0_; (try clear hb); (try clear hb2); (try clear hk); (try clear hi)))
            go_meet
            case rel => exact ⟨_, (false), (by first | rfl | (simp; done) | (simp [*]; done)), H', ⟨by first | omega | exact Nat.le_refl _⟩, ⟨by repeat (first | (with_reducible first | exact HB.out | apply below_alloc | apply pw_below_drewN | apply below_drew1) | exact HB.out)⟩⟩
          · rw [if_neg c12] at H
            have c12b0 : (t125 == t127) = false := beq_eq_false_iff_ne.mpr c12
            have c12b1 : (t125 != t127) = true := bne_iff_ne.mpr c12
            have H' := Aside0.mk H
            clear H
            go_wp2_with (first | ((with_reducible refine gate_callee (f := 11) rfl ?_); refine goesL_ (some 22) rfl rfl Try.func11 (by kernel_rfl) rfl #[] rfl (by (try simp only [List.map_toArray, List.map_cons, List.map_nil]); first | done | rfl | (simp only [List.length_drop, List.length_take]; rfl)) ?_; (with_reducible refine (pilcrowlaw09_awake.calls k  true _ A7.out).mono ?_); rintro e w14 ⟨rfl, hb⟩; refine ⟨_, rfl, ?_⟩; have n0_ := Aside0.mk (below_step (by repeat (first | (with_reducible first | exact HB.out | apply below_alloc | apply pw_below_drewN | apply below_drew1) | exact HB.out)) hb); clear HB; have HB := n0_; clear n0_; (try clear hb); (try clear hb2); (try clear hk); (try clear hi)))
            go_meet
            case rel => exact ⟨_, (true), (by first | rfl | (simp; done) | (simp [*]; done)), H', ⟨by first | omega | exact Nat.le_refl _⟩, ⟨by repeat (first | (with_reducible first | exact HB.out | apply below_alloc | apply pw_below_drewN | apply below_drew1) | exact HB.out)⟩⟩
        · replace c11 := Bool.eq_false_iff.mpr c11
          subst c11
          have H1 : (pilcrowlaw09_BiasDigits.j0 k a1 t128 t129 (t125 != 0)) = some r := by rw [if_neg (show ¬ (false = true) by decide)] at H; exact H
          clear H
          have H := H1
          clear H1
          have H' := Aside0.mk H
          clear H
          go_wp2_with (first | ((with_reducible refine gate_callee (f := 11) rfl ?_); refine goesL_ (some 22) rfl rfl Try.func11 (by kernel_rfl) rfl #[] rfl (by (try simp only [List.map_toArray, List.map_cons, List.map_nil]); first | done | rfl | (simp only [List.length_drop, List.length_take]; rfl)) ?_; (with_reducible refine (pilcrowlaw09_awake.calls k  true _ A7.out).mono ?_); rintro e w15 ⟨rfl, hb⟩; refine ⟨_, rfl, ?_⟩; have n0_ := Aside0.mk (below_step (by repeat (first | (with_reducible first | exact HB.out | apply below_alloc | apply pw_below_drewN | apply below_drew1) | exact HB.out)) hb); clear HB; have HB := n0_; clear n0_; (try clear hb); (try clear hb2); (try clear hk); (try clear hi)))
          go_meet
          case rel => exact ⟨_, ((t125 != 0)), (by first | rfl | (simp; done) | (simp [*]; done)), H', ⟨by first | omega | exact Nat.le_refl _⟩, ⟨by repeat (first | (with_reducible first | exact HB.out | apply below_alloc | apply pw_below_drewN | apply below_drew1) | exact HB.out)⟩⟩
    · replace c8 := Bool.eq_false_iff.mpr c8
      subst c8
      have H1 : (pilcrowlaw09_BiasDigits.j0 k a1 t128 t129 true) = some r := by rw [if_neg (show ¬ (false = true) by decide)] at H; exact H
      clear H
      have H := H1
      clear H1
      have H' := Aside0.mk H
      clear H
      go_wp2_with (first | ((with_reducible refine gate_callee (f := 11) rfl ?_); refine goesL_ (some 22) rfl rfl Try.func11 (by kernel_rfl) rfl #[] rfl (by (try simp only [List.map_toArray, List.map_cons, List.map_nil]); first | done | rfl | (simp only [List.length_drop, List.length_take]; rfl)) ?_; (with_reducible refine (pilcrowlaw09_awake.calls k  false _ A7.out).mono ?_); rintro e w16 ⟨rfl, hb⟩; refine ⟨_, rfl, ?_⟩; have n0_ := Aside0.mk (below_step (by repeat (first | (with_reducible first | exact HB.out | apply below_alloc | apply pw_below_drewN | apply below_drew1) | exact HB.out)) hb); clear HB; have HB := n0_; clear n0_; (try clear hb); (try clear hb2); (try clear hk); (try clear hi)))
      go_meet
      case rel => exact ⟨_, (true), (by first | rfl | (simp; done) | (simp [*]; done)), H', ⟨by first | omega | exact Nat.le_refl _⟩, ⟨by repeat (first | (with_reducible first | exact HB.out | apply below_alloc | apply pw_below_drewN | apply below_drew1) | exact HB.out)⟩⟩
  case rest =>
    clear HC6
    try clear c1
    try clear p2
    try clear c5
    try clear c8
    try clear c9
    try clear c9b0
    try clear c9b1
    try clear c9b2
    try clear c11
    try clear c12
    try clear c12b0
    try clear c12b1
    try clear c15
    try clear c16
    obtain ⟨kq, x45_5, rfl, HA, HJ5, HB⟩ := hcut
    cases kq with
    | zero => exact absurd HA.out (by simp [pilcrowlaw09_BiasDigits.j0])
    | succ kj5 =>
      have H := HA.out
      clear HA
      simp only [pilcrowlaw09_BiasDigits.j0] at H
      by_cases c17 : x45_5 = true
      · subst c17
        have H1 : (some false) = some r := by rw [if_pos rfl] at H; exact H
        clear H
        have H := H1
        clear H1
        obtain rfl := Option.some.inj H
        go_wp2
        go_ret
        exact ⟨by first | rfl | (simp [errW_none, errW_some] <;> rfl) | (simp [*, errW_none, errW_some] <;> rfl), by repeat (first | (with_reducible first | exact HB.out | apply below_alloc | apply pw_below_drewN | apply below_drew1) | exact HB.out)⟩
      · replace c17 := Bool.eq_false_iff.mpr c17
        subst c17
        have H1 : (if a1 < 0 then (if t129 = true then (some false) else (some (t128 == 0))) else (if a1 > 35 then (if t129 = true then (some false) else (some (t128 == 0))) else (if t129 = true then ((pilcrowref09_Digits.f).bind fun t131 => (if 0 ≤ a1 then (if a1 < (t131.size : Int) then (some (t128 == (bt t131 a1))) else (none)) else (none))) else (some false)))) = some r := by rw [if_neg (show ¬ (false = true) by decide)] at H; exact H
        clear H
        have H := H1
        clear H1
        by_cases c18 : a1 < 0
        · rw [if_pos c18] at H
          have c18b0 : decide (a1 < 0) = true := decide_eq_true c18
          clear c18
          by_cases c19 : t129 = true
          · subst c19
            have H1 : (some false) = some r := by rw [if_pos rfl] at H; exact H
            clear H
            have H := H1
            clear H1
            obtain rfl := Option.some.inj H
            go_wp2
            go_ret
            exact ⟨by first | rfl | (simp [errW_none, errW_some] <;> rfl) | (simp [*, errW_none, errW_some] <;> rfl), by repeat (first | (with_reducible first | exact HB.out | apply below_alloc | apply pw_below_drewN | apply below_drew1) | exact HB.out)⟩
          · replace c19 := Bool.eq_false_iff.mpr c19
            subst c19
            have H1 : (some (t128 == 0)) = some r := by rw [if_neg (show ¬ (false = true) by decide)] at H; exact H
            clear H
            have H := H1
            clear H1
            obtain rfl := Option.some.inj H
            go_wp2
            go_ret
            exact ⟨by first | rfl | (simp [errW_none, errW_some] <;> rfl) | (simp [*, errW_none, errW_some] <;> rfl), by repeat (first | (with_reducible first | exact HB.out | apply below_alloc | apply pw_below_drewN | apply below_drew1) | exact HB.out)⟩
        · rw [if_neg c18] at H
          have c18b0 : decide (a1 < 0) = false := decide_eq_false c18
          clear c18
          by_cases c20 : a1 > 35
          · rw [if_pos c20] at H
            have c20b0 : decide (35 < a1) = true := decide_eq_true c20
            clear c20
            by_cases c21 : t129 = true
            · subst c21
              have H1 : (some false) = some r := by rw [if_pos rfl] at H; exact H
              clear H
              have H := H1
              clear H1
              obtain rfl := Option.some.inj H
              go_wp2
              go_ret
              exact ⟨by first | rfl | (simp [errW_none, errW_some] <;> rfl) | (simp [*, errW_none, errW_some] <;> rfl), by repeat (first | (with_reducible first | exact HB.out | apply below_alloc | apply pw_below_drewN | apply below_drew1) | exact HB.out)⟩
            · replace c21 := Bool.eq_false_iff.mpr c21
              subst c21
              have H1 : (some (t128 == 0)) = some r := by rw [if_neg (show ¬ (false = true) by decide)] at H; exact H
              clear H
              have H := H1
              clear H1
              obtain rfl := Option.some.inj H
              go_wp2
              go_ret
              exact ⟨by first | rfl | (simp [errW_none, errW_some] <;> rfl) | (simp [*, errW_none, errW_some] <;> rfl), by repeat (first | (with_reducible first | exact HB.out | apply below_alloc | apply pw_below_drewN | apply below_drew1) | exact HB.out)⟩
          · rw [if_neg c20] at H
            have c20b0 : decide (35 < a1) = false := decide_eq_false c20
            clear c20
            by_cases c22 : t129 = true
            · subst c22
              have H1 : ((pilcrowref09_Digits.f).bind fun t131 => (if 0 ≤ a1 then (if a1 < (t131.size : Int) then (some (t128 == (bt t131 a1))) else (none)) else (none))) = some r := by rw [if_pos rfl] at H; exact H
              clear H
              have H := H1
              clear H1
              replace H := Option.bind_eq_some_iff.mp H
              obtain ⟨t131, A230, H⟩ := H
              replace H : (if 0 ≤ a1 then (if a1 < (t131.size : Int) then (some (t128 == (bt t131 a1))) else (none)) else (none)) = some r := H
              have A23 := Aside0.mk A230
              clear A230
              by_cases c24 : 0 ≤ a1
              · rw [if_pos c24] at H
                have c24b0 : decide (0 ≤ a1) = true := decide_eq_true c24
                clear c24
                by_cases c25 : a1 < (t131.size : Int)
                · rw [if_pos c25] at H
                  have c25b0 : decide (a1 < (t131.size : Int)) = true := decide_eq_true c25
                  clear c25
                  obtain rfl := Option.some.inj H
                  go_wp2_with (first | (go_at_call 18; (with_reducible refine (pilcrowref09_Digits.calls  t131 _ A23.out).mono ?_); rintro e w' ⟨rfl, ⟨nd, rfl⟩⟩; have p26 : 0 ≤ (a1 : Int) := of_decide_eq_true (by first | (with_reducible assumption) | assumption); have q26 : a1 < (t131.size : Int) := of_decide_eq_true (by first | (with_reducible assumption) | assumption); have hx26 := bt_at t131 a1; replace p26 := eq_true p26; replace q26 := eq_true q26))
                  go_ret
                  exact ⟨by first | rfl | (simp [errW_none, errW_some] <;> rfl) | (simp [*, errW_none, errW_some] <;> rfl), by repeat (first | (with_reducible first | exact HB.out | apply below_alloc | apply pw_below_drewN | apply below_drew1) | exact HB.out)⟩
                · rw [if_neg c25] at H
                  exact absurd H (by simp)
              · rw [if_neg c24] at H
                exact absurd H (by simp)
            · replace c22 := Bool.eq_false_iff.mpr c22
              subst c22
              have H1 : (some false) = some r := by rw [if_neg (show ¬ (false = true) by decide)] at H; exact H
              clear H
              have H := H1
              clear H1
              obtain rfl := Option.some.inj H
              go_wp2
              go_ret
              exact ⟨by first | rfl | (simp [errW_none, errW_some] <;> rfl) | (simp [*, errW_none, errW_some] <;> rfl), by repeat (first | (with_reducible first | exact HB.out | apply below_alloc | apply pw_below_drewN | apply below_drew1) | exact HB.out)⟩

/-- THE ONE PURE STATEMENT of pilcrowlaw09_BiasDigits: yours. -/
def pilcrowlaw09_BiasDigits.Pure : Prop := ∀ (a0 : Int) (a1 : Int), (Lit.int .u8 a0).wf = true → (Lit.int .i64 a1).wf = true → ∃ k, pilcrowlaw09_BiasDigits.f k a0 a1 = some true
theorem pilcrowlaw09_BiasDigits.walk (P : pilcrowlaw09_BiasDigits.Pure) (a0 : Int) (a1 : Int) (w : World) (w0 : (Lit.int .u8 a0).wf = true) (w1 : (Lit.int .i64 a1).wf = true) :
    Calls Try.prog 5 #[.int .u8 a0, .int .i64 a1] w fun e w' => e = .returned (.bool true) ∧ Below w.heap.size w w' := by
  obtain ⟨k, h⟩ := P a0 a1 w0 w1
  refine (pilcrowlaw09_BiasDigits.calls k a0 a1 true w h).mono ?_
  rintro e w' ⟨rfl, hd⟩
  exact ⟨rfl, hd⟩

end Go.Proofs.Ythpenelaieohkaa.PBiasDigits
