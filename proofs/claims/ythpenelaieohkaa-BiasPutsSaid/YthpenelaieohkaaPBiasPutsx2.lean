-- PRINTED BY print.sh 35421559b90ae4d0a3588c463048766b98c2df88dd9212a6774a882060cdf62d: not written by this session
import Derived.Test.YthpenelaieohkaaPBiasPutsx0
import Derived.Test.YthpenelaieohkaaPBiasPutsx1
namespace Go.Proofs.Ythpenelaieohkaa.PBiasPuts
open Go.RowKit Go.Proofs.YthpenelaieohkaaW.PrintWords Go.Proofs.YthpenelaieohkaaW.PrintLast Go.Proofs.YthpenelaieohkaaW.PrintMore
attribute [local go_sem] max2_int min2_int max_two min_two max_three min_three max_four min_four   -- for this text's walks alone
set_option linter.unusedVariables false
set_option linter.unusedSimpArgs false

/-! ### pilcrowref09_Threshold: function 14 -/
def pilcrowref09_Threshold.f (a0 : Int) (a1 : Int) : Option (Int) := (pilcrowref09_bound.f a0).bind fun t124 => ((pilcrowref09_bound.f a1).bind fun t125 => (if (wrap64 ((wrap64 (36 * (wrap64 (t124 + 1)))) - t125)) < 1 then (some 1) else (if (wrap64 ((wrap64 (36 * (wrap64 (t124 + 1)))) - t125)) > 26 then (some 26) else (some (wrap64 ((wrap64 (36 * (wrap64 (t124 + 1)))) - t125))))))
set_option maxHeartbeats 8000000 in
set_option maxRecDepth 100000 in
theorem pilcrowref09_Threshold.calls (a0 : Int) (a1 : Int) (r : Int) (w : World) (h : pilcrowref09_Threshold.f a0 a1 = some r) :
    Calls Try.prog 14 #[.int .i64 a0, .int .i64 a1] w fun e w' => e = .returned (.int .i64 r) ∧ Drawn0 w w' := by
  have H : ((pilcrowref09_bound.f a0).bind fun t124 => ((pilcrowref09_bound.f a1).bind fun t125 => (if (wrap64 ((wrap64 (36 * (wrap64 (t124 + 1)))) - t125)) < 1 then (some 1) else (if (wrap64 ((wrap64 (36 * (wrap64 (t124 + 1)))) - t125)) > 26 then (some 26) else (some (wrap64 ((wrap64 (36 * (wrap64 (t124 + 1)))) - t125))))))) = some r := h
  clear h
  replace H := Option.bind_eq_some_iff.mp H
  obtain ⟨t124, A30, H⟩ := H
  replace H : ((pilcrowref09_bound.f a1).bind fun t125 => (if (wrap64 ((wrap64 (36 * (wrap64 (t124 + 1)))) - t125)) < 1 then (some 1) else (if (wrap64 ((wrap64 (36 * (wrap64 (t124 + 1)))) - t125)) > 26 then (some 26) else (some (wrap64 ((wrap64 (36 * (wrap64 (t124 + 1)))) - t125)))))) = some r := H
  have A3 := Aside0.mk A30
  clear A30
  replace H := Option.bind_eq_some_iff.mp H
  obtain ⟨t125, A40, H⟩ := H
  replace H : (if (wrap64 ((wrap64 (36 * (wrap64 (t124 + 1)))) - t125)) < 1 then (some 1) else (if (wrap64 ((wrap64 (36 * (wrap64 (t124 + 1)))) - t125)) > 26 then (some 26) else (some (wrap64 ((wrap64 (36 * (wrap64 (t124 + 1)))) - t125))))) = some r := H
  have A4 := Aside0.mk A40
  clear A40
  by_cases c5 : (wrap64 ((wrap64 (36 * (wrap64 (t124 + 1)))) - t125)) < 1
  · rw [if_pos c5] at H
    have c5b0 : decide ((wrap64 ((wrap64 (36 * (wrap64 (t124 + 1)))) - t125)) < 1) = true := decide_eq_true c5
    clear c5
    obtain rfl := Option.some.inj H
    go_enter Try.func14, Try.ntmps14
    go_wp2_with (first | ((with_reducible refine gate_callee (f := 25) rfl ?_); refine goesL_ (some 7) rfl rfl Try.func25 (by kernel_rfl) rfl #[.int .i64 a0] rfl (by (try simp only [List.map_toArray, List.map_cons, List.map_nil]); first | done | rfl | (simp only [List.length_drop, List.length_take]; rfl)) ?_; (with_reducible refine (pilcrowref09_bound.calls a0 t124 _ A3.out).mono ?_); rintro e w' ⟨rfl, ⟨nd, rfl⟩⟩; refine ⟨_, rfl, ?_⟩) | ((with_reducible refine gate_callee (f := 25) rfl ?_); refine goesL_ (some 11) rfl rfl Try.func25 (by kernel_rfl) rfl #[.int .i64 a1] rfl (by (try simp only [List.map_toArray, List.map_cons, List.map_nil]); first | done | rfl | (simp only [List.length_drop, List.length_take]; rfl)) ?_; (with_reducible refine (pilcrowref09_bound.calls a1 t125 _ A4.out).mono ?_); rintro e w' ⟨rfl, ⟨nd, rfl⟩⟩; refine ⟨_, rfl, ?_⟩))
    go_ret
    exact ⟨by first | rfl | (simp; done) | (simp [*]; done), by repeat (first | exact Drawn0.refl _ | apply Drawn0.step)⟩
  · rw [if_neg c5] at H
    have c5b0 : decide ((wrap64 ((wrap64 (36 * (wrap64 (t124 + 1)))) - t125)) < 1) = false := decide_eq_false c5
    clear c5
    by_cases c6 : (wrap64 ((wrap64 (36 * (wrap64 (t124 + 1)))) - t125)) > 26
    · rw [if_pos c6] at H
      have c6b0 : decide (26 < (wrap64 ((wrap64 (36 * (wrap64 (t124 + 1)))) - t125))) = true := decide_eq_true c6
      clear c6
      obtain rfl := Option.some.inj H
      go_enter Try.func14, Try.ntmps14
      go_wp2_with (first | ((with_reducible refine gate_callee (f := 25) rfl ?_); refine goesL_ (some 7) rfl rfl Try.func25 (by kernel_rfl) rfl #[.int .i64 a0] rfl (by (try simp only [List.map_toArray, List.map_cons, List.map_nil]); first | done | rfl | (simp only [List.length_drop, List.length_take]; rfl)) ?_; (with_reducible refine (pilcrowref09_bound.calls a0 t124 _ A3.out).mono ?_); rintro e w' ⟨rfl, ⟨nd, rfl⟩⟩; refine ⟨_, rfl, ?_⟩) | ((with_reducible refine gate_callee (f := 25) rfl ?_); refine goesL_ (some 11) rfl rfl Try.func25 (by kernel_rfl) rfl #[.int .i64 a1] rfl (by (try simp only [List.map_toArray, List.map_cons, List.map_nil]); first | done | rfl | (simp only [List.length_drop, List.length_take]; rfl)) ?_; (with_reducible refine (pilcrowref09_bound.calls a1 t125 _ A4.out).mono ?_); rintro e w' ⟨rfl, ⟨nd, rfl⟩⟩; refine ⟨_, rfl, ?_⟩))
      go_ret
      exact ⟨by first | rfl | (simp; done) | (simp [*]; done), by repeat (first | exact Drawn0.refl _ | apply Drawn0.step)⟩
    · rw [if_neg c6] at H
      have c6b0 : decide (26 < (wrap64 ((wrap64 (36 * (wrap64 (t124 + 1)))) - t125))) = false := decide_eq_false c6
      clear c6
      obtain rfl := Option.some.inj H
      go_enter Try.func14, Try.ntmps14
      go_wp2_with (first | ((with_reducible refine gate_callee (f := 25) rfl ?_); refine goesL_ (some 7) rfl rfl Try.func25 (by kernel_rfl) rfl #[.int .i64 a0] rfl (by (try simp only [List.map_toArray, List.map_cons, List.map_nil]); first | done | rfl | (simp only [List.length_drop, List.length_take]; rfl)) ?_; (with_reducible refine (pilcrowref09_bound.calls a0 t124 _ A3.out).mono ?_); rintro e w' ⟨rfl, ⟨nd, rfl⟩⟩; refine ⟨_, rfl, ?_⟩) | ((with_reducible refine gate_callee (f := 25) rfl ?_); refine goesL_ (some 11) rfl rfl Try.func25 (by kernel_rfl) rfl #[.int .i64 a1] rfl (by (try simp only [List.map_toArray, List.map_cons, List.map_nil]); first | done | rfl | (simp only [List.length_drop, List.length_take]; rfl)) ?_; (with_reducible refine (pilcrowref09_bound.calls a1 t125 _ A4.out).mono ?_); rintro e w' ⟨rfl, ⟨nd, rfl⟩⟩; refine ⟨_, rfl, ?_⟩))
      go_ret
      exact ⟨by first | rfl | (simp; done) | (simp [*]; done), by repeat (first | exact Drawn0.refl _ | apply Drawn0.step)⟩

/-! ### pilcrowref09_Digits: function 18 -/
def pilcrowref09_Digits.f  : Option (ByteArray) := some (⟨#[97, 98, 99, 100, 101, 102, 103, 104, 105, 106, 107, 108, 109, 110, 111, 112, 113, 114, 115, 116, 117, 118, 119, 120, 121, 122, 48, 49, 50, 51, 52, 53, 54, 55, 56, 57]⟩ : ByteArray)
set_option maxHeartbeats 8000000 in
set_option maxRecDepth 100000 in
theorem pilcrowref09_Digits.calls  (r : ByteArray) (w : World) (h : pilcrowref09_Digits.f  = some r) :
    Calls Try.prog 18 #[] w fun e w' => e = .returned (.string r) ∧ Drawn0 w w' := by
  have H : (some (⟨#[97, 98, 99, 100, 101, 102, 103, 104, 105, 106, 107, 108, 109, 110, 111, 112, 113, 114, 115, 116, 117, 118, 119, 120, 121, 122, 48, 49, 50, 51, 52, 53, 54, 55, 56, 57]⟩ : ByteArray)) = some r := h
  clear h
  obtain rfl := Option.some.inj H
  go_enter Try.func18, Try.ntmps18
  go_wp2
  go_ret
  exact ⟨by first | rfl | (simp; done) | (simp [*]; done), by repeat (first | exact Drawn0.refl _ | apply Drawn0.step)⟩

/-! ### pilcrowref09_Put: function 20 -/
def pilcrowref09_Put.l0 : Nat → Int → Int → ByteArray → Int → Option (ByteArray)
  | 0, _, _, _, _ => none
  | k + 1, x0, x1, x5, x6 => if x6 < 200 then ((pilcrowref09_Threshold.f x6 x1).bind fun t126 => (if x0 < (IntKind.u64.wrap (t126)) then ((pilcrowref09_Digits.f).bind fun t127 => (if 0 ≤ x0 then (if x0 ≤ (IntKind.u64.wrap (x0 + 1)) then (if (IntKind.u64.wrap (x0 + 1)) ≤ (t127.size : Int) then (if x5.size + (t127.extract (x0 : Int).toNat ((IntKind.u64.wrap (x0 + 1)) : Int).toNat).size ≤ 9223372036854775807 then (some (x5 ++ (t127.extract (x0 : Int).toNat ((IntKind.u64.wrap (x0 + 1)) : Int).toNat))) else (none)) else (none)) else (none)) else (none))) else (if (IntKind.u64.wrap (36 - (IntKind.u64.wrap (t126)))) = 0 then (none) else ((pilcrowref09_Digits.f).bind fun t128 => (if 0 ≤ (IntKind.u64.wrap ((IntKind.u64.wrap (t126)) + (Int.tmod (IntKind.u64.wrap (x0 - (IntKind.u64.wrap (t126)))) (IntKind.u64.wrap (36 - (IntKind.u64.wrap (t126))))))) then (if (IntKind.u64.wrap ((IntKind.u64.wrap (t126)) + (Int.tmod (IntKind.u64.wrap (x0 - (IntKind.u64.wrap (t126)))) (IntKind.u64.wrap (36 - (IntKind.u64.wrap (t126))))))) ≤ (IntKind.u64.wrap ((IntKind.u64.wrap ((IntKind.u64.wrap (t126)) + (Int.tmod (IntKind.u64.wrap (x0 - (IntKind.u64.wrap (t126)))) (IntKind.u64.wrap (36 - (IntKind.u64.wrap (t126))))))) + 1)) then (if (IntKind.u64.wrap ((IntKind.u64.wrap ((IntKind.u64.wrap (t126)) + (Int.tmod (IntKind.u64.wrap (x0 - (IntKind.u64.wrap (t126)))) (IntKind.u64.wrap (36 - (IntKind.u64.wrap (t126))))))) + 1)) ≤ (t128.size : Int) then (if x5.size + (t128.extract ((IntKind.u64.wrap ((IntKind.u64.wrap (t126)) + (Int.tmod (IntKind.u64.wrap (x0 - (IntKind.u64.wrap (t126)))) (IntKind.u64.wrap (36 - (IntKind.u64.wrap (t126))))))) : Int).toNat ((IntKind.u64.wrap ((IntKind.u64.wrap ((IntKind.u64.wrap (t126)) + (Int.tmod (IntKind.u64.wrap (x0 - (IntKind.u64.wrap (t126)))) (IntKind.u64.wrap (36 - (IntKind.u64.wrap (t126))))))) + 1)) : Int).toNat).size ≤ 9223372036854775807 then (pilcrowref09_Put.l0 k (IntKind.u64.wrap (Int.tdiv (IntKind.u64.wrap (x0 - (IntKind.u64.wrap (t126)))) (IntKind.u64.wrap (36 - (IntKind.u64.wrap (t126)))))) x1 (x5 ++ (t128.extract ((IntKind.u64.wrap ((IntKind.u64.wrap (t126)) + (Int.tmod (IntKind.u64.wrap (x0 - (IntKind.u64.wrap (t126)))) (IntKind.u64.wrap (36 - (IntKind.u64.wrap (t126))))))) : Int).toNat ((IntKind.u64.wrap ((IntKind.u64.wrap ((IntKind.u64.wrap (t126)) + (Int.tmod (IntKind.u64.wrap (x0 - (IntKind.u64.wrap (t126)))) (IntKind.u64.wrap (36 - (IntKind.u64.wrap (t126))))))) + 1)) : Int).toNat)) (wrap64 (x6 + 1))) else (none)) else (none)) else (none)) else (none)))))) else (some x5)
def pilcrowref09_Put.f (k : Nat) (a0 : Int) (a1 : Int) : Option (ByteArray) := pilcrowref09_Put.l0 k a0 a1 (⟨#[]⟩ : ByteArray) 0
theorem pilcrowref09_Put.mono_l : ∀ k, (∀ y0 y1 y2 y3, LeO (pilcrowref09_Put.l0 k y0 y1 y2 y3) (pilcrowref09_Put.l0 (k + 1) y0 y1 y2 y3))
  | 0 => fun _ _ _ _ r h => by simp [pilcrowref09_Put.l0] at h
  | k + 1 => by
    have ih0 := pilcrowref09_Put.mono_l k
    · intro y0 y1 y2 y3
      unfold pilcrowref09_Put.l0
      repeat' first
      | (with_reducible exact ih0 _ _ _ _)
      | (with_reducible exact LeO.refl _)
      | (with_reducible exact LeO.none _)
      | (with_reducible refine LeO.ite ?_ ?_)
      | (with_reducible refine LeO.bind ?_ (fun _ => ?_))
      | exact ih0 _ _ _ _
      | exact LeO.none _
      | refine LeO.ite ?_ ?_
      | refine LeO.bind ?_ (fun _ => ?_)
theorem pilcrowref09_Put.mono : ∀ a0 a1 k, LeO (pilcrowref09_Put.f k a0 a1) (pilcrowref09_Put.f (k + 1) a0 a1) := by
  intro a0 a1 k
  have ih0 := pilcrowref09_Put.mono_l k
  unfold pilcrowref09_Put.f
  repeat' first
      | (with_reducible exact ih0 _ _ _ _)
      | (with_reducible exact LeO.refl _)
      | (with_reducible exact LeO.none _)
      | (with_reducible refine LeO.ite ?_ ?_)
      | (with_reducible refine LeO.bind ?_ (fun _ => ?_))
      | exact ih0 _ _ _ _
      | exact LeO.none _
      | refine LeO.ite ?_ ?_
      | refine LeO.bind ?_ (fun _ => ?_)
set_option maxHeartbeats 8000000 in
set_option maxRecDepth 100000 in
theorem pilcrowref09_Put.calls (k : Nat) (a0 : Int) (a1 : Int) (r : ByteArray) (w : World) (h : pilcrowref09_Put.f k a0 a1 = some r) :
    Calls Try.prog 20 #[.int .u64 a0, .int .i64 a1] w fun e w' => e = .returned (.string r) ∧ Drawn0 w w' := by
  have H : (pilcrowref09_Put.l0 k a0 a1 (⟨#[]⟩ : ByteArray) 0) = some r := h
  clear h
  have H' := Aside0.mk H
  clear H
  go_enter Try.func20, Try.ntmps20
  go_wp2
  go_loopg [0, 5, 6] k (fun kq v0 v5 v6 w' => ∃ (x0_1 : Int) (x5_1 : ByteArray) (x6_1 : Int), v0 = .int .u64 x0_1 ∧ v5 = .string x5_1 ∧ v6 = .int .i64 x6_1 ∧ Aside0 (pilcrowref09_Put.l0 kq x0_1 a1 x5_1 x6_1 = some r) ∧ Aside0 (kq ≤ k) ∧ Drawn0 w w')
  case atStart => exact ⟨(a0), ((⟨#[]⟩ : ByteArray)), (0), (by first | rfl | (simp; done) | (simp [*]; done)), (by first | rfl | (simp; done) | (simp [*]; done)), (by first | rfl | (simp; done) | (simp [*]; done)), H', ⟨Nat.le_refl _⟩, by repeat (first | exact Drawn0.refl _ | apply Drawn0.step)⟩
  case round =>
    clear H'
    try clear c2
    try clear p2
    obtain ⟨x0_1, x5_1, x6_1, rfl, rfl, rfl, HA, HK1, ⟨m1, rfl⟩⟩ := hrel
    cases gk with
    | zero => exact absurd HA.out (by simp [pilcrowref09_Put.l0])
    | succ k1 =>
      have H := HA.out
      clear HA
      simp only [pilcrowref09_Put.l0] at H
      by_cases c3 : x6_1 < 200
      · rw [if_pos c3] at H
        have c3b0 : decide (x6_1 < 200) = true := decide_eq_true c3
        clear c3
        replace H := Option.bind_eq_some_iff.mp H
        obtain ⟨t126, A40, H⟩ := H
        replace H : (if x0_1 < (IntKind.u64.wrap (t126)) then ((pilcrowref09_Digits.f).bind fun t127 => (if 0 ≤ x0_1 then (if x0_1 ≤ (IntKind.u64.wrap (x0_1 + 1)) then (if (IntKind.u64.wrap (x0_1 + 1)) ≤ (t127.size : Int) then (if x5_1.size + (t127.extract (x0_1 : Int).toNat ((IntKind.u64.wrap (x0_1 + 1)) : Int).toNat).size ≤ 9223372036854775807 then (some (x5_1 ++ (t127.extract (x0_1 : Int).toNat ((IntKind.u64.wrap (x0_1 + 1)) : Int).toNat))) else (none)) else (none)) else (none)) else (none))) else (if (IntKind.u64.wrap (36 - (IntKind.u64.wrap (t126)))) = 0 then (none) else ((pilcrowref09_Digits.f).bind fun t128 => (if 0 ≤ (IntKind.u64.wrap ((IntKind.u64.wrap (t126)) + (Int.tmod (IntKind.u64.wrap (x0_1 - (IntKind.u64.wrap (t126)))) (IntKind.u64.wrap (36 - (IntKind.u64.wrap (t126))))))) then (if (IntKind.u64.wrap ((IntKind.u64.wrap (t126)) + (Int.tmod (IntKind.u64.wrap (x0_1 - (IntKind.u64.wrap (t126)))) (IntKind.u64.wrap (36 - (IntKind.u64.wrap (t126))))))) ≤ (IntKind.u64.wrap ((IntKind.u64.wrap ((IntKind.u64.wrap (t126)) + (Int.tmod (IntKind.u64.wrap (x0_1 - (IntKind.u64.wrap (t126)))) (IntKind.u64.wrap (36 - (IntKind.u64.wrap (t126))))))) + 1)) then (if (IntKind.u64.wrap ((IntKind.u64.wrap ((IntKind.u64.wrap (t126)) + (Int.tmod (IntKind.u64.wrap (x0_1 - (IntKind.u64.wrap (t126)))) (IntKind.u64.wrap (36 - (IntKind.u64.wrap (t126))))))) + 1)) ≤ (t128.size : Int) then (if x5_1.size + (t128.extract ((IntKind.u64.wrap ((IntKind.u64.wrap (t126)) + (Int.tmod (IntKind.u64.wrap (x0_1 - (IntKind.u64.wrap (t126)))) (IntKind.u64.wrap (36 - (IntKind.u64.wrap (t126))))))) : Int).toNat ((IntKind.u64.wrap ((IntKind.u64.wrap ((IntKind.u64.wrap (t126)) + (Int.tmod (IntKind.u64.wrap (x0_1 - (IntKind.u64.wrap (t126)))) (IntKind.u64.wrap (36 - (IntKind.u64.wrap (t126))))))) + 1)) : Int).toNat).size ≤ 9223372036854775807 then (pilcrowref09_Put.l0 k1 (IntKind.u64.wrap (Int.tdiv (IntKind.u64.wrap (x0_1 - (IntKind.u64.wrap (t126)))) (IntKind.u64.wrap (36 - (IntKind.u64.wrap (t126)))))) a1 (x5_1 ++ (t128.extract ((IntKind.u64.wrap ((IntKind.u64.wrap (t126)) + (Int.tmod (IntKind.u64.wrap (x0_1 - (IntKind.u64.wrap (t126)))) (IntKind.u64.wrap (36 - (IntKind.u64.wrap (t126))))))) : Int).toNat ((IntKind.u64.wrap ((IntKind.u64.wrap ((IntKind.u64.wrap (t126)) + (Int.tmod (IntKind.u64.wrap (x0_1 - (IntKind.u64.wrap (t126)))) (IntKind.u64.wrap (36 - (IntKind.u64.wrap (t126))))))) + 1)) : Int).toNat)) (wrap64 (x6_1 + 1))) else (none)) else (none)) else (none)) else (none))))) = some r := H
        have A4 := Aside0.mk A40
        clear A40
        by_cases c5 : x0_1 < (IntKind.u64.wrap (t126))
        · rw [if_pos c5] at H
          have c5b0 : decide (x0_1 < (IntKind.u64.wrap (t126))) = true := decide_eq_true c5
          clear c5
          replace H := Option.bind_eq_some_iff.mp H
          obtain ⟨t127, A60, H⟩ := H
          replace H : (if 0 ≤ x0_1 then (if x0_1 ≤ (IntKind.u64.wrap (x0_1 + 1)) then (if (IntKind.u64.wrap (x0_1 + 1)) ≤ (t127.size : Int) then (if x5_1.size + (t127.extract (x0_1 : Int).toNat ((IntKind.u64.wrap (x0_1 + 1)) : Int).toNat).size ≤ 9223372036854775807 then (some (x5_1 ++ (t127.extract (x0_1 : Int).toNat ((IntKind.u64.wrap (x0_1 + 1)) : Int).toNat))) else (none)) else (none)) else (none)) else (none)) = some r := H
          have A6 := Aside0.mk A60
          clear A60
          by_cases c7 : 0 ≤ x0_1
          · rw [if_pos c7] at H
            have c7b0 := eq_true c7
            have c7b1 : decide (0 ≤ x0_1) = true := decide_eq_true c7
            clear c7
            by_cases c8 : x0_1 ≤ (IntKind.u64.wrap (x0_1 + 1))
            · rw [if_pos c8] at H
              have c8b0 := eq_true c8
              have c8b1 : decide (x0_1 ≤ (IntKind.u64.wrap (x0_1 + 1))) = true := decide_eq_true c8
              by_cases c9 : (IntKind.u64.wrap (x0_1 + 1)) ≤ (t127.size : Int)
              · rw [if_pos c9] at H
                have c9b0 := eq_true c9
                have c9b1 : decide ((IntKind.u64.wrap (x0_1 + 1)) ≤ (t127.size : Int)) = true := decide_eq_true c9
                by_cases c10 : x5_1.size + (t127.extract (x0_1 : Int).toNat ((IntKind.u64.wrap (x0_1 + 1)) : Int).toNat).size ≤ 9223372036854775807
                · rw [if_pos c10] at H
                  have c10b0 := eq_true c10
                  have c10b1 : decide (x5_1.size + (t127.extract (x0_1 : Int).toNat ((IntKind.u64.wrap (x0_1 + 1)) : Int).toNat).size ≤ 9223372036854775807) = true := decide_eq_true c10
                  try have c10b2 : (9223372036854775807 < x5_1.size + (t127.extract (x0_1 : Int).toNat ((IntKind.u64.wrap (x0_1 + 1)) : Int).toNat).size) = False := eq_false (Nat.not_lt.2 c10)
                  obtain rfl := Option.some.inj H
                  go_wp2_with (first | ((with_reducible refine gate_callee (f := 14) rfl ?_); refine goesL_ (some 15) rfl rfl Try.func14 (by kernel_rfl) rfl #[.int .i64 x6_1, .int .i64 a1] rfl (by (try simp only [List.map_toArray, List.map_cons, List.map_nil]); first | done | rfl | (simp only [List.length_drop, List.length_take]; rfl)) ?_; (with_reducible refine (pilcrowref09_Threshold.calls x6_1 a1 t126 _ A4.out).mono ?_); rintro e w' ⟨rfl, ⟨nd, rfl⟩⟩; refine ⟨_, rfl, ?_⟩) | ((with_reducible refine gate_callee (f := 18) rfl ?_); refine goesL_ (some 21) rfl rfl Try.func18 (by kernel_rfl) rfl #[] rfl (by (try simp only [List.map_toArray, List.map_cons, List.map_nil]); first | done | rfl | (simp only [List.length_drop, List.length_take]; rfl)) ?_; (with_reducible refine (pilcrowref09_Digits.calls  t127 _ A6.out).mono ?_); rintro e w' ⟨rfl, ⟨nd, rfl⟩⟩; refine ⟨_, rfl, ?_⟩))
                  go_ret
                  exact ⟨by first | rfl | (simp; done) | (simp [*]; done), by repeat (first | exact Drawn0.refl _ | apply Drawn0.step)⟩
                · rw [if_neg c10] at H
                  exact absurd H (by simp)
              · rw [if_neg c9] at H
                exact absurd H (by simp)
            · rw [if_neg c8] at H
              exact absurd H (by simp)
          · rw [if_neg c7] at H
            exact absurd H (by simp)
        · rw [if_neg c5] at H
          have c5b0 : decide (x0_1 < (IntKind.u64.wrap (t126))) = false := decide_eq_false c5
          clear c5
          by_cases c11 : (IntKind.u64.wrap (36 - (IntKind.u64.wrap (t126)))) = 0
          · rw [if_pos c11] at H
            exact absurd H (by simp)
          · rw [if_neg c11] at H
            have c11b0 : ((IntKind.u64.wrap (36 - (IntKind.u64.wrap (t126)))) == 0) = false := beq_eq_false_iff_ne.mpr c11
            have c11b1 : ((IntKind.u64.wrap (36 - (IntKind.u64.wrap (t126)))) != 0) = true := bne_iff_ne.mpr c11
            replace H := Option.bind_eq_some_iff.mp H
            obtain ⟨t128, A120, H⟩ := H
            replace H : (if 0 ≤ (IntKind.u64.wrap ((IntKind.u64.wrap (t126)) + (Int.tmod (IntKind.u64.wrap (x0_1 - (IntKind.u64.wrap (t126)))) (IntKind.u64.wrap (36 - (IntKind.u64.wrap (t126))))))) then (if (IntKind.u64.wrap ((IntKind.u64.wrap (t126)) + (Int.tmod (IntKind.u64.wrap (x0_1 - (IntKind.u64.wrap (t126)))) (IntKind.u64.wrap (36 - (IntKind.u64.wrap (t126))))))) ≤ (IntKind.u64.wrap ((IntKind.u64.wrap ((IntKind.u64.wrap (t126)) + (Int.tmod (IntKind.u64.wrap (x0_1 - (IntKind.u64.wrap (t126)))) (IntKind.u64.wrap (36 - (IntKind.u64.wrap (t126))))))) + 1)) then (if (IntKind.u64.wrap ((IntKind.u64.wrap ((IntKind.u64.wrap (t126)) + (Int.tmod (IntKind.u64.wrap (x0_1 - (IntKind.u64.wrap (t126)))) (IntKind.u64.wrap (36 - (IntKind.u64.wrap (t126))))))) + 1)) ≤ (t128.size : Int) then (if x5_1.size + (t128.extract ((IntKind.u64.wrap ((IntKind.u64.wrap (t126)) + (Int.tmod (IntKind.u64.wrap (x0_1 - (IntKind.u64.wrap (t126)))) (IntKind.u64.wrap (36 - (IntKind.u64.wrap (t126))))))) : Int).toNat ((IntKind.u64.wrap ((IntKind.u64.wrap ((IntKind.u64.wrap (t126)) + (Int.tmod (IntKind.u64.wrap (x0_1 - (IntKind.u64.wrap (t126)))) (IntKind.u64.wrap (36 - (IntKind.u64.wrap (t126))))))) + 1)) : Int).toNat).size ≤ 9223372036854775807 then (pilcrowref09_Put.l0 k1 (IntKind.u64.wrap (Int.tdiv (IntKind.u64.wrap (x0_1 - (IntKind.u64.wrap (t126)))) (IntKind.u64.wrap (36 - (IntKind.u64.wrap (t126)))))) a1 (x5_1 ++ (t128.extract ((IntKind.u64.wrap ((IntKind.u64.wrap (t126)) + (Int.tmod (IntKind.u64.wrap (x0_1 - (IntKind.u64.wrap (t126)))) (IntKind.u64.wrap (36 - (IntKind.u64.wrap (t126))))))) : Int).toNat ((IntKind.u64.wrap ((IntKind.u64.wrap ((IntKind.u64.wrap (t126)) + (Int.tmod (IntKind.u64.wrap (x0_1 - (IntKind.u64.wrap (t126)))) (IntKind.u64.wrap (36 - (IntKind.u64.wrap (t126))))))) + 1)) : Int).toNat)) (wrap64 (x6_1 + 1))) else (none)) else (none)) else (none)) else (none)) = some r := H
            have A12 := Aside0.mk A120
            clear A120
            obtain ⟨ji13, hji13⟩ : ∃ j_ : Int, (IntKind.u64.wrap ((IntKind.u64.wrap (t126)) + (Int.tmod (IntKind.u64.wrap (x0_1 - (IntKind.u64.wrap (t126)))) (IntKind.u64.wrap (36 - (IntKind.u64.wrap (t126))))))) = j_ := ⟨_, rfl⟩
            replace H : (if 0 ≤ (ji13) then (if (ji13) ≤ (IntKind.u64.wrap ((ji13) + 1)) then (if (IntKind.u64.wrap ((ji13) + 1)) ≤ (t128.size : Int) then (if x5_1.size + (t128.extract ((ji13) : Int).toNat ((IntKind.u64.wrap ((ji13) + 1)) : Int).toNat).size ≤ 9223372036854775807 then (pilcrowref09_Put.l0 k1 (IntKind.u64.wrap (Int.tdiv (IntKind.u64.wrap (x0_1 - (IntKind.u64.wrap (t126)))) (IntKind.u64.wrap (36 - (IntKind.u64.wrap (t126)))))) a1 (x5_1 ++ (t128.extract ((ji13) : Int).toNat ((IntKind.u64.wrap ((ji13) + 1)) : Int).toNat)) (wrap64 (x6_1 + 1))) else (none)) else (none)) else (none)) else (none)) = some r := by first | (rw [hji13] at H; exact H) | (simp only [hji13] at H ⊢; exact H)
            (try rw [hji13] at A4)
            (try rw [hji13] at A12)
            by_cases c14 : 0 ≤ (ji13)
            · rw [if_pos c14] at H
              have c14b0 := eq_true c14
              have c14b1 : decide (0 ≤ (ji13)) = true := decide_eq_true c14
              clear c14
              by_cases c15 : (ji13) ≤ (IntKind.u64.wrap ((ji13) + 1))
              · rw [if_pos c15] at H
                have c15b0 := eq_true c15
                have c15b1 : decide ((ji13) ≤ (IntKind.u64.wrap ((ji13) + 1))) = true := decide_eq_true c15
                by_cases c16 : (IntKind.u64.wrap ((ji13) + 1)) ≤ (t128.size : Int)
                · rw [if_pos c16] at H
                  have c16b0 := eq_true c16
                  have c16b1 : decide ((IntKind.u64.wrap ((ji13) + 1)) ≤ (t128.size : Int)) = true := decide_eq_true c16
                  by_cases c17 : x5_1.size + (t128.extract ((ji13) : Int).toNat ((IntKind.u64.wrap ((ji13) + 1)) : Int).toNat).size ≤ 9223372036854775807
                  · rw [if_pos c17] at H
                    have c17b0 := eq_true c17
                    have c17b1 : decide (x5_1.size + (t128.extract ((ji13) : Int).toNat ((IntKind.u64.wrap ((ji13) + 1)) : Int).toNat).size ≤ 9223372036854775807) = true := decide_eq_true c17
                    try have c17b2 : (9223372036854775807 < x5_1.size + (t128.extract ((ji13) : Int).toNat ((IntKind.u64.wrap ((ji13) + 1)) : Int).toNat).size) = False := eq_false (Nat.not_lt.2 c17)
                    have H' := Aside0.mk H
                    clear H
                    go_wp2_with (first | ((with_reducible refine gate_callee (f := 14) rfl ?_); refine goesL_ (some 15) rfl rfl Try.func14 (by kernel_rfl) rfl #[.int .i64 x6_1, .int .i64 a1] rfl (by (try simp only [List.map_toArray, List.map_cons, List.map_nil]); first | done | rfl | (simp only [List.length_drop, List.length_take]; rfl)) ?_; (with_reducible refine (pilcrowref09_Threshold.calls x6_1 a1 t126 _ A4.out).mono ?_); rintro e w' ⟨rfl, ⟨nd, rfl⟩⟩; refine ⟨_, rfl, ?_⟩) | ((with_reducible refine gate_callee (f := 18) rfl ?_); refine goesL_ (some 36) rfl rfl Try.func18 (by kernel_rfl) rfl #[] rfl (by (try simp only [List.map_toArray, List.map_cons, List.map_nil]); first | done | rfl | (simp only [List.length_drop, List.length_take]; rfl)) ?_; (with_reducible refine (pilcrowref09_Digits.calls  t128 _ A12.out).mono ?_); rintro e w' ⟨rfl, ⟨nd, rfl⟩⟩; refine ⟨_, rfl, ?_⟩))
                    go_roundg k1
                    case measure => have := HK1.out; omega
                    case rel => exact ⟨(IntKind.u64.wrap (Int.tdiv (IntKind.u64.wrap (x0_1 - (IntKind.u64.wrap (t126)))) (IntKind.u64.wrap (36 - (IntKind.u64.wrap (t126)))))), (x5_1 ++ (t128.extract ((ji13) : Int).toNat ((IntKind.u64.wrap ((ji13) + 1)) : Int).toNat)), (wrap64 (x6_1 + 1)), (by first | rfl | (simp; done) | (simp [*]; done)), (by first | rfl | (simp; done) | (simp only [← hji13] <;> (first | rfl | simp)) | (simp [*]; done)), (by first | rfl | (simp; done) | (simp [*]; done)), H', ⟨by have := HK1.out; omega⟩, by repeat (first | exact Drawn0.refl _ | apply Drawn0.step)⟩
                  · rw [if_neg c17] at H
                    exact absurd H (by simp)
                · rw [if_neg c16] at H
                  exact absurd H (by simp)
              · rw [if_neg c15] at H
                exact absurd H (by simp)
            · rw [if_neg c14] at H
              exact absurd H (by simp)
      · rw [if_neg c3] at H
        have c3b0 : decide (x6_1 < 200) = false := decide_eq_false c3
        clear c3
        obtain rfl := Option.some.inj H
        go_wp2
        go_ret
        exact ⟨by first | rfl | (simp; done) | (simp [*]; done), by repeat (first | exact Drawn0.refl _ | apply Drawn0.step)⟩

/-! ### pilcrowlaw09_BiasPuts: function 6 -/
def pilcrowlaw09_BiasPuts.f (k : Nat) (a0 : Int) (a1 : Int) : Option (Bool) := (pilcrowlaw09_awake.f k).bind fun t129 => (if t129 = true then ((bias_Put.f k a0 a1).bind fun t130 => ((pilcrowref09_Put.f k a0 a1).bind fun t131 => (some (t130.toList == t131.toList)))) else (some false))
theorem pilcrowlaw09_BiasPuts.mono : ∀ a0 a1 k, LeO (pilcrowlaw09_BiasPuts.f k a0 a1) (pilcrowlaw09_BiasPuts.f (k + 1) a0 a1) := by
  intro a0 a1 k
  unfold pilcrowlaw09_BiasPuts.f
  repeat' first
      | (with_reducible exact bias_Put.mono _ _ _)
      | (with_reducible exact pilcrowlaw09_awake.mono _)
      | (with_reducible exact pilcrowref09_Put.mono _ _ _)
      | (with_reducible exact LeO.refl _)
      | (with_reducible exact LeO.none _)
      | (with_reducible refine LeO.ite ?_ ?_)
      | (with_reducible refine LeO.bind ?_ (fun _ => ?_))
      | exact bias_Put.mono _ _ _
      | exact pilcrowlaw09_awake.mono _
      | exact pilcrowref09_Put.mono _ _ _
      | exact LeO.none _
      | refine LeO.ite ?_ ?_
      | refine LeO.bind ?_ (fun _ => ?_)
set_option maxHeartbeats 8000000 in
set_option maxRecDepth 100000 in
theorem pilcrowlaw09_BiasPuts.calls (k : Nat) (a0 : Int) (a1 : Int) (r : Bool) (w : World) (h : pilcrowlaw09_BiasPuts.f k a0 a1 = some r) :
    Calls Try.prog 6 #[.int .u64 a0, .int .i64 a1] w fun e w' => e = .returned (.bool r) ∧ Below w.heap.size w w' := by
  have HB := Aside0.mk (Below.refl w.heap.size w)
  have H : ((pilcrowlaw09_awake.f k).bind fun t129 => (if t129 = true then ((bias_Put.f k a0 a1).bind fun t130 => ((pilcrowref09_Put.f k a0 a1).bind fun t131 => (some (t130.toList == t131.toList)))) else (some false))) = some r := h
  clear h
  replace H := Option.bind_eq_some_iff.mp H
  obtain ⟨t129, A30, H⟩ := H
  replace H : (if t129 = true then ((bias_Put.f k a0 a1).bind fun t130 => ((pilcrowref09_Put.f k a0 a1).bind fun t131 => (some (t130.toList == t131.toList)))) else (some false)) = some r := H
  have A3 := Aside0.mk A30
  clear A30
  by_cases c4 : t129 = true
  · subst c4
    have H1 : ((bias_Put.f k a0 a1).bind fun t130 => ((pilcrowref09_Put.f k a0 a1).bind fun t131 => (some (t130.toList == t131.toList)))) = some r := by rw [if_pos rfl] at H; exact H
    clear H
    have H := H1
    clear H1
    replace H := Option.bind_eq_some_iff.mp H
    obtain ⟨t130, A50, H⟩ := H
    replace H : ((pilcrowref09_Put.f k a0 a1).bind fun t131 => (some (t130.toList == t131.toList))) = some r := H
    have A5 := Aside0.mk A50
    clear A50
    replace H := Option.bind_eq_some_iff.mp H
    obtain ⟨t131, A60, H⟩ := H
    replace H : (some (t130.toList == t131.toList)) = some r := H
    have A6 := Aside0.mk A60
    clear A60
    obtain rfl := Option.some.inj H
    go_enter Try.func6, Try.ntmps6
    go_wp2_with (first | ((with_reducible refine gate_callee (f := 11) rfl ?_); refine goesL_ (some 5) rfl rfl Try.func11 (by kernel_rfl) rfl #[] rfl (by (try simp only [List.map_toArray, List.map_cons, List.map_nil]); first | done | rfl | (simp only [List.length_drop, List.length_take]; rfl)) ?_; (with_reducible refine (pilcrowlaw09_awake.calls k  true _ A3.out).mono ?_); rintro e w7 ⟨rfl, hb⟩; refine ⟨_, rfl, ?_⟩; have n0_ := Aside0.mk (below_step (by repeat (first | (with_reducible first | exact HB.out | apply below_alloc | apply pw_below_drewN | apply below_drew1) | exact HB.out)) hb); clear HB; have HB := n0_; clear n0_; (try clear hb); (try clear hb2); (try clear hk); (try clear hi)) | (go_at_call 19; (with_reducible refine (bias_Put.calls k a0 a1 t130 _ A5.out).mono ?_); rintro e w8 ⟨rfl, hb⟩; have n0_ := Aside0.mk (below_step (by repeat (first | (with_reducible first | exact HB.out | apply below_alloc | apply pw_below_drewN | apply below_drew1) | exact HB.out)) hb); clear HB; have HB := n0_; clear n0_; (try clear hb); (try clear hb2); (try clear hk); (try clear hi)) | (go_at_call 20; (with_reducible refine (pilcrowref09_Put.calls k a0 a1 t131 _ A6.out).mono ?_); rintro e w' ⟨rfl, ⟨nd, rfl⟩⟩))
    go_ret
    exact ⟨by first | rfl | (simp [errW_none, errW_some] <;> rfl) | (simp [*, errW_none, errW_some] <;> rfl), by repeat (first | (with_reducible first | exact HB.out | apply below_alloc | apply pw_below_drewN | apply below_drew1) | exact HB.out)⟩
  · replace c4 := Bool.eq_false_iff.mpr c4
    subst c4
    have H1 : (some false) = some r := by rw [if_neg (show ¬ (false = true) by decide)] at H; exact H
    clear H
    have H := H1
    clear H1
    obtain rfl := Option.some.inj H
    go_enter Try.func6, Try.ntmps6
    go_wp2_with (first | ((with_reducible refine gate_callee (f := 11) rfl ?_); refine goesL_ (some 5) rfl rfl Try.func11 (by kernel_rfl) rfl #[] rfl (by (try simp only [List.map_toArray, List.map_cons, List.map_nil]); first | done | rfl | (simp only [List.length_drop, List.length_take]; rfl)) ?_; (with_reducible refine (pilcrowlaw09_awake.calls k  false _ A3.out).mono ?_); rintro e w9 ⟨rfl, hb⟩; refine ⟨_, rfl, ?_⟩; have n0_ := Aside0.mk (below_step (by repeat (first | (with_reducible first | exact HB.out | apply below_alloc | apply pw_below_drewN | apply below_drew1) | exact HB.out)) hb); clear HB; have HB := n0_; clear n0_; (try clear hb); (try clear hb2); (try clear hk); (try clear hi)))
    go_ret
    exact ⟨by first | rfl | (simp [errW_none, errW_some] <;> rfl) | (simp [*, errW_none, errW_some] <;> rfl), by repeat (first | (with_reducible first | exact HB.out | apply below_alloc | apply pw_below_drewN | apply below_drew1) | exact HB.out)⟩

/-- THE ONE PURE STATEMENT of pilcrowlaw09_BiasPuts: yours. -/
def pilcrowlaw09_BiasPuts.Pure : Prop := ∀ (a0 : Int) (a1 : Int), (Lit.int .u64 a0).wf = true → (Lit.int .i64 a1).wf = true → ∃ k, pilcrowlaw09_BiasPuts.f k a0 a1 = some true
theorem pilcrowlaw09_BiasPuts.walk (P : pilcrowlaw09_BiasPuts.Pure) (a0 : Int) (a1 : Int) (w : World) (w0 : (Lit.int .u64 a0).wf = true) (w1 : (Lit.int .i64 a1).wf = true) :
    Calls Try.prog 6 #[.int .u64 a0, .int .i64 a1] w fun e w' => e = .returned (.bool true) ∧ Below w.heap.size w w' := by
  obtain ⟨k, h⟩ := P a0 a1 w0 w1
  refine (pilcrowlaw09_BiasPuts.calls k a0 a1 true w h).mono ?_
  rintro e w' ⟨rfl, hd⟩
  exact ⟨rfl, hd⟩

end Go.Proofs.Ythpenelaieohkaa.PBiasPuts
