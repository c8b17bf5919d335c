/- BiasGets over numbers: at any place of any text stands the number that the reference says, or none, for the reason that it says. -/
import Derived.Test.YthpenelaieohkaaQBiasGetsx3
import Derived.Laws.Bits64
namespace Go.Proofs.Ythpenelaieohkaa.Pure
open Go.RowKit Go.Proofs.Ythpenelaieohkaa.QBiasGets Go.Proofs.YthpenelaieohkaaW.PrintWords Go.Proofs.YthpenelaieohkaaW.PrintLast Go.Proofs.YthpenelaieohkaaW.PrintMore
set_option linter.unusedVariables false
theorem awakeL : pilcrowlaw09_awake.f 40 = some true := by decide +kernel
theorem awakeL_at (k : Nat) (hk : 40 ≤ k) : pilcrowlaw09_awake.f k = some true := at_rounds pilcrowlaw09_awake.mono hk awakeL
theorem u64_bd {x : Int} (h : (Lit.int .u64 x).wf = true) : 0 ≤ x ∧ x ≤ 18446744073709551615 := by
  simp [Lit.wf, IntKind.min, IntKind.max, IntKind.signed, IntKind.bits] at h
  omega
theorem i64_bd {x : Int} (h : (Lit.int .i64 x).wf = true) : -9223372036854775808 ≤ x ∧ x ≤ 9223372036854775807 := by
  simp [Lit.wf, IntKind.min, IntKind.max, IntKind.signed, IntKind.bits] at h
  omega
theorem u8_bd {x : Int} (h : (Lit.int .u8 x).wf = true) : 0 ≤ x ∧ x ≤ 255 := by
  simp [Lit.wf, IntKind.min, IntKind.max, IntKind.signed, IntKind.bits] at h
  omega
theorem u64w {n : Int} (h0 : 0 ≤ n) (h1 : n ≤ 18446744073709551615) : IntKind.u64.wrap n = n := by rw [IntKind.wrap_u64]; omega
theorem i64w {n : Int} (h0 : -9223372036854775808 ≤ n) (h1 : n ≤ 9223372036854775807) : wrap64 n = n := by unfold wrap64; omega
def sm (n : Int) : Int := if n < 0 then 0 else if n > 1000 then 1000 else n
theorem sm_in (n : Int) : 0 ≤ sm n ∧ sm n ≤ 1000 := by unfold sm; (repeat' split) <;> omega
theorem small_f (n : Int) : bias_small.f n = some (sm n) := by
  unfold bias_small.f sm mn mx
  congr 1
  (repeat' split) <;> omega
def thr (p b : Int) : Int := if 36 * (sm p + 1) - sm b < 1 then 1 else if 36 * (sm p + 1) - sm b > 26 then 26 else 36 * (sm p + 1) - sm b
theorem thr_in (p b : Int) : 1 ≤ thr p b ∧ thr p b ≤ 26 := by unfold thr; (repeat' split) <;> omega
theorem thr_go (p b : Int) : bias_Threshold.f p b = some (thr p b) := by
  have h1 := sm_in p
  have h2 := sm_in b
  unfold bias_Threshold.f
  rw [small_f, small_f]
  simp only [Option.bind_some]
  rw [i64w (n := sm p + 1) (by omega) (by omega), i64w (n := 36 * (sm p + 1)) (by omega) (by omega), i64w (by omega) (by omega)]
  unfold thr mn mx
  congr 1
  (repeat' split) <;> omega
theorem bound_f (n : Int) : pilcrowref09_bound.f n = some (sm n) := by
  unfold pilcrowref09_bound.f sm
  (repeat' split) <;> rfl
theorem thr_ref (p b : Int) : pilcrowref09_Threshold.f p b = some (thr p b) := by
  have h1 := sm_in p
  have h2 := sm_in b
  unfold pilcrowref09_Threshold.f
  rw [bound_f, bound_f]
  simp only [Option.bind_some]
  rw [i64w (n := sm p + 1) (by omega) (by omega), i64w (n := 36 * (sm p + 1)) (by omega) (by omega), i64w (by omega) (by omega)]
  unfold thr
  (repeat' split) <;> rfl
def chk (b : Nat) : Bool := match bias_Digit.f 60 (b : Int), pilcrowref09_Digit.f 60 (b : Int) with
  | some (d, ok), some w => (ok == decide (w ≥ 0)) && (if ok = true then d == w && decide (0 ≤ d) && decide (d ≤ 35) else d == 0)
  | _, _ => false
theorem chk_all : ∀ b : Fin 256, chk b = true := by decide +kernel
theorem digit_both (b : Int) (h0 : 0 ≤ b) (h1 : b ≤ 255) : ∃ d ok w, bias_Digit.f 60 b = some (d, ok) ∧ pilcrowref09_Digit.f 60 b = some w ∧ ok = decide (w ≥ 0) ∧ (ok = true → d = w ∧ 0 ≤ d ∧ d ≤ 35) ∧ (ok = false → d = 0) := by
  obtain ⟨n, rfl⟩ := Int.eq_ofNat_of_zero_le h0
  have h := chk_all ⟨n, by omega⟩
  simp only [chk] at h
  split at h
  · rename_i d ok w e1 e2
    refine ⟨d, ok, w, e1, e2, ?_⟩
    cases ok <;> simp at h ⊢ <;> omega
  · cases h
theorem digit_k (b : Int) (h0 : 0 ≤ b) (h1 : b ≤ 255) : ∃ d ok w, (∀ k, 60 ≤ k → bias_Digit.f k b = some (d, ok) ∧ pilcrowref09_Digit.f k b = some w) ∧ ok = decide (w ≥ 0) ∧ (ok = true → d = w ∧ 0 ≤ d ∧ d ≤ 35) ∧ (ok = false → d = 0) := by
  obtain ⟨d, ok, w, e1, e2, h⟩ := digit_both b h0 h1
  exact ⟨d, ok, w, fun k hk => ⟨at_rounds (bias_Digit.mono b) hk e1, at_rounds (pilcrowref09_Digit.mono b) hk e2⟩, h⟩

def TOP : Int := 4611686018427387904
/-- The reference adds a weight as often as the digit says. -/
theorem ref_adds (s : ByteArray) (at_ b w p d : Int) (hw0 : 1 ≤ w) (hw1 : w ≤ TOP + 1) (hd : d ≤ 35) : ∀ (m : Nat) (j n : Int), 0 ≤ j → j + m = d → 0 ≤ n → n ≤ TOP →
    (n + m * w ≤ TOP → ∀ r K, (∀ k, K ≤ k → pilcrowref09_Get.l1 k s at_ b (n + m * w) w TOP p d d = some r) → ∀ k, K + m ≤ k → pilcrowref09_Get.l1 k s at_ b n w TOP p d j = some r) ∧
    (¬ n + m * w ≤ TOP → ∀ k, m + 1 ≤ k → pilcrowref09_Get.l1 k s at_ b n w TOP p d j = some (0, 0, 5))
  | 0, j, n, hj0, hj, h0, h1 => by
    have e : j = d := by omega
    subst e
    refine ⟨fun _ r K hr k hk => ?_, fun h => absurd (by simpa using h1) h⟩
    have := hr k (by omega)
    simpa using this
  | m + 1, j, n, hj0, hj, h0, h1 => by
    have hm : ((m + 1 : Nat) : Int) * w = m * w + w := by rw [Int.natCast_add, Int.add_mul]; simp
    have hmw : 0 ≤ (m : Int) * w := Int.mul_nonneg (by omega) (by omega)
    unfold TOP at hw1 h1
    have step : ∀ k, pilcrowref09_Get.l1 (k + 1) s at_ b n w TOP p d j = if w > TOP - n then some (0, 0, 5) else pilcrowref09_Get.l1 k s at_ b (n + w) w TOP p d (j + 1) := by
      intro k
      simp only [pilcrowref09_Get.l1]
      unfold TOP
      rw [if_pos (by omega), u64w (n := 4611686018427387904 - n) (by omega) (by omega), i64w (n := j + 1) (by omega) (by omega)]
      by_cases hw : w > 4611686018427387904 - n
      · rw [if_pos hw, if_pos hw]
      · rw [if_neg hw, if_neg hw, u64w (by omega) (by omega)]
    rw [hm]
    by_cases hw : w > TOP - n
    · refine ⟨fun h => ?_, fun _ k hk => ?_⟩
      · omega
      · obtain ⟨k, rfl⟩ : ∃ q, k = q + 1 := ⟨k - 1, by omega⟩
        rw [step, if_pos hw]
    · obtain ⟨ih1, ih2⟩ := ref_adds s at_ b w p d hw0 (by unfold TOP; omega) hd m (j + 1) (n + w) (by omega) (by omega) (by omega) (by unfold TOP at hw ⊢; omega)
      refine ⟨fun h r K hr k hk => ?_, fun h k hk => ?_⟩
      · obtain ⟨k, rfl⟩ : ∃ q, k = q + 1 := ⟨k - 1, by omega⟩
        rw [step, if_neg hw]
        refine ih1 (by omega) r K (fun k hk => ?_) k (by omega)
        rw [show n + w + (m : Int) * w = n + (m * w + w) from by omega]
        exact hr k hk
      · obtain ⟨k, rfl⟩ : ∃ q, k = q + 1 := ⟨k - 1, by omega⟩
        rw [step, if_neg hw]
        exact ih2 (by omega) k (by omega)
theorem get_loops (s : ByteArray) (hs : s.size ≤ 300) (b : Int) : ∀ (m i p : Nat) (n w : Int), m + i = s.size → p ≤ i → 0 ≤ n → n ≤ TOP → 1 ≤ w → w ≤ TOP + 1 →
    ∃ r, ∀ k, 40 * m + 100 ≤ k → bias_Get.l0 k s (i : Int) b n w (p : Int) = some r ∧ pilcrowref09_Get.l0 k s (i : Int) b n w TOP (p : Int) = some r
  | 0, i, p, n, w, hm, hp, n0, n1, w0, w1 => by
    refine ⟨(0, 0, 4), fun k hk => ?_⟩
    obtain ⟨k, rfl⟩ : ∃ q, k = q + 1 := ⟨k - 1, by omega⟩
    simp only [bias_Get.l0, pilcrowref09_Get.l0]
    rw [if_pos (by omega), if_neg (by omega)]
    exact ⟨rfl, rfl⟩
  | m + 1, i, p, n, w, hm, hp, n0, n1, w0, w1 => by
    obtain ⟨d, ok, v, hdig, hok, h1, h2⟩ := digit_k (bt s (i : Int)) (bt_range s i).1 (bt_range s i).2
    have ht := thr_in (p : Int) b
    cases ok with
    | false =>
      have hv : v < 0 := by have := hok; simp at this; omega
      refine ⟨(0, 0, 3), fun k hk => ?_⟩
      obtain ⟨k, rfl⟩ : ∃ q, k = q + 1 := ⟨k - 1, by omega⟩
      obtain ⟨e1, e2⟩ := hdig k (by omega)
      simp only [bias_Get.l0, pilcrowref09_Get.l0]
      rw [if_neg (by omega), if_pos (by omega), if_pos (by omega), if_pos (by omega), if_pos (by omega), e1, e2]
      simp only [Option.bind_some]
      rw [if_neg (by decide), if_pos hv]
      exact ⟨rfl, rfl⟩
    | true =>
      obtain ⟨rfl, d0, d1⟩ := h1 rfl
      have hdw : 0 ≤ d * w := Int.mul_nonneg d0 (by omega)
      obtain ⟨ra, rl⟩ := ref_adds s (i : Int) b w (p : Int) d w0 w1 d1 d.toNat 0 n (by decide) (by omega) n0 n1
      rw [show ((d.toNat : Nat) : Int) = d from by omega] at ra rl
      -- the test of the program
      have test : ∀ k, bias_Get.l0 (k + 1) s (i : Int) b n w (p : Int) = if 60 ≤ k then bias_Get.j2 k s (i : Int) b n w (p : Int) d (decide (¬ n + d * w ≤ TOP)) else bias_Get.l0 (k + 1) s (i : Int) b n w (p : Int) := by
        intro k
        by_cases hk : 60 ≤ k
        · rw [if_pos hk]
          obtain ⟨e1, _⟩ := hdig k hk
          simp only [bias_Get.l0]
          rw [if_neg (by omega), if_pos (by omega), if_pos (by omega), e1]
          simp only [Option.bind_some, if_true]
          unfold TOP at n1
          by_cases hd : d > 0
          · rw [if_pos hd, u64w (n := d) (by omega) (by omega), if_neg (by omega), u64w (n := 4611686018427387904 - n) (by omega) (by omega), Int.tdiv_eq_ediv_of_nonneg (by omega)]
            have q0 : 0 ≤ (4611686018427387904 - n) / d := Int.ediv_nonneg (by omega) (by omega)
            have q1 : (4611686018427387904 - n) / d ≤ 4611686018427387904 - n := Int.ediv_le_self _ (by omega)
            rw [u64w q0 (by omega)]
            congr 1
            rw [decide_eq_decide]
            have := Int.le_ediv_iff_mul_le (a := w) (b := 4611686018427387904 - n) (c := d) hd
            have e : w * d = d * w := Int.mul_comm _ _
            unfold TOP
            omega
          · have hz : d = 0 := by omega
            subst hz
            rw [if_neg (by omega)]
            congr 1
            unfold TOP
            simp
            omega
        · rw [if_neg hk]
      by_cases hl : n + d * w ≤ TOP
      · have hpos : ∀ k, bias_Get.j2 (k + 1) s (i : Int) b n w (p : Int) d false = if d < thr (p : Int) b then some (n + d * w, (i : Int) + 1, 0) else bias_Get.l0 k s ((i + 1 : Nat) : Int) b (n + d * w) (if w > TOP / (36 - thr (p : Int) b) then TOP + 1 else w * (36 - thr (p : Int) b)) ((p + 1 : Nat) : Int) := by
          intro k
          unfold TOP at hl w1 ⊢
          simp only [bias_Get.j2, Bool.false_eq_true, if_false]
          rw [thr_go]
          simp only [Option.bind_some]
          rw [u64w (n := d) (by omega) (by omega), u64w (n := d * w) (by omega) (by omega), u64w (n := n + d * w) (by omega) (by omega), i64w (n := (i : Int) + 1) (by omega) (by omega), i64w (n := 36 - thr (p : Int) b) (by omega) (by omega), u64w (n := 36 - thr (p : Int) b) (by omega) (by omega), if_neg (show ¬ 36 - thr (p : Int) b = 0 by omega), Int.tdiv_eq_ediv_of_nonneg (by omega), i64w (n := (p : Int) + 1) (by omega) (by omega)]
          have q0 : 0 ≤ (4611686018427387904 : Int) / (36 - thr (p : Int) b) := Int.ediv_nonneg (by omega) (by omega)
          have q1 : (4611686018427387904 : Int) / (36 - thr (p : Int) b) ≤ 4611686018427387904 := Int.ediv_le_self _ (by omega)
          rw [u64w q0 (by omega)]
          by_cases hdt : d < thr (p : Int) b
          · rw [if_pos hdt, if_pos hdt]
          · rw [if_neg hdt, if_neg hdt]
            by_cases hw : w > (4611686018427387904 : Int) / (36 - thr (p : Int) b)
            · rw [if_pos hw, if_pos hw]; rfl
            · rw [if_neg hw, if_neg hw]
              have hle := (Int.le_ediv_iff_mul_le (a := w) (b := 4611686018427387904) (c := 36 - thr (p : Int) b) (by omega)).1 (by omega)
              have hge : 0 ≤ w * (36 - thr (p : Int) b) := Int.mul_nonneg (by omega) (by omega)
              rw [u64w hge (by omega)]; rfl
        have rpos : ∀ k, pilcrowref09_Get.l1 (k + 1) s (i : Int) b (n + d * w) w TOP (p : Int) d d = if d < thr (p : Int) b then some (n + d * w, (i : Int) + 1, 0) else pilcrowref09_Get.l0 k s ((i + 1 : Nat) : Int) b (n + d * w) (if w > TOP / (36 - thr (p : Int) b) then TOP + 1 else w * (36 - thr (p : Int) b)) TOP ((p + 1 : Nat) : Int) := by
          intro k
          unfold TOP at hl w1 ⊢
          simp only [pilcrowref09_Get.l1]
          rw [if_neg (show ¬ d < d by omega), thr_ref]
          simp only [Option.bind_some]
          rw [i64w (n := (i : Int) + 1) (by omega) (by omega), i64w (n := 36 - thr (p : Int) b) (by omega) (by omega), u64w (n := 36 - thr (p : Int) b) (by omega) (by omega), if_neg (show ¬ 36 - thr (p : Int) b = 0 by omega), Int.tdiv_eq_ediv_of_nonneg (by omega), i64w (n := (p : Int) + 1) (by omega) (by omega)]
          have q0 : 0 ≤ (4611686018427387904 : Int) / (36 - thr (p : Int) b) := Int.ediv_nonneg (by omega) (by omega)
          have q1 : (4611686018427387904 : Int) / (36 - thr (p : Int) b) ≤ 4611686018427387904 := Int.ediv_le_self _ (by omega)
          rw [u64w q0 (by omega)]
          by_cases hdt : d < thr (p : Int) b
          · rw [if_pos hdt, if_pos hdt]
          · rw [if_neg hdt, if_neg hdt]
            by_cases hw : w > (4611686018427387904 : Int) / (36 - thr (p : Int) b)
            · rw [if_pos hw, if_pos hw, u64w (by omega) (by omega)]; rfl
            · rw [if_neg hw, if_neg hw]
              have hle := (Int.le_ediv_iff_mul_le (a := w) (b := 4611686018427387904) (c := 36 - thr (p : Int) b) (by omega)).1 (by omega)
              have hge : 0 ≤ w * (36 - thr (p : Int) b) := Int.mul_nonneg (by omega) (by omega)
              rw [u64w hge (by omega)]; rfl
        have wnew : 1 ≤ (if w > TOP / (36 - thr (p : Int) b) then TOP + 1 else w * (36 - thr (p : Int) b)) ∧ (if w > TOP / (36 - thr (p : Int) b) then TOP + 1 else w * (36 - thr (p : Int) b)) ≤ TOP + 1 := by
          by_cases hw : w > TOP / (36 - thr (p : Int) b)
          · rw [if_pos hw]; unfold TOP; omega
          · rw [if_neg hw]
            have hle := (Int.le_ediv_iff_mul_le (a := w) (b := TOP) (c := 36 - thr (p : Int) b) (by omega)).1 (by omega)
            have hge : w * 1 ≤ w * (36 - thr (p : Int) b) := Int.mul_le_mul_of_nonneg_left (by omega) (by omega)
            omega
        obtain ⟨r, hr⟩ := get_loops s hs b m (i + 1) (p + 1) (n + d * w) _ (by omega) (by omega) (by omega) hl wnew.1 wnew.2
        refine ⟨if d < thr (p : Int) b then (n + d * w, (i : Int) + 1, 0) else r, fun k hk => ?_⟩
        obtain ⟨k, rfl⟩ : ∃ q, k = q + 1 + 1 := ⟨k - 2, by omega⟩
        constructor
        · rw [test, if_pos (by omega), show decide (¬ n + d * w ≤ TOP) = false from by simp [hl], hpos]
          by_cases hdt : d < thr (p : Int) b
          · rw [if_pos hdt, if_pos hdt]
          · rw [if_neg hdt, if_neg hdt]; exact (hr k (by omega)).1
        · obtain ⟨_, e2⟩ := hdig (k + 1) (by omega)
          simp only [pilcrowref09_Get.l0]
          rw [if_pos (by omega), if_pos (by omega), e2]
          simp only [Option.bind_some]
          rw [if_neg (by omega)]
          refine ra hl _ (40 * m + 101) (fun k' hk' => ?_) (k + 1) (by omega)
          obtain ⟨k', rfl⟩ : ∃ q, k' = q + 1 := ⟨k' - 1, by omega⟩
          rw [rpos]
          by_cases hdt : d < thr (p : Int) b
          · rw [if_pos hdt, if_pos hdt]
          · rw [if_neg hdt, if_neg hdt]; exact (hr k' (by omega)).2
      · refine ⟨(0, 0, 5), fun k hk => ?_⟩
        obtain ⟨k, rfl⟩ : ∃ q, k = q + 1 + 1 := ⟨k - 2, by omega⟩
        constructor
        · rw [test, if_pos (by omega), show decide (¬ n + d * w ≤ TOP) = true from by simp [hl]]
          simp [bias_Get.j2]
        · obtain ⟨_, e2⟩ := hdig (k + 1) (by omega)
          simp only [pilcrowref09_Get.l0]
          rw [if_pos (by omega), if_pos (by omega), e2]
          simp only [Option.bind_some]
          rw [if_neg (by omega)]
          exact rl hl (k + 1) (by omega)
theorem BiasGets : pilcrowlaw09_BiasGets.Pure := by
  intro s i b _ hi _
  obtain ⟨K, hK⟩ : ∃ K : Nat, 12998 ≤ K := ⟨_, Nat.le_refl _⟩
  refine ⟨K + 1 + 1, ?_⟩
  unfold pilcrowlaw09_BiasGets.f
  rw [awakeL_at _ (by omega)]
  simp only [Option.bind_some, if_true]
  simp only [pilcrowlaw09_BiasGets.j0]
  by_cases hb : (s.size : Int) > 300
  · rw [if_pos (by simpa using hb), awakeL_at _ (by omega)]; rfl
  · rw [if_neg (by simpa using hb)]
    have key : ∃ r, bias_Get.f (K + 1) s i b = some r ∧ pilcrowref09_Get.f (K + 1) s i b = some r := by
      unfold bias_Get.f pilcrowref09_Get.f
      by_cases h0 : i < 0
      · rw [if_pos h0, if_pos h0]; exact ⟨_, rfl, rfl⟩
      · rw [if_neg h0, if_neg h0]
        by_cases h1 : i > (s.size : Int)
        · rw [show decide (i > (s.size : Int)) = true from by simpa using h1]; exact ⟨_, rfl, rfl⟩
        · rw [show decide (i > (s.size : Int)) = false from by simpa using h1]
          obtain ⟨q, rfl⟩ := Int.eq_ofNat_of_zero_le (show 0 ≤ i by omega)
          obtain ⟨r, hr⟩ := get_loops s (by omega) b (s.size - q) q 0 0 1 (by omega) (by omega) (by decide) (by decide) (by decide) (by decide)
          obtain ⟨a, c⟩ := hr K (by omega)
          exact ⟨r, a, c⟩
    obtain ⟨r, h1, h2⟩ := key
    rw [h1, h2]
    simp
end Go.Proofs.Ythpenelaieohkaa.Pure
