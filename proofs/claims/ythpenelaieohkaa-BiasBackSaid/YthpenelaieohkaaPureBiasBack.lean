/- BiasBack over numbers: a number that is put is got as it was, whatever stands ahead and behind. -/
import Derived.Test.YthpenelaieohkaaQBiasBackx2
import Derived.Laws.Bits64
namespace Go.Proofs.Ythpenelaieohkaa.Pure
open Go.RowKit Go.Proofs.Ythpenelaieohkaa.QBiasBack Go.Proofs.YthpenelaieohkaaW.PrintWords Go.Proofs.YthpenelaieohkaaW.PrintLast Go.Proofs.YthpenelaieohkaaW.PrintMore
set_option linter.unusedVariables false
theorem awakeL : pilcrowlaw09_awake.f 40 = some true := by decide +kernel
theorem awakeL_at (k : Nat) (hk : 40 ≤ k) : pilcrowlaw09_awake.f k = some true := at_rounds pilcrowlaw09_awake.mono hk awakeL
theorem u64_bd {x : Int} (h : (Lit.int .u64 x).wf = true) : 0 ≤ x ∧ x ≤ 18446744073709551615 := by
  simp [Lit.wf, IntKind.min, IntKind.max, IntKind.signed, IntKind.bits] at h
  omega
theorem i64_bd {x : Int} (h : (Lit.int .i64 x).wf = true) : -9223372036854775808 ≤ x ∧ x ≤ 9223372036854775807 := by
  simp [Lit.wf, IntKind.min, IntKind.max, IntKind.signed, IntKind.bits] at h
  omega
theorem u8_bd {x : Int} (h : (Lit.int .u8 x).wf = true) : 0 ≤ x ∧ x ≤ 255 := by
  simp [Lit.wf, IntKind.min, IntKind.max, IntKind.signed, IntKind.bits] at h
  omega
theorem u64w {n : Int} (h0 : 0 ≤ n) (h1 : n ≤ 18446744073709551615) : IntKind.u64.wrap n = n := by rw [IntKind.wrap_u64]; omega
theorem i64w {n : Int} (h0 : -9223372036854775808 ≤ n) (h1 : n ≤ 9223372036854775807) : wrap64 n = n := by unfold wrap64; omega
def sm (n : Int) : Int := if n < 0 then 0 else if n > 1000 then 1000 else n
theorem sm_in (n : Int) : 0 ≤ sm n ∧ sm n ≤ 1000 := by unfold sm; (repeat' split) <;> omega
theorem small_f (n : Int) : bias_small.f n = some (sm n) := by
  unfold bias_small.f sm mn mx
  congr 1
  (repeat' split) <;> omega
def thr (p b : Int) : Int := if 36 * (sm p + 1) - sm b < 1 then 1 else if 36 * (sm p + 1) - sm b > 26 then 26 else 36 * (sm p + 1) - sm b
theorem thr_in (p b : Int) : 1 ≤ thr p b ∧ thr p b ≤ 26 := by unfold thr; (repeat' split) <;> omega
theorem thr_go (p b : Int) : bias_Threshold.f p b = some (thr p b) := by
  have h1 := sm_in p
  have h2 := sm_in b
  unfold bias_Threshold.f
  rw [small_f, small_f]
  simp only [Option.bind_some]
  rw [i64w (n := sm p + 1) (by omega) (by omega), i64w (n := 36 * (sm p + 1)) (by omega) (by omega), i64w (by omega) (by omega)]
  unfold thr mn mx
  congr 1
  (repeat' split) <;> omega
theorem letter_all : ∀ n : Fin 36, bias_Letter.f 60 (n.val : Int) = some (bt (⟨#[97, 98, 99, 100, 101, 102, 103, 104, 105, 106, 107, 108, 109, 110, 111, 112, 113, 114, 115, 116, 117, 118, 119, 120, 121, 122, 48, 49, 50, 51, 52, 53, 54, 55, 56, 57]⟩ : ByteArray) n.val, true) := by decide +kernel
theorem letter_k (d : Int) (h0 : 0 ≤ d) (h1 : d < 36) (k : Nat) (hk : 60 ≤ k) : bias_Letter.f k d = some (bt (⟨#[97, 98, 99, 100, 101, 102, 103, 104, 105, 106, 107, 108, 109, 110, 111, 112, 113, 114, 115, 116, 117, 118, 119, 120, 121, 122, 48, 49, 50, 51, 52, 53, 54, 55, 56, 57]⟩ : ByteArray) d, true) := by
  obtain ⟨n, rfl⟩ := Int.eq_ofNat_of_zero_le h0
  exact at_rounds (bias_Letter.mono _) hk (letter_all ⟨n, by omega⟩)
theorem digit_letter : ∀ n : Fin 36, bias_Digit.f 60 (bt (⟨#[97, 98, 99, 100, 101, 102, 103, 104, 105, 106, 107, 108, 109, 110, 111, 112, 113, 114, 115, 116, 117, 118, 119, 120, 121, 122, 48, 49, 50, 51, 52, 53, 54, 55, 56, 57]⟩ : ByteArray) n.val) = some ((n.val : Int), true) := by decide +kernel
theorem digit_letter_k (d : Int) (h0 : 0 ≤ d) (h1 : d < 36) (k : Nat) (hk : 60 ≤ k) : bias_Digit.f k (bt (⟨#[97, 98, 99, 100, 101, 102, 103, 104, 105, 106, 107, 108, 109, 110, 111, 112, 113, 114, 115, 116, 117, 118, 119, 120, 121, 122, 48, 49, 50, 51, 52, 53, 54, 55, 56, 57]⟩ : ByteArray) d) = some (d, true) := by
  obtain ⟨n, rfl⟩ := Int.eq_ofNat_of_zero_le h0
  exact at_rounds (bias_Digit.mono _) hk (digit_letter ⟨n, by omega⟩)
def tens : Nat → Int
  | 0 => 1
  | n + 1 => 10 * tens n
def TOP : Int := 4611686018427387904
def nextw (w t : Int) : Int := if w > TOP / (36 - t) then TOP + 1 else w * (36 - t)
theorem nextw_in {w t : Int} (w0 : 1 ≤ w) (t0 : 1 ≤ t) (t1 : t ≤ 26) : 1 ≤ nextw w t ∧ nextw w t ≤ TOP + 1 := by
  unfold nextw
  by_cases hw : w > TOP / (36 - t)
  · rw [if_pos hw]; unfold TOP; omega
  · rw [if_neg hw]
    have hle := (Int.le_ediv_iff_mul_le (a := w) (b := TOP) (c := 36 - t) (by omega)).1 (by omega)
    have hge : w * 1 ≤ w * (36 - t) := Int.mul_le_mul_of_nonneg_left (by omega) (by omega)
    omega
theorem get_round (s : ByteArray) (hs : s.size ≤ 1000) (b : Int) (i p : Nat) (n w d : Int) (hi : i < s.size) (hp : p ≤ 1000) (n0 : 0 ≤ n) (n1 : n ≤ TOP) (w0 : 1 ≤ w) (w1 : w ≤ TOP + 1) (d0 : 0 ≤ d) (d1 : d ≤ 35) (k : Nat) (hd : bias_Digit.f (k + 1) (bt s (i : Int)) = some (d, true)) :
    bias_Get.l0 (k + 1 + 1) s (i : Int) b n w (p : Int) = if n + d * w ≤ TOP then (if d < thr (p : Int) b then some (n + d * w, (i : Int) + 1, 0) else bias_Get.l0 k s ((i + 1 : Nat) : Int) b (n + d * w) (nextw w (thr (p : Int) b)) ((p + 1 : Nat) : Int)) else some (0, 0, 5) := by
  have ht := thr_in (p : Int) b
  have hdw : 0 ≤ d * w := Int.mul_nonneg d0 (by omega)
  have step : bias_Get.l0 (k + 1 + 1) s (i : Int) b n w (p : Int) = bias_Get.j2 (k + 1) s (i : Int) b n w (p : Int) d (decide (¬ n + d * w ≤ TOP)) := by
    rw [bias_Get.l0]
    rw [if_neg (by omega), if_pos (by omega), if_pos (by omega), hd]
    simp only [Option.bind_some, if_true]
    unfold TOP at n1
    by_cases hdp : d > 0
    · rw [if_pos hdp, u64w (n := d) (by omega) (by omega), if_neg (by omega), u64w (n := 4611686018427387904 - n) (by omega) (by omega), Int.tdiv_eq_ediv_of_nonneg (by omega)]
      have q0 : 0 ≤ (4611686018427387904 - n) / d := Int.ediv_nonneg (by omega) (by omega)
      have q1 : (4611686018427387904 - n) / d ≤ 4611686018427387904 - n := Int.ediv_le_self _ (by omega)
      rw [u64w q0 (by omega)]
      congr 1
      rw [decide_eq_decide]
      have := Int.le_ediv_iff_mul_le (a := w) (b := 4611686018427387904 - n) (c := d) hdp
      have e : w * d = d * w := Int.mul_comm _ _
      unfold TOP
      omega
    · have hz : d = 0 := by omega
      subst hz
      rw [if_neg (by omega)]
      congr 1
      unfold TOP
      simp
      omega
  rw [step]
  by_cases hl : n + d * w ≤ TOP
  · rw [if_pos hl, show decide (¬ n + d * w ≤ TOP) = false from by simp [hl]]
    unfold nextw
    unfold TOP at hl w1 ⊢
    simp only [bias_Get.j2, Bool.false_eq_true, if_false]
    rw [thr_go]
    simp only [Option.bind_some]
    rw [u64w (n := d) (by omega) (by omega), u64w (n := d * w) (by omega) (by omega), u64w (n := n + d * w) (by omega) (by omega), i64w (n := (i : Int) + 1) (by omega) (by omega), i64w (n := 36 - thr (p : Int) b) (by omega) (by omega), u64w (n := 36 - thr (p : Int) b) (by omega) (by omega), if_neg (show ¬ 36 - thr (p : Int) b = 0 by omega), Int.tdiv_eq_ediv_of_nonneg (by omega), i64w (n := (p : Int) + 1) (by omega) (by omega)]
    have q0 : 0 ≤ (4611686018427387904 : Int) / (36 - thr (p : Int) b) := Int.ediv_nonneg (by omega) (by omega)
    have q1 : (4611686018427387904 : Int) / (36 - thr (p : Int) b) ≤ 4611686018427387904 := Int.ediv_le_self _ (by omega)
    rw [u64w q0 (by omega)]
    by_cases hdt : d < thr (p : Int) b
    · rw [if_pos hdt, if_pos hdt]
    · rw [if_neg hdt, if_neg hdt]
      by_cases hw : w > (4611686018427387904 : Int) / (36 - thr (p : Int) b)
      · rw [if_pos hw, if_pos hw]; rfl
      · rw [if_neg hw, if_neg hw]
        have hle := (Int.le_ediv_iff_mul_le (a := w) (b := 4611686018427387904) (c := 36 - thr (p : Int) b) (by omega)).1 (by omega)
        have hge : 0 ≤ w * (36 - thr (p : Int) b) := Int.mul_nonneg (by omega) (by omega)
        rw [u64w hge (by omega)]; rfl
  · rw [if_neg hl, show decide (¬ n + d * w ≤ TOP) = true from by simp [hl]]
    simp [bias_Get.j2]
theorem put_last (b n : Int) (xs : List Int) (p : Nat) (hx : xs.length ≤ 1000) (h0 : 0 ≤ n) (hlt : n < thr (p : Int) b) (k : Nat) (hk : 60 ≤ k) : bias_Put.l0 (k + 1) n b xs (p : Int) = some (strOfNums (xs ++ [bt (⟨#[97, 98, 99, 100, 101, 102, 103, 104, 105, 106, 107, 108, 109, 110, 111, 112, 113, 114, 115, 116, 117, 118, 119, 120, 121, 122, 48, 49, 50, 51, 52, 53, 54, 55, 56, 57]⟩ : ByteArray) n])) := by
  have ht := thr_in (p : Int) b
  simp only [bias_Put.l0]
  rw [thr_go]
  simp only [Option.bind_some]
  rw [u64w (n := thr (p : Int) b) (by omega) (by omega), if_pos hlt, i64w (by omega) (by omega), letter_k n h0 (by omega) k (by omega)]
  simp only [Option.bind_some]
  rw [if_pos (by omega)]
theorem put_more (b n : Int) (xs : List Int) (p : Nat) (hp : p ≤ 1000) (hx : xs.length ≤ 1000) (h0 : 0 ≤ n) (h1 : n ≤ 18446744073709551615) (hlt : ¬ n < thr (p : Int) b) (k : Nat) (hk : 60 ≤ k) :
    bias_Put.l0 (k + 1) n b xs (p : Int) = bias_Put.l0 k ((n - thr (p : Int) b) / (36 - thr (p : Int) b)) b (xs ++ [bt (⟨#[97, 98, 99, 100, 101, 102, 103, 104, 105, 106, 107, 108, 109, 110, 111, 112, 113, 114, 115, 116, 117, 118, 119, 120, 121, 122, 48, 49, 50, 51, 52, 53, 54, 55, 56, 57]⟩ : ByteArray) (thr (p : Int) b + (n - thr (p : Int) b) % (36 - thr (p : Int) b))]) ((p + 1 : Nat) : Int) := by
  have ht := thr_in (p : Int) b
  have q0 : 0 ≤ (n - thr (p : Int) b) / (36 - thr (p : Int) b) := Int.ediv_nonneg (by omega) (by omega)
  have q2 : (n - thr (p : Int) b) / (36 - thr (p : Int) b) ≤ n - thr (p : Int) b := Int.ediv_le_self _ (by omega)
  have r0 : 0 ≤ (n - thr (p : Int) b) % (36 - thr (p : Int) b) := Int.emod_nonneg _ (by omega)
  have r1 : (n - thr (p : Int) b) % (36 - thr (p : Int) b) < 36 - thr (p : Int) b := Int.emod_lt_of_pos _ (by omega)
  simp only [bias_Put.l0]
  rw [thr_go]
  simp only [Option.bind_some]
  rw [u64w (n := thr (p : Int) b) (by omega) (by omega), if_neg hlt, u64w (n := 36 - thr (p : Int) b) (by omega) (by omega), if_neg (by omega), u64w (n := n - thr (p : Int) b) (by omega) (by omega), Int.tmod_eq_emod_of_nonneg (by omega), Int.tdiv_eq_ediv_of_nonneg (by omega),
    u64w (n := thr (p : Int) b + (n - thr (p : Int) b) % (36 - thr (p : Int) b)) (by omega) (by omega), u64w (n := (n - thr (p : Int) b) / (36 - thr (p : Int) b)) (by omega) (by omega), i64w (n := thr (p : Int) b + (n - thr (p : Int) b) % (36 - thr (p : Int) b)) (by omega) (by omega), i64w (n := (p : Int) + 1) (by omega) (by omega),
    letter_k _ (by omega) (by omega) k (by omega)]
  simp only [Option.bind_some]
  rw [if_pos (by omega)]; rfl
theorem nums_size (xs : List Int) : (strOfNums xs).size = xs.length := by simp [strOfNums, ByteArray.size]
theorem bt_list (s : ByteArray) (i : Nat) : bt s (i : Int) = ((s.data.toList.getD i 0).toNat : Int) := by
  unfold bt
  simp only [Int.toNat_natCast]
  split
  · rename_i h
    have h' : i < s.data.toList.length := by simpa using h
    rw [List.getD_eq_getElem?_getD, List.getElem?_eq_getElem h']
    simp [ByteArray.getElem_eq_getElem_data]
  · rename_i h
    have h' : s.data.toList.length ≤ i := by simpa using h
    rw [List.getD_eq_getElem?_getD, List.getElem?_eq_none h']; rfl
theorem nums_data (xs : List Int) : (strOfNums xs).data.toList = xs.map fun n => UInt8.ofNat n.toNat := by simp [strOfNums]

theorem put_get (b : Int) : ∀ (m p : Nat) (n : Int), p + m ≤ 100 → 0 ≤ n → n ≤ TOP → n < tens m →
    ∃ ds : List Int, ds.length ≤ m + 1 ∧ (∀ c ∈ ds, 0 ≤ c ∧ c ≤ 255) ∧ (∀ (xs : List Int) (k : Nat), xs.length ≤ p → m + 61 ≤ k → bias_Put.l0 k n b xs (p : Int) = some (strOfNums (xs ++ ds))) ∧
    ∀ (s : ByteArray) (i : Nat) (acc w : Int) (k : Nat), s.size ≤ 1000 → i + ds.length ≤ s.size → (∀ j, j < ds.length → bt s ((i + j : Nat) : Int) = ds.getD j 0) → 0 ≤ acc → 1 ≤ w → w ≤ TOP + 1 → acc + w * n ≤ TOP → 2 * m + 100 ≤ k →
      bias_Get.l0 k s (i : Int) b acc w (p : Int) = some (acc + w * n, ((i + ds.length : Nat) : Int), 0)
  | m, p, n, hp, h0, h1, hb => by
    have ht := thr_in (p : Int) b
    have hT : n ≤ 4611686018427387904 := h1
    by_cases hlt : n < thr (p : Int) b
    · refine ⟨[bt (⟨#[97, 98, 99, 100, 101, 102, 103, 104, 105, 106, 107, 108, 109, 110, 111, 112, 113, 114, 115, 116, 117, 118, 119, 120, 121, 122, 48, 49, 50, 51, 52, 53, 54, 55, 56, 57]⟩ : ByteArray) n], by simp, fun c hc => by rw [List.mem_singleton.1 hc]; exact bt_range _ _, fun xs k hx hk => ?_, fun s i acc w k hs hi hbt a0 w0 w1 hN hk => ?_⟩
      · obtain ⟨k, rfl⟩ : ∃ q, k = q + 1 := ⟨k - 1, by omega⟩
        exact put_last b n xs p (by omega) h0 hlt k (by omega)
      · obtain ⟨k, rfl⟩ : ∃ q, k = q + 1 + 1 := ⟨k - 2, by omega⟩
        have hb0 := hbt 0 (by simp)
        simp only [List.length_singleton] at hi ⊢
        have hb1 : bt s (i : Int) = bt (⟨#[97, 98, 99, 100, 101, 102, 103, 104, 105, 106, 107, 108, 109, 110, 111, 112, 113, 114, 115, 116, 117, 118, 119, 120, 121, 122, 48, 49, 50, 51, 52, 53, 54, 55, 56, 57]⟩ : ByteArray) n := by simpa using hb0
        have hwn : 0 ≤ w * n := Int.mul_nonneg (by omega) h0
        have hc : n * w = w * n := Int.mul_comm _ _
        rw [get_round s hs b i p acc w n (by omega) (by omega) a0 (by omega) w0 w1 h0 (by omega) k (by rw [hb1]; exact digit_letter_k n h0 (by omega) _ (by omega)), hc, if_pos hN, if_pos hlt]
        rfl
    · obtain ⟨m, rfl⟩ : ∃ q, m = q + 1 := by
        cases m with
        | zero => simp [tens] at hb; omega
        | succ m => exact ⟨m, rfl⟩
      simp only [tens] at hb
      have q0 : 0 ≤ (n - thr (p : Int) b) / (36 - thr (p : Int) b) := Int.ediv_nonneg (by omega) (by omega)
      have q1 : (n - thr (p : Int) b) / (36 - thr (p : Int) b) < tens m := by
        apply Int.ediv_lt_of_lt_mul (by omega)
        have : 10 * tens m ≤ tens m * (36 - thr (p : Int) b) := by
          rw [Int.mul_comm]
          exact Int.mul_le_mul_of_nonneg_left (by omega) (by omega)
        omega
      have q2 : (n - thr (p : Int) b) / (36 - thr (p : Int) b) ≤ n - thr (p : Int) b := Int.ediv_le_self _ (by omega)
      have r0 : 0 ≤ (n - thr (p : Int) b) % (36 - thr (p : Int) b) := Int.emod_nonneg _ (by omega)
      have r1 : (n - thr (p : Int) b) % (36 - thr (p : Int) b) < 36 - thr (p : Int) b := Int.emod_lt_of_pos _ (by omega)
      have hdm := Int.mul_ediv_add_emod (n - thr (p : Int) b) (36 - thr (p : Int) b)
      have hmr := fun xs k hx hk => put_more b n xs p (by omega) hx h0 (by omega) hlt k hk
      generalize hQ : (n - thr (p : Int) b) / (36 - thr (p : Int) b) = Q at *
      generalize hR : (n - thr (p : Int) b) % (36 - thr (p : Int) b) = R at *
      obtain ⟨ds, hl, hbd, hput, hget⟩ := put_get b m (p + 1) Q (by omega) q0 (by unfold TOP; omega) q1
      refine ⟨bt (⟨#[97, 98, 99, 100, 101, 102, 103, 104, 105, 106, 107, 108, 109, 110, 111, 112, 113, 114, 115, 116, 117, 118, 119, 120, 121, 122, 48, 49, 50, 51, 52, 53, 54, 55, 56, 57]⟩ : ByteArray) (thr (p : Int) b + R) :: ds, by simp; omega, fun c hc => ?_, fun xs k hx hk => ?_, fun s i acc w k hs hi hbt a0 w0 w1 hN hk => ?_⟩
      · rcases List.mem_cons.1 hc with h | h
        · rw [h]; exact bt_range _ _
        · exact hbd c h
      · obtain ⟨k, rfl⟩ : ∃ q, k = q + 1 := ⟨k - 1, by omega⟩
        rw [hmr xs k (by omega) (by omega), hput _ k (by simp; omega) (by omega)]
        simp
      · obtain ⟨k, rfl⟩ : ∃ q, k = q + 1 + 1 := ⟨k - 2, by omega⟩
        have hb0 := hbt 0 (by simp)
        simp only [List.length_cons] at hi ⊢
        have hb1 : bt s (i : Int) = bt (⟨#[97, 98, 99, 100, 101, 102, 103, 104, 105, 106, 107, 108, 109, 110, 111, 112, 113, 114, 115, 116, 117, 118, 119, 120, 121, 122, 48, 49, 50, 51, 52, 53, 54, 55, 56, 57]⟩ : ByteArray) (thr (p : Int) b + R) := by simpa using hb0
        have e : w * n = (thr (p : Int) b + R) * w + w * (36 - thr (p : Int) b) * Q := by
          have : n = (thr (p : Int) b + R) + (36 - thr (p : Int) b) * Q := by omega
          conv => lhs; rw [this]
          rw [Int.mul_add, Int.mul_comm w (thr (p : Int) b + R), Int.mul_assoc]
        have hwQ : 0 ≤ w * (36 - thr (p : Int) b) * Q := Int.mul_nonneg (Int.mul_nonneg (by omega) (by omega)) q0
        have hdw : 0 ≤ (thr (p : Int) b + R) * w := Int.mul_nonneg (by omega) (by omega)
        have hnw := nextw_in (w := w) (t := thr (p : Int) b) w0 ht.1 ht.2
        have key : nextw w (thr (p : Int) b) * Q = w * (36 - thr (p : Int) b) * Q := by
          unfold nextw
          by_cases hw : w > TOP / (36 - thr (p : Int) b)
          · rw [if_pos hw]
            have hgt : ¬ w * (36 - thr (p : Int) b) ≤ TOP := fun h => by
              have := (Int.le_ediv_iff_mul_le (a := w) (b := TOP) (c := 36 - thr (p : Int) b) (by omega)).2 h
              omega
            have hQ0 : Q = 0 := by
              rcases Int.lt_or_le 0 Q with hq | hq
              · exfalso
                have : w * (36 - thr (p : Int) b) * 1 ≤ w * (36 - thr (p : Int) b) * Q := Int.mul_le_mul_of_nonneg_left (by omega) (Int.mul_nonneg (by omega) (by omega))
                omega
              · omega
            rw [hQ0]; simp
          · rw [if_neg hw]
        rw [get_round s hs b i p acc w (thr (p : Int) b + R) (by omega) (by omega) a0 (by omega) w0 w1 (by omega) (by omega) k (by rw [hb1]; exact digit_letter_k _ (by omega) (by omega) _ (by omega)), if_pos (by omega), if_neg (by omega)]
        rw [hget s (i + 1) _ _ k hs (by omega) (fun j hj => by
          have := hbt (j + 1) (by simp; omega)
          rw [show i + 1 + j = i + (j + 1) by omega, this]; simp) (by omega) hnw.1 hnw.2 (by rw [key]; omega) (by omega), key, e]
        congr 2
        · omega
        · congr 1
          omega
theorem BiasBack : pilcrowlaw09_BiasBack.Pure := by
  intro n b more hn _ _
  have bn := u64_bd hn
  obtain ⟨K, hK⟩ : ∃ K : Nat, 300 ≤ K := ⟨_, Nat.le_refl _⟩
  refine ⟨K + 1, ?_⟩
  unfold pilcrowlaw09_BiasBack.f
  rw [awakeL_at _ (by omega)]
  simp only [Option.bind_some, if_true, pilcrowlaw09_BiasBack.j0]
  rw [awakeL_at K (by omega)]
  simp only [Option.bind_some]
  by_cases hb : n > 4611686018427387904
  · rw [if_pos hb]
  rw [if_neg hb]
  by_cases hm : (more.size : Int) > 100
  · rw [if_pos (by simpa using hm)]
  rw [if_neg (by simpa using hm)]
  obtain ⟨ds, hl, hbd, hput, hget⟩ := put_get b 19 0 n (by omega) bn.1 (by unfold TOP; omega) (by simp only [tens]; omega)
  have h1 := hput [] K (by simp) (by omega)
  rw [List.nil_append] at h1
  unfold bias_Put.f
  rw [show ((0 : Nat) : Int) = 0 from rfl] at h1
  rw [h1]
  simp only [Option.bind_some]
  rw [if_pos (by rw [nums_size]; omega), if_pos (by rw [ByteArray.size_append, nums_size]; omega)]
  have hsz : (more ++ strOfNums ds ++ more).size = more.size + ds.length + more.size := by rw [ByteArray.size_append, ByteArray.size_append, nums_size]
  obtain ⟨k, rfl⟩ : ∃ q, K = q + 1 := ⟨K - 1, by omega⟩
  have h2 := hget (more ++ strOfNums ds ++ more) more.size 0 1 k (by omega) (by omega) (fun j hj => by
    rw [bt_list, ByteArray.data_append, ByteArray.data_append, Array.toList_append, Array.toList_append, nums_data, List.getD_eq_getElem?_getD]
    have hml : more.data.toList.length = more.size := Array.length_toList
    rw [List.getElem?_append_left (by rw [List.length_append, hml, List.length_map]; omega), List.getElem?_append_right (by rw [hml]; omega), hml, show more.size + j - more.size = j by omega]
    have hm := hbd ds[j] (List.getElem_mem hj)
    rw [List.getElem?_map, List.getElem?_eq_getElem hj, List.getD_eq_getElem?_getD, List.getElem?_eq_getElem hj]
    simp [UInt8.toNat_ofNat']
    omega) (by decide) (by decide) (by decide) (by unfold TOP; omega) (by omega)
  unfold bias_Get.f
  rw [if_neg (by omega), show decide ((more.size : Int) > ((more ++ strOfNums ds ++ more).size : Int)) = false from by rw [hsz]; simp; omega]
  simp only [bias_Get.j0, Bool.false_eq_true, if_false]
  rw [show ((0 : Nat) : Int) = 0 from rfl] at h2
  rw [h2]
  simp only [Option.bind_some, if_true]
  rw [if_pos (by omega), nums_size, i64w (by omega) (by omega)]
  simp
end Go.Proofs.Ythpenelaieohkaa.Pure
