/- BiasPuts over numbers: any number has the digits that the reference says. -/
import Derived.Test.YthpenelaieohkaaPBiasPutsx2
import Derived.Laws.Bits64
namespace Go.Proofs.Ythpenelaieohkaa.Pure
open Go.RowKit Go.Proofs.Ythpenelaieohkaa.PBiasPuts Go.Proofs.YthpenelaieohkaaW.PrintWords Go.Proofs.YthpenelaieohkaaW.PrintLast Go.Proofs.YthpenelaieohkaaW.PrintMore
set_option linter.unusedVariables false
theorem awakeL : pilcrowlaw09_awake.f 40 = some true := by decide +kernel
theorem awakeL_at (k : Nat) (hk : 40 ≤ k) : pilcrowlaw09_awake.f k = some true := at_rounds pilcrowlaw09_awake.mono hk awakeL
theorem u64_bd {x : Int} (h : (Lit.int .u64 x).wf = true) : 0 ≤ x ∧ x ≤ 18446744073709551615 := by
  simp [Lit.wf, IntKind.min, IntKind.max, IntKind.signed, IntKind.bits] at h
  omega
theorem i64_bd {x : Int} (h : (Lit.int .i64 x).wf = true) : -9223372036854775808 ≤ x ∧ x ≤ 9223372036854775807 := by
  simp [Lit.wf, IntKind.min, IntKind.max, IntKind.signed, IntKind.bits] at h
  omega
theorem u8_bd {x : Int} (h : (Lit.int .u8 x).wf = true) : 0 ≤ x ∧ x ≤ 255 := by
  simp [Lit.wf, IntKind.min, IntKind.max, IntKind.signed, IntKind.bits] at h
  omega
theorem u64w {n : Int} (h0 : 0 ≤ n) (h1 : n ≤ 18446744073709551615) : IntKind.u64.wrap n = n := by rw [IntKind.wrap_u64]; omega
theorem i64w {n : Int} (h0 : -9223372036854775808 ≤ n) (h1 : n ≤ 9223372036854775807) : wrap64 n = n := by unfold wrap64; omega
def sm (n : Int) : Int := if n < 0 then 0 else if n > 1000 then 1000 else n
theorem sm_in (n : Int) : 0 ≤ sm n ∧ sm n ≤ 1000 := by unfold sm; (repeat' split) <;> omega
theorem small_f (n : Int) : bias_small.f n = some (sm n) := by
  unfold bias_small.f sm mn mx
  congr 1
  (repeat' split) <;> omega
def thr (p b : Int) : Int := if 36 * (sm p + 1) - sm b < 1 then 1 else if 36 * (sm p + 1) - sm b > 26 then 26 else 36 * (sm p + 1) - sm b
theorem thr_in (p b : Int) : 1 ≤ thr p b ∧ thr p b ≤ 26 := by unfold thr; (repeat' split) <;> omega
theorem thr_go (p b : Int) : bias_Threshold.f p b = some (thr p b) := by
  have h1 := sm_in p
  have h2 := sm_in b
  unfold bias_Threshold.f
  rw [small_f, small_f]
  simp only [Option.bind_some]
  rw [i64w (n := sm p + 1) (by omega) (by omega), i64w (n := 36 * (sm p + 1)) (by omega) (by omega), i64w (by omega) (by omega)]
  unfold thr mn mx
  congr 1
  (repeat' split) <;> omega
theorem bound_f (n : Int) : pilcrowref09_bound.f n = some (sm n) := by
  unfold pilcrowref09_bound.f sm
  (repeat' split) <;> rfl
theorem thr_ref (p b : Int) : pilcrowref09_Threshold.f p b = some (thr p b) := by
  have h1 := sm_in p
  have h2 := sm_in b
  unfold pilcrowref09_Threshold.f
  rw [bound_f, bound_f]
  simp only [Option.bind_some]
  rw [i64w (n := sm p + 1) (by omega) (by omega), i64w (n := 36 * (sm p + 1)) (by omega) (by omega), i64w (by omega) (by omega)]
  unfold thr
  (repeat' split) <;> rfl
theorem letter_all : ∀ n : Fin 36, bias_Letter.f 60 (n.val : Int) = some (bt (⟨#[97, 98, 99, 100, 101, 102, 103, 104, 105, 106, 107, 108, 109, 110, 111, 112, 113, 114, 115, 116, 117, 118, 119, 120, 121, 122, 48, 49, 50, 51, 52, 53, 54, 55, 56, 57]⟩ : ByteArray) n.val, true) := by decide +kernel
theorem letter_k (d : Int) (h0 : 0 ≤ d) (h1 : d < 36) (k : Nat) (hk : 60 ≤ k) : bias_Letter.f k d = some (bt (⟨#[97, 98, 99, 100, 101, 102, 103, 104, 105, 106, 107, 108, 109, 110, 111, 112, 113, 114, 115, 116, 117, 118, 119, 120, 121, 122, 48, 49, 50, 51, 52, 53, 54, 55, 56, 57]⟩ : ByteArray) d, true) := by
  obtain ⟨n, rfl⟩ := Int.eq_ofNat_of_zero_le h0
  exact at_rounds (bias_Letter.mono _) hk (letter_all ⟨n, by omega⟩)
def tens : Nat → Int
  | 0 => 1
  | n + 1 => 10 * tens n

theorem nums_snoc (xs : List Int) (c : Int) : strOfNums (xs ++ [c]) = strOfNums xs ++ strOfNums [c] := by
  apply ByteArray.ext
  rw [ByteArray.data_append]
  simp [strOfNums]
theorem digit_cut : ∀ n : Fin 36, (⟨#[97, 98, 99, 100, 101, 102, 103, 104, 105, 106, 107, 108, 109, 110, 111, 112, 113, 114, 115, 116, 117, 118, 119, 120, 121, 122, 48, 49, 50, 51, 52, 53, 54, 55, 56, 57]⟩ : ByteArray).extract n.val (n.val + 1) = strOfNums [bt (⟨#[97, 98, 99, 100, 101, 102, 103, 104, 105, 106, 107, 108, 109, 110, 111, 112, 113, 114, 115, 116, 117, 118, 119, 120, 121, 122, 48, 49, 50, 51, 52, 53, 54, 55, 56, 57]⟩ : ByteArray) n.val] := by decide +kernel
theorem cut_at (d : Int) (h0 : 0 ≤ d) (h1 : d < 36) : (⟨#[97, 98, 99, 100, 101, 102, 103, 104, 105, 106, 107, 108, 109, 110, 111, 112, 113, 114, 115, 116, 117, 118, 119, 120, 121, 122, 48, 49, 50, 51, 52, 53, 54, 55, 56, 57]⟩ : ByteArray).extract d.toNat (d + 1).toNat = strOfNums [bt (⟨#[97, 98, 99, 100, 101, 102, 103, 104, 105, 106, 107, 108, 109, 110, 111, 112, 113, 114, 115, 116, 117, 118, 119, 120, 121, 122, 48, 49, 50, 51, 52, 53, 54, 55, 56, 57]⟩ : ByteArray) d] := by
  obtain ⟨n, rfl⟩ := Int.eq_ofNat_of_zero_le h0
  have := digit_cut ⟨n, by omega⟩
  simpa using this
theorem nums_size (xs : List Int) : (strOfNums xs).size = xs.length := by simp [strOfNums, ByteArray.size]
theorem put_loops (b : Int) : ∀ (m : Nat) (p : Nat) (n : Int) (xs : List Int), p + m ≤ 190 → xs.length ≤ p → 0 ≤ n → n ≤ 18446744073709551615 → n < tens m →
    ∃ r, ∀ k, m + 61 ≤ k → bias_Put.l0 k n b xs (p : Int) = some r ∧ pilcrowref09_Put.l0 k n b (strOfNums xs) (p : Int) = some r
  | m, p, n, xs, hp, hx, h0, h1, hb => by
    have ht := thr_in (p : Int) b
    by_cases hlt : n < thr (p : Int) b
    · refine ⟨strOfNums (xs ++ [bt (⟨#[97, 98, 99, 100, 101, 102, 103, 104, 105, 106, 107, 108, 109, 110, 111, 112, 113, 114, 115, 116, 117, 118, 119, 120, 121, 122, 48, 49, 50, 51, 52, 53, 54, 55, 56, 57]⟩ : ByteArray) n]), fun k hk => ?_⟩
      obtain ⟨k, rfl⟩ : ∃ m, k = m + 1 := ⟨k - 1, by omega⟩
      simp only [bias_Put.l0, pilcrowref09_Put.l0]
      rw [thr_go, thr_ref, if_pos (by omega)]
      simp only [Option.bind_some, pilcrowref09_Digits.f]
      rw [u64w (n := thr (p : Int) b) (by omega) (by omega), if_pos hlt, if_pos hlt, i64w (by omega) (by omega), letter_k n h0 (by omega) k (by omega), u64w (n := n + 1) (by omega) (by omega), if_pos h0, if_pos (by omega), if_pos (by show n + 1 ≤ 36; omega), cut_at n h0 (by omega)]
      simp only [Option.bind_some]
      rw [if_pos (by omega), if_pos (by rw [nums_size, nums_size]; simp; omega), nums_snoc]
      exact ⟨rfl, rfl⟩
    · obtain ⟨m, rfl⟩ : ∃ q, m = q + 1 := by
        cases m with
        | zero => simp [tens] at hb; omega
        | succ m => exact ⟨m, rfl⟩
      simp only [tens] at hb
      have q0 : 0 ≤ (n - thr (p : Int) b) / (36 - thr (p : Int) b) := Int.ediv_nonneg (by omega) (by omega)
      have q1 : (n - thr (p : Int) b) / (36 - thr (p : Int) b) < tens m := by
        apply Int.ediv_lt_of_lt_mul (by omega)
        have : 10 * tens m ≤ tens m * (36 - thr (p : Int) b) := by
          rw [Int.mul_comm]
          exact Int.mul_le_mul_of_nonneg_left (by omega) (by omega)
        omega
      have q2 : (n - thr (p : Int) b) / (36 - thr (p : Int) b) ≤ n - thr (p : Int) b := Int.ediv_le_self _ (by omega)
      have r0 : 0 ≤ (n - thr (p : Int) b) % (36 - thr (p : Int) b) := Int.emod_nonneg _ (by omega)
      have r1 : (n - thr (p : Int) b) % (36 - thr (p : Int) b) < 36 - thr (p : Int) b := Int.emod_lt_of_pos _ (by omega)
      obtain ⟨r, hr⟩ := put_loops b m (p + 1) ((n - thr (p : Int) b) / (36 - thr (p : Int) b)) (xs ++ [bt (⟨#[97, 98, 99, 100, 101, 102, 103, 104, 105, 106, 107, 108, 109, 110, 111, 112, 113, 114, 115, 116, 117, 118, 119, 120, 121, 122, 48, 49, 50, 51, 52, 53, 54, 55, 56, 57]⟩ : ByteArray) (thr (p : Int) b + (n - thr (p : Int) b) % (36 - thr (p : Int) b))]) (by omega) (by simp; omega) q0 (by omega) q1
      refine ⟨r, fun k hk => ?_⟩
      obtain ⟨k, rfl⟩ : ∃ m, k = m + 1 := ⟨k - 1, by omega⟩
      obtain ⟨a, c⟩ := hr k (by omega)
      rw [nums_snoc] at c
      rw [show ((p + 1 : Nat) : Int) = (p : Int) + 1 from by omega] at a c
      simp only [bias_Put.l0, pilcrowref09_Put.l0]
      rw [thr_go, thr_ref, if_pos (by omega)]
      simp only [Option.bind_some, pilcrowref09_Digits.f]
      rw [u64w (n := thr (p : Int) b) (by omega) (by omega), if_neg hlt, if_neg hlt, u64w (n := 36 - thr (p : Int) b) (by omega) (by omega), if_neg (by omega), if_neg (by omega), u64w (n := n - thr (p : Int) b) (by omega) (by omega), Int.tmod_eq_emod_of_nonneg (by omega), Int.tdiv_eq_ediv_of_nonneg (by omega),
        u64w (n := thr (p : Int) b + (n - thr (p : Int) b) % (36 - thr (p : Int) b)) (by omega) (by omega), u64w (n := (n - thr (p : Int) b) / (36 - thr (p : Int) b)) (by omega) (by omega), i64w (n := thr (p : Int) b + (n - thr (p : Int) b) % (36 - thr (p : Int) b)) (by omega) (by omega), i64w (n := (p : Int) + 1) (by omega) (by omega),
        u64w (n := thr (p : Int) b + (n - thr (p : Int) b) % (36 - thr (p : Int) b) + 1) (by omega) (by omega), letter_k _ (by omega) (by omega) k (by omega), if_pos (by omega), if_pos (by omega), if_pos (by show _ + 1 ≤ (36 : Int); omega), cut_at _ (by omega) (by omega)]
      simp only [Option.bind_some]
      rw [if_pos (by omega), if_pos (by rw [nums_size, nums_size]; simp; omega)]
      exact ⟨a, c⟩
theorem BiasPuts : pilcrowlaw09_BiasPuts.Pure := by
  intro n b hn _
  have bn := u64_bd hn
  obtain ⟨r, hr⟩ := put_loops b 20 0 n [] (by omega) (by simp) bn.1 bn.2 (by simp only [tens]; omega)
  obtain ⟨a, c⟩ := hr 100 (by decide)
  refine ⟨100, ?_⟩
  unfold pilcrowlaw09_BiasPuts.f bias_Put.f pilcrowref09_Put.f
  rw [awakeL_at _ (by decide)]
  simp only [Option.bind_some, if_true]
  rw [show ((0 : Nat) : Int) = 0 from rfl] at a c
  rw [a]
  simp only [Option.bind_some]
  rw [show strOfNums [] = (⟨#[]⟩ : ByteArray) from rfl] at c
  rw [c]
  simp
end Go.Proofs.Ythpenelaieohkaa.Pure
