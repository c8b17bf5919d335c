/- BiasAdapts over numbers: behind any number the bias is the reference's, and never above 1000. -/
import Derived.Test.YthpenelaieohkaaPBiasAdaptsx2
import Derived.Laws.Bits64
namespace Go.Proofs.Ythpenelaieohkaa.Pure
open Go.RowKit Go.Proofs.Ythpenelaieohkaa.PBiasAdapts Go.Proofs.YthpenelaieohkaaW.PrintWords Go.Proofs.YthpenelaieohkaaW.PrintLast Go.Proofs.YthpenelaieohkaaW.PrintMore
set_option linter.unusedVariables false
theorem awakeL : pilcrowlaw09_awake.f 40 = some true := by decide +kernel
theorem awakeL_at (k : Nat) (hk : 40 ≤ k) : pilcrowlaw09_awake.f k = some true := at_rounds pilcrowlaw09_awake.mono hk awakeL
theorem u64_bd {x : Int} (h : (Lit.int .u64 x).wf = true) : 0 ≤ x ∧ x ≤ 18446744073709551615 := by
  simp [Lit.wf, IntKind.min, IntKind.max, IntKind.signed, IntKind.bits] at h
  omega
theorem i64_bd {x : Int} (h : (Lit.int .i64 x).wf = true) : -9223372036854775808 ≤ x ∧ x ≤ 9223372036854775807 := by
  simp [Lit.wf, IntKind.min, IntKind.max, IntKind.signed, IntKind.bits] at h
  omega
theorem u8_bd {x : Int} (h : (Lit.int .u8 x).wf = true) : 0 ≤ x ∧ x ≤ 255 := by
  simp [Lit.wf, IntKind.min, IntKind.max, IntKind.signed, IntKind.bits] at h
  omega
theorem u64w {n : Int} (h0 : 0 ≤ n) (h1 : n ≤ 18446744073709551615) : IntKind.u64.wrap n = n := by rw [IntKind.wrap_u64]; omega
theorem i64w {n : Int} (h0 : -9223372036854775808 ≤ n) (h1 : n ≤ 9223372036854775807) : wrap64 n = n := by unfold wrap64; omega

def bnd : Nat → Int
  | 0 => 456
  | n + 1 => 35 * bnd n
theorem adapt_loops : ∀ (n i : Nat) (d : Int), n + i ≤ 100 → 0 ≤ d → d ≤ 18446744073709551615 → d < bnd n →
    ∃ r : Int, 0 ≤ r ∧ r ≤ 36 * ((n : Int) + i) + 36 ∧ ∀ k, n < k → bias_Adapt.l0 k d (36 * (i : Int)) = some r ∧ pilcrowref09_Adapt.l0 k d (i : Int) = some r
  | n, i, d, hni, h0, hm, hb => by
    by_cases hd : d > 455
    · obtain ⟨n, rfl⟩ : ∃ m, n = m + 1 := by
        cases n with
        | zero => simp [bnd] at hb; omega
        | succ n => exact ⟨n, rfl⟩
      simp only [bnd] at hb
      obtain ⟨r, hr0, hr1, hr⟩ := adapt_loops n (i + 1) (d / 35) (by omega) (by omega) (by omega) (by omega)
      refine ⟨r, hr0, by omega, fun k hk => ?_⟩
      obtain ⟨k, rfl⟩ : ∃ m, k = m + 1 := ⟨k - 1, by omega⟩
      obtain ⟨r1, r2⟩ := hr k (by omega)
      simp only [bias_Adapt.l0, pilcrowref09_Adapt.l0]
      rw [if_pos hd, if_pos hd, Int.tdiv_eq_ediv_of_nonneg h0, u64w (n := d / 35) (by omega) (by omega), i64w (n := 36 * (i : Int) + 36) (by omega) (by omega), i64w (n := (i : Int) + 1) (by omega) (by omega),
        show 36 * (i : Int) + 36 = 36 * ((i + 1 : Nat) : Int) from by omega, show (i : Int) + 1 = ((i + 1 : Nat) : Int) from by omega]
      exact ⟨r1, r2⟩
    · have hq : 0 ≤ 36 * d / (d + 38) ∧ 36 * d / (d + 38) ≤ 36 := by
        constructor
        · exact Int.ediv_nonneg (by omega) (by omega)
        · have : 36 * d / (d + 38) < 37 := Int.ediv_lt_of_lt_mul (by omega) (by omega)
          omega
      refine ⟨36 * (i : Int) + 36 * d / (d + 38), by omega, by omega, fun k hk => ?_⟩
      obtain ⟨k, rfl⟩ : ∃ m, k = m + 1 := ⟨k - 1, by omega⟩
      simp only [bias_Adapt.l0, pilcrowref09_Adapt.l0]
      rw [if_neg hd, if_neg hd, u64w (n := d + 38) (by omega) (by omega), if_neg (by omega), if_neg (by omega), u64w (n := 36 * d) (by omega) (by omega), Int.tdiv_eq_ediv_of_nonneg (by omega), u64w (by omega) (by omega), i64w (n := 36 * d / (d + 38)) (by omega) (by omega), i64w (n := 36 * (i : Int)) (by omega) (by omega), i64w (by omega) (by omega)]
      exact ⟨rfl, rfl⟩
theorem from_j (d p p' : Int) (h0 : 0 ≤ d) (h1 : d ≤ 9223372036854775807) (hp : 0 ≤ p) (hp' : p' = if p = 0 then 1 else p) : ∃ r : Int, 0 ≤ r ∧ r ≤ 1000 ∧ ∀ k, 20 ≤ k → bias_Adapt.j0 k d p = some r ∧ pilcrowref09_Adapt.j1 k d p' = some r := by
  have hpos : 1 ≤ p' := by rw [hp']; split <;> omega
  have hx : mx p 1 = p' := by unfold mx; rw [hp']; (repeat' split) <;> omega
  have hq : 0 ≤ d / p' ∧ d / p' ≤ d := ⟨Int.ediv_nonneg h0 (by omega), Int.ediv_le_self _ h0⟩
  obtain ⟨r, r0, r1, hr⟩ := adapt_loops 11 0 (d + d / p') (by omega) (by omega) (by omega) (by simp only [bnd]; omega)
  refine ⟨r, r0, by omega, fun k hk => ?_⟩
  obtain ⟨k, rfl⟩ : ∃ m, k = m + 1 := ⟨k - 1, by omega⟩
  obtain ⟨a, b⟩ := hr k (by omega)
  simp only [bias_Adapt.j0, pilcrowref09_Adapt.j1]
  rw [hx, if_neg (by omega), if_neg (by omega), Int.tdiv_eq_ediv_of_nonneg h0, u64w (n := d / p') (by omega) (by omega), u64w (n := d + d / p') (by omega) (by omega)]
  exact ⟨a, b⟩
theorem BiasAdapts : pilcrowlaw09_BiasAdapts.Pure := by
  intro d p first hd hp
  have bd := u64_bd hd
  have bp := u64_bd hp
  have key : ∃ r : Int, 0 ≤ r ∧ r ≤ 1000 ∧ bias_Adapt.f 50 d p first = some r ∧ pilcrowref09_Adapt.f 50 d p first = some r := by
    cases first with
    | true =>
      obtain ⟨r, r0, r1, hr⟩ := from_j (d / 700) p _ (by omega) (by omega) bp.1 rfl
      refine ⟨r, r0, r1, ?_, ?_⟩
      · unfold bias_Adapt.f; rw [if_pos rfl, Int.tdiv_eq_ediv_of_nonneg bd.1, u64w (by omega) (by omega)]; exact (hr 50 (by decide)).1
      · unfold pilcrowref09_Adapt.f
        have := (hr 49 (by decide)).2
        by_cases h : p = 0
        · rw [if_pos h] at this ⊢; simp only [pilcrowref09_Adapt.j0, if_true]; rw [Int.tdiv_eq_ediv_of_nonneg bd.1, u64w (by omega) (by omega)]; exact this
        · rw [if_neg h] at this ⊢; simp only [pilcrowref09_Adapt.j0, if_true]; rw [Int.tdiv_eq_ediv_of_nonneg bd.1, u64w (by omega) (by omega)]; exact this
    | false =>
      obtain ⟨r, r0, r1, hr⟩ := from_j (d / 2) p _ (by omega) (by omega) bp.1 rfl
      refine ⟨r, r0, r1, ?_, ?_⟩
      · unfold bias_Adapt.f; rw [if_neg (by decide), Int.tdiv_eq_ediv_of_nonneg bd.1, u64w (by omega) (by omega)]; exact (hr 50 (by decide)).1
      · unfold pilcrowref09_Adapt.f
        have := (hr 49 (by decide)).2
        by_cases h : p = 0
        · rw [if_pos h] at this ⊢; simp only [pilcrowref09_Adapt.j0, Bool.false_eq_true, if_false]; rw [Int.tdiv_eq_ediv_of_nonneg bd.1, u64w (by omega) (by omega)]; exact this
        · rw [if_neg h] at this ⊢; simp only [pilcrowref09_Adapt.j0, Bool.false_eq_true, if_false]; rw [Int.tdiv_eq_ediv_of_nonneg bd.1, u64w (by omega) (by omega)]; exact this
  obtain ⟨r, r0, r1, h1, h2⟩ := key
  refine ⟨50, ?_⟩
  unfold pilcrowlaw09_BiasAdapts.f
  rw [h1, h2, awakeL_at _ (by decide)]
  simp only [Option.bind_some, if_true]
  rw [if_pos (by omega)]
  simpa using r1
end Go.Proofs.Ythpenelaieohkaa.Pure
