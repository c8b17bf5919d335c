/- BiasDigits over numbers: any byte is worth what the reference says, or nothing; any worth has the digit that it says, or none. -/
import Derived.Test.YthpenelaieohkaaPBiasDigitsx2
import Derived.Laws.Bits64
namespace Go.Proofs.Ythpenelaieohkaa.Pure
open Go.RowKit Go.Proofs.Ythpenelaieohkaa.PBiasDigits Go.Proofs.YthpenelaieohkaaW.PrintWords Go.Proofs.YthpenelaieohkaaW.PrintLast Go.Proofs.YthpenelaieohkaaW.PrintMore
set_option linter.unusedVariables false
theorem awakeL : pilcrowlaw09_awake.f 40 = some true := by decide +kernel
theorem awakeL_at (k : Nat) (hk : 40 ≤ k) : pilcrowlaw09_awake.f k = some true := at_rounds pilcrowlaw09_awake.mono hk awakeL
theorem u64_bd {x : Int} (h : (Lit.int .u64 x).wf = true) : 0 ≤ x ∧ x ≤ 18446744073709551615 := by
  simp [Lit.wf, IntKind.min, IntKind.max, IntKind.signed, IntKind.bits] at h
  omega
theorem i64_bd {x : Int} (h : (Lit.int .i64 x).wf = true) : -9223372036854775808 ≤ x ∧ x ≤ 9223372036854775807 := by
  simp [Lit.wf, IntKind.min, IntKind.max, IntKind.signed, IntKind.bits] at h
  omega
theorem u8_bd {x : Int} (h : (Lit.int .u8 x).wf = true) : 0 ≤ x ∧ x ≤ 255 := by
  simp [Lit.wf, IntKind.min, IntKind.max, IntKind.signed, IntKind.bits] at h
  omega
theorem u64w {n : Int} (h0 : 0 ≤ n) (h1 : n ≤ 18446744073709551615) : IntKind.u64.wrap n = n := by rw [IntKind.wrap_u64]; omega
theorem i64w {n : Int} (h0 : -9223372036854775808 ≤ n) (h1 : n ≤ 9223372036854775807) : wrap64 n = n := by unfold wrap64; omega
def chk (b : Nat) : Bool := match bias_Digit.f 60 (b : Int), pilcrowref09_Digit.f 60 (b : Int) with
  | some (d, ok), some w => (ok == decide (w ≥ 0)) && (if ok = true then d == w else d == 0)
  | _, _ => false
theorem chk_all : ∀ b : Fin 256, chk b = true := by decide +kernel
theorem digit_both (b : Int) (h0 : 0 ≤ b) (h1 : b ≤ 255) : ∃ d ok w, bias_Digit.f 60 b = some (d, ok) ∧ pilcrowref09_Digit.f 60 b = some w ∧ ok = decide (w ≥ 0) ∧ (ok = true → d = w) ∧ (ok = false → d = 0) := by
  obtain ⟨n, rfl⟩ := Int.eq_ofNat_of_zero_le h0
  have h := chk_all ⟨n, by omega⟩
  simp only [chk] at h
  split at h
  · rename_i d ok w e1 e2
    refine ⟨d, ok, w, e1, e2, ?_⟩
    cases ok <;> simp at h ⊢ <;> omega
  · cases h
theorem letter_all : ∀ n : Fin 36, bias_Letter.f 60 (n.val : Int) = some (bt (⟨#[97, 98, 99, 100, 101, 102, 103, 104, 105, 106, 107, 108, 109, 110, 111, 112, 113, 114, 115, 116, 117, 118, 119, 120, 121, 122, 48, 49, 50, 51, 52, 53, 54, 55, 56, 57]⟩ : ByteArray) n.val, true) := by decide +kernel

theorem letter_out (n : Int) (h : n < 0 ∨ 35 < n) (k : Nat) : bias_Letter.f (k + 1) n = some (0, false) := by
  unfold bias_Letter.f
  by_cases h0 : n < 0
  · rw [if_pos h0]; simp [bias_Letter.j0]
  · rw [if_neg h0, show decide (n ≥ 36) = true from by simp; omega]; simp [bias_Letter.j0]
theorem BiasDigits : pilcrowlaw09_BiasDigits.Pure := by
  intro b n hb hn
  have bb := u8_bd hb
  obtain ⟨d, ok, w, h1, h2, h3, h4, h5⟩ := digit_both b bb.1 bb.2
  refine ⟨60, ?_⟩
  unfold pilcrowlaw09_BiasDigits.f
  rw [h1, h2, awakeL_at _ (by decide)]
  simp only [Option.bind_some, if_true]
  have fin : ∀ L, bias_Letter.f 60 n = some L → pilcrowlaw09_BiasDigits.j0 60 n L.1 L.2 false = some true := by
    intro L hL
    by_cases hr : n < 0 ∨ 35 < n
    · rw [letter_out n hr 59] at hL
      injection hL with hL
      subst hL
      simp only [pilcrowlaw09_BiasDigits.j0]
      rcases hr with hr | hr
      · simp [hr]
      · simp [hr]
    · obtain ⟨m, rfl⟩ := Int.eq_ofNat_of_zero_le (show 0 ≤ n by omega)
      have := letter_all ⟨m, by omega⟩
      simp only at this
      rw [this] at hL
      injection hL with hL
      subst hL
      simp only [pilcrowlaw09_BiasDigits.j0, pilcrowref09_Digits.f, Option.bind_some]
      rw [if_neg (by decide), if_neg (by omega), if_neg (by omega), if_pos trivial, if_pos (by omega), if_pos (by show (m : Int) < 36; omega)]
      simp
  have hsome : ∃ L, bias_Letter.f 60 n = some L := by
    by_cases hr : n < 0 ∨ 35 < n
    · exact ⟨_, letter_out n hr 59⟩
    · obtain ⟨m, rfl⟩ := Int.eq_ofNat_of_zero_le (show 0 ≤ n by omega)
      exact ⟨_, letter_all ⟨m, by omega⟩⟩
  obtain ⟨L, hL⟩ := hsome
  rw [hL]
  simp only [Option.bind_some]
  rw [if_neg (by rw [h3]; simp)]
  cases ok with
  | true => rw [if_pos rfl, if_pos (h4 rfl)]; exact fin L hL
  | false => rw [if_neg (by decide), h5 rfl]; exact fin L hL
end Go.Proofs.Ythpenelaieohkaa.Pure
