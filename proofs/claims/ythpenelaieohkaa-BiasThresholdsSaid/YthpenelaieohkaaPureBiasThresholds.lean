/- BiasThresholds over numbers: the threshold of any place is the reference's, from 1 to 26, and doesn't fall from place to place. -/
import Derived.Test.YthpenelaieohkaaPBiasThresholdsx2
import Derived.Laws.Bits64
namespace Go.Proofs.Ythpenelaieohkaa.Pure
open Go.RowKit Go.Proofs.Ythpenelaieohkaa.PBiasThresholds Go.Proofs.YthpenelaieohkaaW.PrintWords Go.Proofs.YthpenelaieohkaaW.PrintLast Go.Proofs.YthpenelaieohkaaW.PrintMore
set_option linter.unusedVariables false
theorem awakeL : pilcrowlaw09_awake.f 40 = some true := by decide +kernel
theorem awakeL_at (k : Nat) (hk : 40 ≤ k) : pilcrowlaw09_awake.f k = some true := at_rounds pilcrowlaw09_awake.mono hk awakeL
theorem u64_bd {x : Int} (h : (Lit.int .u64 x).wf = true) : 0 ≤ x ∧ x ≤ 18446744073709551615 := by
  simp [Lit.wf, IntKind.min, IntKind.max, IntKind.signed, IntKind.bits] at h
  omega
theorem i64_bd {x : Int} (h : (Lit.int .i64 x).wf = true) : -9223372036854775808 ≤ x ∧ x ≤ 9223372036854775807 := by
  simp [Lit.wf, IntKind.min, IntKind.max, IntKind.signed, IntKind.bits] at h
  omega
theorem u8_bd {x : Int} (h : (Lit.int .u8 x).wf = true) : 0 ≤ x ∧ x ≤ 255 := by
  simp [Lit.wf, IntKind.min, IntKind.max, IntKind.signed, IntKind.bits] at h
  omega
theorem u64w {n : Int} (h0 : 0 ≤ n) (h1 : n ≤ 18446744073709551615) : IntKind.u64.wrap n = n := by rw [IntKind.wrap_u64]; omega
theorem i64w {n : Int} (h0 : -9223372036854775808 ≤ n) (h1 : n ≤ 9223372036854775807) : wrap64 n = n := by unfold wrap64; omega
def sm (n : Int) : Int := if n < 0 then 0 else if n > 1000 then 1000 else n
theorem sm_in (n : Int) : 0 ≤ sm n ∧ sm n ≤ 1000 := by unfold sm; (repeat' split) <;> omega
theorem small_f (n : Int) : bias_small.f n = some (sm n) := by
  unfold bias_small.f sm mn mx
  congr 1
  (repeat' split) <;> omega
def thr (p b : Int) : Int := if 36 * (sm p + 1) - sm b < 1 then 1 else if 36 * (sm p + 1) - sm b > 26 then 26 else 36 * (sm p + 1) - sm b
theorem thr_in (p b : Int) : 1 ≤ thr p b ∧ thr p b ≤ 26 := by unfold thr; (repeat' split) <;> omega
theorem thr_go (p b : Int) : bias_Threshold.f p b = some (thr p b) := by
  have h1 := sm_in p
  have h2 := sm_in b
  unfold bias_Threshold.f
  rw [small_f, small_f]
  simp only [Option.bind_some]
  rw [i64w (n := sm p + 1) (by omega) (by omega), i64w (n := 36 * (sm p + 1)) (by omega) (by omega), i64w (by omega) (by omega)]
  unfold thr mn mx
  congr 1
  (repeat' split) <;> omega
theorem bound_f (n : Int) : pilcrowref09_bound.f n = some (sm n) := by
  unfold pilcrowref09_bound.f sm
  (repeat' split) <;> rfl
theorem thr_ref (p b : Int) : pilcrowref09_Threshold.f p b = some (thr p b) := by
  have h1 := sm_in p
  have h2 := sm_in b
  unfold pilcrowref09_Threshold.f
  rw [bound_f, bound_f]
  simp only [Option.bind_some]
  rw [i64w (n := sm p + 1) (by omega) (by omega), i64w (n := 36 * (sm p + 1)) (by omega) (by omega), i64w (by omega) (by omega)]
  unfold thr
  (repeat' split) <;> rfl

theorem BiasThresholds : pilcrowlaw09_BiasThresholds.Pure := by
  intro p b _ _
  refine ⟨40, ?_⟩
  have hi := thr_in p b
  unfold pilcrowlaw09_BiasThresholds.f
  rw [thr_go, thr_ref, awakeL]
  simp only [Option.bind_some, if_true]
  rw [if_neg (by omega), if_neg (by omega)]
  by_cases h0 : p < 0
  · rw [if_pos h0]
  rw [if_neg h0]
  by_cases h9 : p > 900
  · rw [if_pos h9]
  rw [if_neg h9, i64w (by omega) (by omega), thr_go]
  simp only [Option.bind_some]
  congr 1
  have h1 := sm_in b
  have e1 : sm p = p := by unfold sm; rw [if_neg h0, if_neg (by omega)]
  have e2 : sm (p + 1) = p + 1 := by unfold sm; rw [if_neg (by omega), if_neg (by omega)]
  unfold thr
  rw [e1, e2]
  simp
  (repeat' split) <;> omega
end Go.Proofs.Ythpenelaieohkaa.Pure
