/- ScalarTells: any number is a scalar, and of a class, as the reference tells it. -/
import Derived.Test.YtdjpaahjmkbcjaaQScalarTells
namespace Go.Proofs.Ytdjpaahjmkbcjaa.Pure
open Go.RowKit Go.Proofs.Ytdjpaahjmkbcjaa.PScalarTells Go.Proofs.YtdjpaahjmkbcjaaW.PrintWords Go.Proofs.YtdjpaahjmkbcjaaW.PrintLast


theorem awakeL : pilcrowlaw01_awake.f 20 = some true := by decide +kernel
theorem awakeL_at (k : Nat) (hk : 20 ≤ k) : pilcrowlaw01_awake.f k = some true := at_rounds pilcrowlaw01_awake.mono hk awakeL

def isS (c : Int) : Bool := decide (c ≤ 1114111) && (decide (c < 55296) || decide (57343 < c))
theorem is_go (c : Int) : scalar_Is.f c = some (isS c) := by
  unfold scalar_Is.f isS
  by_cases h1 : c ≤ 1114111 <;> by_cases h2 : c < 55296 <;> by_cases h3 : c > 57343 <;> simp [h1, h2, h3]
theorem is_ref (c : Int) : pilcrowref01_Is.f c = some (isS c) := by
  unfold pilcrowref01_Is.f isS
  by_cases h1 : c ≤ 1114111 <;> by_cases h2 : c ≥ 55296 <;> by_cases h3 : c ≤ 57343 <;> simp [h1, h2, h3] <;> omega

def cls (c : Int) : Int := if isS c = true then (if c < 32 ∨ 127 ≤ c ∧ c < 160 then 1 else if c < 127 then 2 else if c ≤ 255 then 3 else if 57344 ≤ c ∧ c ≤ 63743 then 5 else if 65536 ≤ c then 6 else 4) else 0
theorem class_go (c : Int) (k : Nat) : scalar_Class.f (k + 2) c = some (cls c) := by
  unfold scalar_Class.f cls
  rw [is_go]
  simp only [Option.bind_some]
  cases isS c <;> simp only [scalar_Class.j0, scalar_Class.j1, if_true, if_false, Bool.false_eq_true, decide_eq_true_eq]
  by_cases h1 : c < 32
  · simp [h1]
  · by_cases h2 : c ≥ 127
    · by_cases h3 : c < 160
      · simp [h1, h2, h3]
      · simp only [h1, h2, h3, if_true, if_false, and_false, or_false]
        by_cases h4 : c ≤ 255
        · simp [h4, show ¬ c < 127 by omega]
        · by_cases h5 : c ≥ 57344
          · by_cases h6 : c ≤ 63743
            · simp [h4, h5, h6, show ¬ c < 127 by omega]
            · simp [h4, h5, h6, show ¬ c < 127 by omega]; split <;> rfl
          · simp [h4, h5, show ¬ c < 127 by omega]; split <;> rfl
    · simp [h1, h2, show c < 127 by omega]
theorem class_ref (c : Int) (k : Nat) : pilcrowref01_Class.f (k + 2) c = some (cls c) := by
  unfold pilcrowref01_Class.f cls
  rw [is_ref]
  simp only [Option.bind_some]
  cases isS c <;> simp only [pilcrowref01_Class.j0, pilcrowref01_Class.j1, if_true, if_false, Bool.false_eq_true, decide_eq_true_eq]
  by_cases h1 : c < 32
  · simp [h1, show c ≤ 31 by omega]
  · by_cases h2 : c ≥ 127
    · by_cases h3 : c < 160
      · simp [h1, h2, h3, show ¬ c ≤ 31 by omega, show c ≤ 159 by omega]
      · simp only [h1, h2, h3, if_true, if_false, and_false, or_false, show ¬ c ≤ 31 by omega, show ¬ c ≤ 159 by omega]
        by_cases h4 : c ≤ 255
        · simp [h4, show ¬ c < 127 by omega, show ¬ c ≤ 126 by omega]
        · by_cases h5 : c ≥ 57344
          · by_cases h6 : c ≤ 63743
            · simp [h4, h5, h6, show ¬ c < 127 by omega, show ¬ c ≤ 126 by omega]
            · by_cases h7 : c ≥ 65536
              · simp [h4, h5, h6, h7, show ¬ c < 127 by omega, show ¬ c ≤ 126 by omega, show c > 65535 by omega]
              · simp [h4, h5, h6, h7, show ¬ c < 127 by omega, show ¬ c ≤ 126 by omega, show ¬ c > 65535 by omega]
          · simp [h4, h5, show ¬ c < 127 by omega, show ¬ c ≤ 126 by omega, show ¬ c > 65535 by omega, show ¬ c ≥ 65536 by omega]
    · simp [h1, h2, show ¬ c ≤ 31 by omega, show c < 127 by omega, show c ≤ 126 by omega]
theorem cls_zero (c : Int) : (cls c == 0) = !isS c := by
  unfold cls
  cases isS c
  · rfl
  · simp only [if_true]
    (repeat' split) <;> rfl

theorem ScalarTells : pilcrowlaw01_ScalarTells.Pure := by
  intro c _
  refine ⟨20 + 2, ?_⟩
  unfold pilcrowlaw01_ScalarTells.f
  rw [awakeL_at _ (by omega)]
  simp only [Option.bind_some, if_true]
  rw [is_go, is_ref]
  simp only [Option.bind_some]
  rw [if_pos (by simp), class_go, class_ref]
  simp only [Option.bind_some, if_true]
  rw [cls_zero]
  simp

end Go.Proofs.Ytdjpaahjmkbcjaa.Pure
