/- Scalars that wait in a machine: held, counted, told. -/
import Derived.Test.YtkfiahildoljfaaStep
import Derived.Deep.AppendLies
import Derived.OwnWalk
import Derived.WalkLawsBesides
namespace Go.Proofs.Ytkfiahildoljfaa.Stp
open Go.RowKit Go.Proofs.Ytkfiahildoljfaa.Win Go.Proofs.YtkfiahildoljfaaW.PrintMore
set_option linter.unusedVariables false
set_option linter.unusedSimpArgs false
attribute [local go_sem] max2_int min2_int max_two min_two
theorem info_u32 : (Try.prog.info? 35).map (fun i => (i.zero, i.size, i.bytes)) = some (some (.int .u32 0), 1, 4) := by kernel_rfl
def u32s (xs : List Int) : List Value := xs.map fun x => .int .u32 x
theorem u32s_length (xs : List Int) : (u32s xs).length = xs.length := by simp [u32s]
theorem u32s_append (xs ys : List Int) : u32s (xs ++ ys) = u32s xs ++ u32s ys := by simp [u32s]
/-- Changed in two steps. -/
theorem chg_then {S S1 : Nat → Prop} {w w1 w2 : World} (h : Chg S w w1) (k : Chg S1 w1 w2) (hs : ∀ i, i < w.heap.size → S1 i → S i) : Chg S w w2 :=
  ⟨k.os.trans h.os, k.tape.trans h.tape, k.output.trans h.output, Nat.le_trans h.size k.size, fun i hi hn => (k.block i (Nat.lt_of_lt_of_le hi h.size) (fun hh => hn (hs i hi hh))).trans (h.block i hi hn)⟩
theorem chg_grown {w w1 : World} {row : Option Nat} (h : w.grownBy w1 row) : Chg (fun i => row = some i) w w1 := ⟨h.os, h.tape, h.output, h.size, fun i hi hn => h.block i hi (fun e => hn e.symm)⟩
def Told (w : World) (g q : Nat) (xs : List Int) (e : Ending) (w' : World) : Prop := ∃ r' c' w1 v1, e = .returned (.slice (some ⟨r', 0, none⟩) xs.length c') ∧ w' = (w1.setCell ⟨g, q, none⟩ v1).setCell ⟨g, q, none⟩ (.slice none 0 0) ∧
      w1.ownsRow w.heap.size 35 1 (.slice (some ⟨r', 0, none⟩) xs.length c') xs.length (u32s xs) ∧ Below w.heap.size w w1
end Go.Proofs.Ytkfiahildoljfaa.Stp
