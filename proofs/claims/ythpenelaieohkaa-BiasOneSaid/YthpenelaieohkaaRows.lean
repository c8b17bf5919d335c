/-
  No cell of these rows narrows 'for every input' (looked for: loops, veiled, ifaces, maps, wideKeys, modest, calm, conditions, laid).
  DERIVED. THE GIVEN ROWS OF THIS SEAT. 7 by the template 'for every input the law returns true; each argument reads behind the call as it read before'; 0 by the template 'total and deterministic' (their statements: YthpenelaieohkaaTotals.lean).
  GIVEN WITH THE SEED: the statements are not yours to turn. If you find one false, say at which input.
  Laid BY PROGRAM, IN A SANDBOX (cutbox-rows.mjs): the forced cells as the released guide's own fill.sh prints them over the translation 5c21e0cf348298e2… (all of the seat's roots in one cut). By AI agents, Wed Nov 11 2026. No macro, syntax, notation, axiom, sorry.
-/
import Derived.Test.YthpenelaieohkaaChecked
import GoSem.Claim
import GoSem.ClaimJoined
import GoSem.ClaimMapViews
import Derived.JoinedTies
import Derived.KernelRfl
namespace Go.Proofs.Ythpenelaieohkaa
/- THE CELL 'sum', in the pinned program and in every row, IS THE sha256 OF THE DUMP (.gsa) THAT YthpenelaieohkaaProg.lean LOADS. Nothing in Lean hashes anything: it is a label: what it is worth is what the hold of that sum in a sandbox is worth. -/
noncomputable def Try.pinned : Pinned := { name := "ythpenelaieohkaa", sum := "5c21e0cf348298e240ae4b6caa7889c0445a1c37e5ae52567c1c134377dd131e", checked := Try.checked }
namespace Rows
def none {H : Type} : Left H := { results := [], args := [] }

/-- 'pilcrowlaw09.BiasAdapts': WHATEVER THE INPUT: true; the input reads as it did. -/
def biasAdaptsSpec : ChangeSpec := { name := "biasAdapts", fn := fun _ => fun
  | [d1, d2, d3] => { results := [.lit (.bool true)], args := [d1, d2, d3] }
  | _ => none }
def biasAdaptsRow : OpenClaim := { program := "ythpenelaieohkaa", sum := "5c21e0cf348298e240ae4b6caa7889c0445a1c37e5ae52567c1c134377dd131e", func := "pilcrow/pilcrowlaw09.BiasAdapts", spec := "biasAdapts", apart := false }
def BiasAdaptsSaid : Prop := biasAdaptsRow.holds Try.pinned (OpenSpec.ofChange biasAdaptsSpec)

/-- ITS FALSE NEIGHBOUR: 'it returns false'. Refute it at one input. -/
def biasAdaptsWrong : ChangeSpec := { name := "biasAdapts", fn := fun _ => fun
  | [d1, d2, d3] => { results := [.lit (.bool false)], args := [d1, d2, d3] }
  | _ => none }
def BiasAdaptsWrongFalsely : Prop := biasAdaptsRow.holds Try.pinned (OpenSpec.ofChange biasAdaptsWrong)

/-- 'pilcrowlaw09.BiasThresholds': WHATEVER THE INPUT: true; the input reads as it did. -/
def biasThresholdsSpec : ChangeSpec := { name := "biasThresholds", fn := fun _ => fun
  | [d1, d2] => { results := [.lit (.bool true)], args := [d1, d2] }
  | _ => none }
def biasThresholdsRow : OpenClaim := { program := "ythpenelaieohkaa", sum := "5c21e0cf348298e240ae4b6caa7889c0445a1c37e5ae52567c1c134377dd131e", func := "pilcrow/pilcrowlaw09.BiasThresholds", spec := "biasThresholds", apart := false }
def BiasThresholdsSaid : Prop := biasThresholdsRow.holds Try.pinned (OpenSpec.ofChange biasThresholdsSpec)

/-- ITS FALSE NEIGHBOUR: 'it returns false'. Refute it at one input. -/
def biasThresholdsWrong : ChangeSpec := { name := "biasThresholds", fn := fun _ => fun
  | [d1, d2] => { results := [.lit (.bool false)], args := [d1, d2] }
  | _ => none }
def BiasThresholdsWrongFalsely : Prop := biasThresholdsRow.holds Try.pinned (OpenSpec.ofChange biasThresholdsWrong)

/-- 'pilcrowlaw09.BiasDigits': WHATEVER THE INPUT: true; the input reads as it did. -/
def biasDigitsSpec : ChangeSpec := { name := "biasDigits", fn := fun _ => fun
  | [d1, d2] => { results := [.lit (.bool true)], args := [d1, d2] }
  | _ => none }
def biasDigitsRow : OpenClaim := { program := "ythpenelaieohkaa", sum := "5c21e0cf348298e240ae4b6caa7889c0445a1c37e5ae52567c1c134377dd131e", func := "pilcrow/pilcrowlaw09.BiasDigits", spec := "biasDigits", apart := false }
def BiasDigitsSaid : Prop := biasDigitsRow.holds Try.pinned (OpenSpec.ofChange biasDigitsSpec)

/-- ITS FALSE NEIGHBOUR: 'it returns false'. Refute it at one input. -/
def biasDigitsWrong : ChangeSpec := { name := "biasDigits", fn := fun _ => fun
  | [d1, d2] => { results := [.lit (.bool false)], args := [d1, d2] }
  | _ => none }
def BiasDigitsWrongFalsely : Prop := biasDigitsRow.holds Try.pinned (OpenSpec.ofChange biasDigitsWrong)

/-- 'pilcrowlaw09.BiasPuts': WHATEVER THE INPUT: true; the input reads as it did. -/
def biasPutsSpec : ChangeSpec := { name := "biasPuts", fn := fun _ => fun
  | [d1, d2] => { results := [.lit (.bool true)], args := [d1, d2] }
  | _ => none }
def biasPutsRow : OpenClaim := { program := "ythpenelaieohkaa", sum := "5c21e0cf348298e240ae4b6caa7889c0445a1c37e5ae52567c1c134377dd131e", func := "pilcrow/pilcrowlaw09.BiasPuts", spec := "biasPuts", apart := false }
def BiasPutsSaid : Prop := biasPutsRow.holds Try.pinned (OpenSpec.ofChange biasPutsSpec)

/-- ITS FALSE NEIGHBOUR: 'it returns false'. Refute it at one input. -/
def biasPutsWrong : ChangeSpec := { name := "biasPuts", fn := fun _ => fun
  | [d1, d2] => { results := [.lit (.bool false)], args := [d1, d2] }
  | _ => none }
def BiasPutsWrongFalsely : Prop := biasPutsRow.holds Try.pinned (OpenSpec.ofChange biasPutsWrong)

/-- 'pilcrowlaw09.BiasGets': WHATEVER THE INPUT: true; the input reads as it did. -/
def biasGetsSpec : ChangeSpec := { name := "biasGets", fn := fun _ => fun
  | [d1, d2, d3] => { results := [.lit (.bool true)], args := [d1, d2, d3] }
  | _ => none }
def biasGetsRow : OpenClaim := { program := "ythpenelaieohkaa", sum := "5c21e0cf348298e240ae4b6caa7889c0445a1c37e5ae52567c1c134377dd131e", func := "pilcrow/pilcrowlaw09.BiasGets", spec := "biasGets", apart := false }
def BiasGetsSaid : Prop := biasGetsRow.holds Try.pinned (OpenSpec.ofChange biasGetsSpec)

/-- ITS FALSE NEIGHBOUR: 'it returns false'. Refute it at one input. -/
def biasGetsWrong : ChangeSpec := { name := "biasGets", fn := fun _ => fun
  | [d1, d2, d3] => { results := [.lit (.bool false)], args := [d1, d2, d3] }
  | _ => none }
def BiasGetsWrongFalsely : Prop := biasGetsRow.holds Try.pinned (OpenSpec.ofChange biasGetsWrong)

/-- 'pilcrowlaw09.BiasBack': WHATEVER THE INPUT: true; the input reads as it did. -/
def biasBackSpec : ChangeSpec := { name := "biasBack", fn := fun _ => fun
  | [d1, d2, d3] => { results := [.lit (.bool true)], args := [d1, d2, d3] }
  | _ => none }
def biasBackRow : OpenClaim := { program := "ythpenelaieohkaa", sum := "5c21e0cf348298e240ae4b6caa7889c0445a1c37e5ae52567c1c134377dd131e", func := "pilcrow/pilcrowlaw09.BiasBack", spec := "biasBack", apart := false }
def BiasBackSaid : Prop := biasBackRow.holds Try.pinned (OpenSpec.ofChange biasBackSpec)

/-- ITS FALSE NEIGHBOUR: 'it returns false'. Refute it at one input. -/
def biasBackWrong : ChangeSpec := { name := "biasBack", fn := fun _ => fun
  | [d1, d2, d3] => { results := [.lit (.bool false)], args := [d1, d2, d3] }
  | _ => none }
def BiasBackWrongFalsely : Prop := biasBackRow.holds Try.pinned (OpenSpec.ofChange biasBackWrong)

/-- 'pilcrowlaw09.BiasOne': WHATEVER THE INPUT: true; the input reads as it did. -/
def biasOneSpec : ChangeSpec := { name := "biasOne", fn := fun _ => fun
  | [d1, d2] => { results := [.lit (.bool true)], args := [d1, d2] }
  | _ => none }
def biasOneRow : OpenClaim := { program := "ythpenelaieohkaa", sum := "5c21e0cf348298e240ae4b6caa7889c0445a1c37e5ae52567c1c134377dd131e", func := "pilcrow/pilcrowlaw09.BiasOne", spec := "biasOne", apart := false }
def BiasOneSaid : Prop := biasOneRow.holds Try.pinned (OpenSpec.ofChange biasOneSpec)

/-- ITS FALSE NEIGHBOUR: 'it returns false'. Refute it at one input. -/
def biasOneWrong : ChangeSpec := { name := "biasOne", fn := fun _ => fun
  | [d1, d2] => { results := [.lit (.bool false)], args := [d1, d2] }
  | _ => none }
def BiasOneWrongFalsely : Prop := biasOneRow.holds Try.pinned (OpenSpec.ofChange biasOneWrong)

/- THE SECOND FORM. 'bulk': how many values and letters a reading holds, each counted each time it is reached (what is shared counts as often as it is met; a slice's spare places count too). A statement '..UptoSaid' is the law's where the arguments, and the package variables that the reading takes, are together of bulk at most 1048576: NARROWER than '..Said'. Prove '..Said' where nothing that the law and all that it calls make is longer than what came in: it says more and counts as full. Else prove '..UptoSaid'. A law counts once. -/
mutual
def uptoBulk {H : Type} : DataW H → Nat
  | .lit (.string bytes) => bytes.length + 1
  | .lit _ => 1
  | .nil => 1
  | .ptr d => uptoBulk d + 1
  | .slice elems spare => uptoBulkAll elems + uptoBulkAll spare + 1
  | .agg parts => uptoBulkAll parts + 1
  | .iface _ d => uptoBulk d + 1
  | .map entries => uptoBulkEntries entries + 1
  | .held _ => 1
def uptoBulkAll {H : Type} : List (DataW H) → Nat
  | [] => 0
  | d :: r => uptoBulk d + uptoBulkAll r
def uptoBulkEntries {H : Type} : List (Lit × DataW H) → Nat
  | [] => 0
  | x :: r => uptoBulkEntry x + uptoBulkEntries r
def uptoBulkEntry {H : Type} : Lit × DataW H → Nat
  | (.string bytes, d) => bytes.length + uptoBulk d + 1
  | (_, d) => uptoBulk d + 1
 end
def uptoSmall : (H : Type) → List (DataW H) → Bool := fun _ ds => decide (uptoBulkAll ds ≤ 1048576)
def OpenSpec.upto (s : _root_.Go.ChangeSpec) : _root_.Go.OpenSpec := { _root_.Go.OpenSpec.ofChange s with cond := some uptoSmall }

/-- 'pilcrowlaw09.BiasAdapts', WHERE WHAT IT READS IS OF BULK AT MOST 1048576: true; the input reads as it did. -/
def biasAdaptsUptoRow : OpenClaim := { program := "ythpenelaieohkaa", sum := "5c21e0cf348298e240ae4b6caa7889c0445a1c37e5ae52567c1c134377dd131e", func := "pilcrow/pilcrowlaw09.BiasAdapts", spec := "biasAdapts", apart := false, narrowed := true }
def BiasAdaptsUptoSaid : Prop := biasAdaptsUptoRow.holds Try.pinned (OpenSpec.upto biasAdaptsSpec)

/-- 'pilcrowlaw09.BiasThresholds', WHERE WHAT IT READS IS OF BULK AT MOST 1048576: true; the input reads as it did. -/
def biasThresholdsUptoRow : OpenClaim := { program := "ythpenelaieohkaa", sum := "5c21e0cf348298e240ae4b6caa7889c0445a1c37e5ae52567c1c134377dd131e", func := "pilcrow/pilcrowlaw09.BiasThresholds", spec := "biasThresholds", apart := false, narrowed := true }
def BiasThresholdsUptoSaid : Prop := biasThresholdsUptoRow.holds Try.pinned (OpenSpec.upto biasThresholdsSpec)

/-- 'pilcrowlaw09.BiasDigits', WHERE WHAT IT READS IS OF BULK AT MOST 1048576: true; the input reads as it did. -/
def biasDigitsUptoRow : OpenClaim := { program := "ythpenelaieohkaa", sum := "5c21e0cf348298e240ae4b6caa7889c0445a1c37e5ae52567c1c134377dd131e", func := "pilcrow/pilcrowlaw09.BiasDigits", spec := "biasDigits", apart := false, narrowed := true }
def BiasDigitsUptoSaid : Prop := biasDigitsUptoRow.holds Try.pinned (OpenSpec.upto biasDigitsSpec)

/-- 'pilcrowlaw09.BiasPuts', WHERE WHAT IT READS IS OF BULK AT MOST 1048576: true; the input reads as it did. -/
def biasPutsUptoRow : OpenClaim := { program := "ythpenelaieohkaa", sum := "5c21e0cf348298e240ae4b6caa7889c0445a1c37e5ae52567c1c134377dd131e", func := "pilcrow/pilcrowlaw09.BiasPuts", spec := "biasPuts", apart := false, narrowed := true }
def BiasPutsUptoSaid : Prop := biasPutsUptoRow.holds Try.pinned (OpenSpec.upto biasPutsSpec)

/-- 'pilcrowlaw09.BiasGets', WHERE WHAT IT READS IS OF BULK AT MOST 1048576: true; the input reads as it did. -/
def biasGetsUptoRow : OpenClaim := { program := "ythpenelaieohkaa", sum := "5c21e0cf348298e240ae4b6caa7889c0445a1c37e5ae52567c1c134377dd131e", func := "pilcrow/pilcrowlaw09.BiasGets", spec := "biasGets", apart := false, narrowed := true }
def BiasGetsUptoSaid : Prop := biasGetsUptoRow.holds Try.pinned (OpenSpec.upto biasGetsSpec)

/-- 'pilcrowlaw09.BiasBack', WHERE WHAT IT READS IS OF BULK AT MOST 1048576: true; the input reads as it did. -/
def biasBackUptoRow : OpenClaim := { program := "ythpenelaieohkaa", sum := "5c21e0cf348298e240ae4b6caa7889c0445a1c37e5ae52567c1c134377dd131e", func := "pilcrow/pilcrowlaw09.BiasBack", spec := "biasBack", apart := false, narrowed := true }
def BiasBackUptoSaid : Prop := biasBackUptoRow.holds Try.pinned (OpenSpec.upto biasBackSpec)

/-- 'pilcrowlaw09.BiasOne', WHERE WHAT IT READS IS OF BULK AT MOST 1048576: true; the input reads as it did. -/
def biasOneUptoRow : OpenClaim := { program := "ythpenelaieohkaa", sum := "5c21e0cf348298e240ae4b6caa7889c0445a1c37e5ae52567c1c134377dd131e", func := "pilcrow/pilcrowlaw09.BiasOne", spec := "biasOne", apart := false, narrowed := true }
def BiasOneUptoSaid : Prop := biasOneUptoRow.holds Try.pinned (OpenSpec.upto biasOneSpec)

end Rows
end Go.Proofs.Ythpenelaieohkaa
