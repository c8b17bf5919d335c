/-
  No cell of these rows narrows 'for every input' (looked for: loops, veiled, ifaces, maps, wideKeys, modest, calm, conditions, laid).
  DERIVED. THE GIVEN ROWS OF THIS SEAT. 5 by the template 'for every input the law returns true; each argument reads behind the call as it read before'; 0 by the template 'total and deterministic' (their statements: YtnidohbleffjkaaTotals.lean).
  GIVEN WITH THE SEED: the statements are not yours to turn. If you find one false, say at which input.
  Laid BY PROGRAM, IN A SANDBOX (cutbox-rows.mjs): the forced cells as the released guide's own fill.sh prints them over the translation 1d7e8a9b6aaf5d63… (all of the seat's roots in one cut). By AI agents, Wed Nov 11 2026. No macro, syntax, notation, axiom, sorry.
-/
import Derived.Test.YtnidohbleffjkaaChecked
import GoSem.Claim
import GoSem.ClaimJoined
import GoSem.ClaimMapViews
import Derived.JoinedTies
import Derived.KernelRfl
namespace Go.Proofs.Ytnidohbleffjkaa
/- THE CELL 'sum', in the pinned program and in every row, IS THE sha256 OF THE DUMP (.gsa) THAT YtnidohbleffjkaaProg.lean LOADS. Nothing in Lean hashes anything: it is a label: what it is worth is what the hold of that sum in a sandbox is worth. -/
noncomputable def Try.pinned : Pinned := { name := "ytnidohbleffjkaa", sum := "1d7e8a9b6aaf5d63527e56314da09d38c293a379d2893137747c8597f459a75e", checked := Try.checked }
namespace Rows
def none {H : Type} : Left H := { results := [], args := [] }

/-- 'pilcrowlaw13.WindowPairs': WHATEVER THE INPUT: true; the input reads as it did. -/
def windowPairsSpec : ChangeSpec := { name := "windowPairs", fn := fun _ => fun
  | [d1, d2, d3] => { results := [.lit (.bool true)], args := [d1, d2, d3] }
  | _ => none }
def windowPairsRow : OpenClaim := { program := "ytnidohbleffjkaa", sum := "1d7e8a9b6aaf5d63527e56314da09d38c293a379d2893137747c8597f459a75e", func := "pilcrow/pilcrowlaw13.WindowPairs", spec := "windowPairs", apart := false }
def WindowPairsSaid : Prop := windowPairsRow.holds Try.pinned (OpenSpec.ofChange windowPairsSpec)

/-- ITS FALSE NEIGHBOUR: 'it returns false'. Refute it at one input. -/
def windowPairsWrong : ChangeSpec := { name := "windowPairs", fn := fun _ => fun
  | [d1, d2, d3] => { results := [.lit (.bool false)], args := [d1, d2, d3] }
  | _ => none }
def WindowPairsWrongFalsely : Prop := windowPairsRow.holds Try.pinned (OpenSpec.ofChange windowPairsWrong)

/-- 'pilcrowlaw13.WindowOrder': WHATEVER THE INPUT: true; the input reads as it did. -/
def windowOrderSpec : ChangeSpec := { name := "windowOrder", fn := fun _ => fun
  | [d] => { results := [.lit (.bool true)], args := [d] }
  | _ => none }
def windowOrderRow : OpenClaim := { program := "ytnidohbleffjkaa", sum := "1d7e8a9b6aaf5d63527e56314da09d38c293a379d2893137747c8597f459a75e", func := "pilcrow/pilcrowlaw13.WindowOrder", spec := "windowOrder", apart := false }
def WindowOrderSaid : Prop := windowOrderRow.holds Try.pinned (OpenSpec.ofChange windowOrderSpec)

/-- ITS FALSE NEIGHBOUR: 'it returns false'. Refute it at one input. -/
def windowOrderWrong : ChangeSpec := { name := "windowOrder", fn := fun _ => fun
  | [d] => { results := [.lit (.bool false)], args := [d] }
  | _ => none }
def WindowOrderWrongFalsely : Prop := windowOrderRow.holds Try.pinned (OpenSpec.ofChange windowOrderWrong)

/-- 'pilcrowlaw13.WindowTables': WHATEVER THE INPUT: true; the input reads as it did. -/
def windowTablesSpec : ChangeSpec := { name := "windowTables", fn := fun _ => fun
  | [d1, d2, d3] => { results := [.lit (.bool true)], args := [d1, d2, d3] }
  | _ => none }
def windowTablesRow : OpenClaim := { program := "ytnidohbleffjkaa", sum := "1d7e8a9b6aaf5d63527e56314da09d38c293a379d2893137747c8597f459a75e", func := "pilcrow/pilcrowlaw13.WindowTables", spec := "windowTables", apart := false }
def WindowTablesSaid : Prop := windowTablesRow.holds Try.pinned (OpenSpec.ofChange windowTablesSpec)

/-- ITS FALSE NEIGHBOUR: 'it returns false'. Refute it at one input. -/
def windowTablesWrong : ChangeSpec := { name := "windowTables", fn := fun _ => fun
  | [d1, d2, d3] => { results := [.lit (.bool false)], args := [d1, d2, d3] }
  | _ => none }
def WindowTablesWrongFalsely : Prop := windowTablesRow.holds Try.pinned (OpenSpec.ofChange windowTablesWrong)

/-- 'pilcrowlaw13.WindowIndexes': WHATEVER THE INPUT: true; the input reads as it did. -/
def windowIndexesSpec : ChangeSpec := { name := "windowIndexes", fn := fun _ => fun
  | [d] => { results := [.lit (.bool true)], args := [d] }
  | _ => none }
def windowIndexesRow : OpenClaim := { program := "ytnidohbleffjkaa", sum := "1d7e8a9b6aaf5d63527e56314da09d38c293a379d2893137747c8597f459a75e", func := "pilcrow/pilcrowlaw13.WindowIndexes", spec := "windowIndexes", apart := false }
def WindowIndexesSaid : Prop := windowIndexesRow.holds Try.pinned (OpenSpec.ofChange windowIndexesSpec)

/-- ITS FALSE NEIGHBOUR: 'it returns false'. Refute it at one input. -/
def windowIndexesWrong : ChangeSpec := { name := "windowIndexes", fn := fun _ => fun
  | [d] => { results := [.lit (.bool false)], args := [d] }
  | _ => none }
def WindowIndexesWrongFalsely : Prop := windowIndexesRow.holds Try.pinned (OpenSpec.ofChange windowIndexesWrong)

/-- 'pilcrowlaw13.WindowPlays': WHATEVER THE INPUT: true; the input reads as it did. -/
def windowPlaysSpec : ChangeSpec := { name := "windowPlays", fn := fun _ => fun
  | [d1, d2] => { results := [.lit (.bool true)], args := [d1, d2] }
  | _ => none }
def windowPlaysRow : OpenClaim := { program := "ytnidohbleffjkaa", sum := "1d7e8a9b6aaf5d63527e56314da09d38c293a379d2893137747c8597f459a75e", func := "pilcrow/pilcrowlaw13.WindowPlays", spec := "windowPlays", apart := false }
def WindowPlaysSaid : Prop := windowPlaysRow.holds Try.pinned (OpenSpec.ofChange windowPlaysSpec)

/-- ITS FALSE NEIGHBOUR: 'it returns false'. Refute it at one input. -/
def windowPlaysWrong : ChangeSpec := { name := "windowPlays", fn := fun _ => fun
  | [d1, d2] => { results := [.lit (.bool false)], args := [d1, d2] }
  | _ => none }
def WindowPlaysWrongFalsely : Prop := windowPlaysRow.holds Try.pinned (OpenSpec.ofChange windowPlaysWrong)

/- THE SECOND FORM. 'bulk': how many values and letters a reading holds, each counted each time it is reached (what is shared counts as often as it is met; a slice's spare places count too). A statement '..UptoSaid' is the law's where the arguments, and the package variables that the reading takes, are together of bulk at most 1048576: NARROWER than '..Said'. Prove '..Said' where nothing that the law and all that it calls make is longer than what came in: it says more and counts as full. Else prove '..UptoSaid'. A law counts once. -/
mutual
def uptoBulk {H : Type} : DataW H → Nat
  | .lit (.string bytes) => bytes.length + 1
  | .lit _ => 1
  | .nil => 1
  | .ptr d => uptoBulk d + 1
  | .slice elems spare => uptoBulkAll elems + uptoBulkAll spare + 1
  | .agg parts => uptoBulkAll parts + 1
  | .iface _ d => uptoBulk d + 1
  | .map entries => uptoBulkEntries entries + 1
  | .held _ => 1
def uptoBulkAll {H : Type} : List (DataW H) → Nat
  | [] => 0
  | d :: r => uptoBulk d + uptoBulkAll r
def uptoBulkEntries {H : Type} : List (Lit × DataW H) → Nat
  | [] => 0
  | x :: r => uptoBulkEntry x + uptoBulkEntries r
def uptoBulkEntry {H : Type} : Lit × DataW H → Nat
  | (.string bytes, d) => bytes.length + uptoBulk d + 1
  | (_, d) => uptoBulk d + 1
 end
def uptoSmall : (H : Type) → List (DataW H) → Bool := fun _ ds => decide (uptoBulkAll ds ≤ 1048576)
def OpenSpec.upto (s : _root_.Go.ChangeSpec) : _root_.Go.OpenSpec := { _root_.Go.OpenSpec.ofChange s with cond := some uptoSmall }

/-- 'pilcrowlaw13.WindowPairs', WHERE WHAT IT READS IS OF BULK AT MOST 1048576: true; the input reads as it did. -/
def windowPairsUptoRow : OpenClaim := { program := "ytnidohbleffjkaa", sum := "1d7e8a9b6aaf5d63527e56314da09d38c293a379d2893137747c8597f459a75e", func := "pilcrow/pilcrowlaw13.WindowPairs", spec := "windowPairs", apart := false, narrowed := true }
def WindowPairsUptoSaid : Prop := windowPairsUptoRow.holds Try.pinned (OpenSpec.upto windowPairsSpec)

/-- 'pilcrowlaw13.WindowOrder', WHERE WHAT IT READS IS OF BULK AT MOST 1048576: true; the input reads as it did. -/
def windowOrderUptoRow : OpenClaim := { program := "ytnidohbleffjkaa", sum := "1d7e8a9b6aaf5d63527e56314da09d38c293a379d2893137747c8597f459a75e", func := "pilcrow/pilcrowlaw13.WindowOrder", spec := "windowOrder", apart := false, narrowed := true }
def WindowOrderUptoSaid : Prop := windowOrderUptoRow.holds Try.pinned (OpenSpec.upto windowOrderSpec)

/-- 'pilcrowlaw13.WindowTables', WHERE WHAT IT READS IS OF BULK AT MOST 1048576: true; the input reads as it did. -/
def windowTablesUptoRow : OpenClaim := { program := "ytnidohbleffjkaa", sum := "1d7e8a9b6aaf5d63527e56314da09d38c293a379d2893137747c8597f459a75e", func := "pilcrow/pilcrowlaw13.WindowTables", spec := "windowTables", apart := false, narrowed := true }
def WindowTablesUptoSaid : Prop := windowTablesUptoRow.holds Try.pinned (OpenSpec.upto windowTablesSpec)

/-- 'pilcrowlaw13.WindowIndexes', WHERE WHAT IT READS IS OF BULK AT MOST 1048576: true; the input reads as it did. -/
def windowIndexesUptoRow : OpenClaim := { program := "ytnidohbleffjkaa", sum := "1d7e8a9b6aaf5d63527e56314da09d38c293a379d2893137747c8597f459a75e", func := "pilcrow/pilcrowlaw13.WindowIndexes", spec := "windowIndexes", apart := false, narrowed := true }
def WindowIndexesUptoSaid : Prop := windowIndexesUptoRow.holds Try.pinned (OpenSpec.upto windowIndexesSpec)

/-- 'pilcrowlaw13.WindowPlays', WHERE WHAT IT READS IS OF BULK AT MOST 1048576: true; the input reads as it did. -/
def windowPlaysUptoRow : OpenClaim := { program := "ytnidohbleffjkaa", sum := "1d7e8a9b6aaf5d63527e56314da09d38c293a379d2893137747c8597f459a75e", func := "pilcrow/pilcrowlaw13.WindowPlays", spec := "windowPlays", apart := false, narrowed := true }
def WindowPlaysUptoSaid : Prop := windowPlaysUptoRow.holds Try.pinned (OpenSpec.upto windowPlaysSpec)

end Rows
end Go.Proofs.Ytnidohbleffjkaa
