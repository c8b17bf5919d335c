/-
  No cell of these rows narrows 'for every input' (looked for: loops, veiled, ifaces, maps, wideKeys, modest, calm, conditions, laid).
  DERIVED. THE GIVEN ROWS OF THIS SEAT. 5 by the template 'for every input the law returns true; each argument reads behind the call as it read before'; 0 by the template 'total and deterministic' (their statements: YtdjpaahjmkbcjaaTotals.lean).
  GIVEN WITH THE SEED: the statements are not yours to turn. If you find one false, say at which input.
  Laid BY PROGRAM, IN A SANDBOX (cutbox-rows.mjs): the forced cells as the released guide's own fill.sh prints them over the translation d2467fd02f98d6a1… (all of the seat's roots in one cut). By AI agents, Wed Nov 11 2026. No macro, syntax, notation, axiom, sorry.
-/
import Derived.Test.YtdjpaahjmkbcjaaChecked
import GoSem.Claim
import GoSem.ClaimJoined
import GoSem.ClaimMapViews
import Derived.JoinedTies
import Derived.KernelRfl
namespace Go.Proofs.Ytdjpaahjmkbcjaa
/- THE CELL 'sum', in the pinned program and in every row, IS THE sha256 OF THE DUMP (.gsa) THAT YtdjpaahjmkbcjaaProg.lean LOADS. Nothing in Lean hashes anything: it is a label: what it is worth is what the hold of that sum in a sandbox is worth. -/
noncomputable def Try.pinned : Pinned := { name := "ytdjpaahjmkbcjaa", sum := "d2467fd02f98d6a1a81a416ab47f397c3978e32feb3b692c1860653c532b7548", checked := Try.checked }
namespace Rows
def none {H : Type} : Left H := { results := [], args := [] }

/-- 'pilcrowlaw01.ScalarTells': WHATEVER THE INPUT: true; the input reads as it did. -/
def scalarTellsSpec : ChangeSpec := { name := "scalarTells", fn := fun _ => fun
  | [d] => { results := [.lit (.bool true)], args := [d] }
  | _ => none }
def scalarTellsRow : OpenClaim := { program := "ytdjpaahjmkbcjaa", sum := "d2467fd02f98d6a1a81a416ab47f397c3978e32feb3b692c1860653c532b7548", func := "pilcrow/pilcrowlaw01.ScalarTells", spec := "scalarTells", apart := false }
def ScalarTellsSaid : Prop := scalarTellsRow.holds Try.pinned (OpenSpec.ofChange scalarTellsSpec)

/-- ITS FALSE NEIGHBOUR: 'it returns false'. Refute it at one input. -/
def scalarTellsWrong : ChangeSpec := { name := "scalarTells", fn := fun _ => fun
  | [d] => { results := [.lit (.bool false)], args := [d] }
  | _ => none }
def ScalarTellsWrongFalsely : Prop := scalarTellsRow.holds Try.pinned (OpenSpec.ofChange scalarTellsWrong)

/-- 'pilcrowlaw01.ScalarLists': WHATEVER THE INPUT: true; the input reads as it did. -/
def scalarListsSpec : ChangeSpec := { name := "scalarLists", fn := fun _ => fun
  | [d] => { results := [.lit (.bool true)], args := [d] }
  | _ => none }
def scalarListsRow : OpenClaim := { program := "ytdjpaahjmkbcjaa", sum := "d2467fd02f98d6a1a81a416ab47f397c3978e32feb3b692c1860653c532b7548", func := "pilcrow/pilcrowlaw01.ScalarLists", spec := "scalarLists", apart := false }
def ScalarListsSaid : Prop := scalarListsRow.holds Try.pinned (OpenSpec.ofChange scalarListsSpec)

/-- ITS FALSE NEIGHBOUR: 'it returns false'. Refute it at one input. -/
def scalarListsWrong : ChangeSpec := { name := "scalarLists", fn := fun _ => fun
  | [d] => { results := [.lit (.bool false)], args := [d] }
  | _ => none }
def ScalarListsWrongFalsely : Prop := scalarListsRow.holds Try.pinned (OpenSpec.ofChange scalarListsWrong)

/-- 'pilcrowlaw01.ScalarOrder': WHATEVER THE INPUT: true; the input reads as it did. -/
def scalarOrderSpec : ChangeSpec := { name := "scalarOrder", fn := fun _ => fun
  | [d1, d2, d3] => { results := [.lit (.bool true)], args := [d1, d2, d3] }
  | _ => none }
def scalarOrderRow : OpenClaim := { program := "ytdjpaahjmkbcjaa", sum := "d2467fd02f98d6a1a81a416ab47f397c3978e32feb3b692c1860653c532b7548", func := "pilcrow/pilcrowlaw01.ScalarOrder", spec := "scalarOrder", apart := false }
def ScalarOrderSaid : Prop := scalarOrderRow.holds Try.pinned (OpenSpec.ofChange scalarOrderSpec)

/-- ITS FALSE NEIGHBOUR: 'it returns false'. Refute it at one input. -/
def scalarOrderWrong : ChangeSpec := { name := "scalarOrder", fn := fun _ => fun
  | [d1, d2, d3] => { results := [.lit (.bool false)], args := [d1, d2, d3] }
  | _ => none }
def ScalarOrderWrongFalsely : Prop := scalarOrderRow.holds Try.pinned (OpenSpec.ofChange scalarOrderWrong)

/-- 'pilcrowlaw01.ScalarJoins': WHATEVER THE INPUT: true; the input reads as it did. -/
def scalarJoinsSpec : ChangeSpec := { name := "scalarJoins", fn := fun _ => fun
  | [d1, d2] => { results := [.lit (.bool true)], args := [d1, d2] }
  | _ => none }
def scalarJoinsRow : OpenClaim := { program := "ytdjpaahjmkbcjaa", sum := "d2467fd02f98d6a1a81a416ab47f397c3978e32feb3b692c1860653c532b7548", func := "pilcrow/pilcrowlaw01.ScalarJoins", spec := "scalarJoins", apart := false }
def ScalarJoinsSaid : Prop := scalarJoinsRow.holds Try.pinned (OpenSpec.ofChange scalarJoinsSpec)

/-- ITS FALSE NEIGHBOUR: 'it returns false'. Refute it at one input. -/
def scalarJoinsWrong : ChangeSpec := { name := "scalarJoins", fn := fun _ => fun
  | [d1, d2] => { results := [.lit (.bool false)], args := [d1, d2] }
  | _ => none }
def ScalarJoinsWrongFalsely : Prop := scalarJoinsRow.holds Try.pinned (OpenSpec.ofChange scalarJoinsWrong)

/-- 'pilcrowlaw01.ScalarParts': WHATEVER THE INPUT: true; the input reads as it did. -/
def scalarPartsSpec : ChangeSpec := { name := "scalarParts", fn := fun _ => fun
  | [d1, d2, d3] => { results := [.lit (.bool true)], args := [d1, d2, d3] }
  | _ => none }
def scalarPartsRow : OpenClaim := { program := "ytdjpaahjmkbcjaa", sum := "d2467fd02f98d6a1a81a416ab47f397c3978e32feb3b692c1860653c532b7548", func := "pilcrow/pilcrowlaw01.ScalarParts", spec := "scalarParts", apart := false }
def ScalarPartsSaid : Prop := scalarPartsRow.holds Try.pinned (OpenSpec.ofChange scalarPartsSpec)

/-- ITS FALSE NEIGHBOUR: 'it returns false'. Refute it at one input. -/
def scalarPartsWrong : ChangeSpec := { name := "scalarParts", fn := fun _ => fun
  | [d1, d2, d3] => { results := [.lit (.bool false)], args := [d1, d2, d3] }
  | _ => none }
def ScalarPartsWrongFalsely : Prop := scalarPartsRow.holds Try.pinned (OpenSpec.ofChange scalarPartsWrong)

/- THE SECOND FORM. 'bulk': how many values and letters a reading holds, each counted each time it is reached (what is shared counts as often as it is met; a slice's spare places count too). A statement '..UptoSaid' is the law's where the arguments, and the package variables that the reading takes, are together of bulk at most 1048576: NARROWER than '..Said'. Prove '..Said' where nothing that the law and all that it calls make is longer than what came in: it says more and counts as full. Else prove '..UptoSaid'. A law counts once. -/
mutual
def uptoBulk {H : Type} : DataW H → Nat
  | .lit (.string bytes) => bytes.length + 1
  | .lit _ => 1
  | .nil => 1
  | .ptr d => uptoBulk d + 1
  | .slice elems spare => uptoBulkAll elems + uptoBulkAll spare + 1
  | .agg parts => uptoBulkAll parts + 1
  | .iface _ d => uptoBulk d + 1
  | .map entries => uptoBulkEntries entries + 1
  | .held _ => 1
def uptoBulkAll {H : Type} : List (DataW H) → Nat
  | [] => 0
  | d :: r => uptoBulk d + uptoBulkAll r
def uptoBulkEntries {H : Type} : List (Lit × DataW H) → Nat
  | [] => 0
  | x :: r => uptoBulkEntry x + uptoBulkEntries r
def uptoBulkEntry {H : Type} : Lit × DataW H → Nat
  | (.string bytes, d) => bytes.length + uptoBulk d + 1
  | (_, d) => uptoBulk d + 1
 end
def uptoSmall : (H : Type) → List (DataW H) → Bool := fun _ ds => decide (uptoBulkAll ds ≤ 1048576)
def OpenSpec.upto (s : _root_.Go.ChangeSpec) : _root_.Go.OpenSpec := { _root_.Go.OpenSpec.ofChange s with cond := some uptoSmall }

/-- 'pilcrowlaw01.ScalarTells', WHERE WHAT IT READS IS OF BULK AT MOST 1048576: true; the input reads as it did. -/
def scalarTellsUptoRow : OpenClaim := { program := "ytdjpaahjmkbcjaa", sum := "d2467fd02f98d6a1a81a416ab47f397c3978e32feb3b692c1860653c532b7548", func := "pilcrow/pilcrowlaw01.ScalarTells", spec := "scalarTells", apart := false, narrowed := true }
def ScalarTellsUptoSaid : Prop := scalarTellsUptoRow.holds Try.pinned (OpenSpec.upto scalarTellsSpec)

/-- 'pilcrowlaw01.ScalarLists', WHERE WHAT IT READS IS OF BULK AT MOST 1048576: true; the input reads as it did. -/
def scalarListsUptoRow : OpenClaim := { program := "ytdjpaahjmkbcjaa", sum := "d2467fd02f98d6a1a81a416ab47f397c3978e32feb3b692c1860653c532b7548", func := "pilcrow/pilcrowlaw01.ScalarLists", spec := "scalarLists", apart := false, narrowed := true }
def ScalarListsUptoSaid : Prop := scalarListsUptoRow.holds Try.pinned (OpenSpec.upto scalarListsSpec)

/-- 'pilcrowlaw01.ScalarOrder', WHERE WHAT IT READS IS OF BULK AT MOST 1048576: true; the input reads as it did. -/
def scalarOrderUptoRow : OpenClaim := { program := "ytdjpaahjmkbcjaa", sum := "d2467fd02f98d6a1a81a416ab47f397c3978e32feb3b692c1860653c532b7548", func := "pilcrow/pilcrowlaw01.ScalarOrder", spec := "scalarOrder", apart := false, narrowed := true }
def ScalarOrderUptoSaid : Prop := scalarOrderUptoRow.holds Try.pinned (OpenSpec.upto scalarOrderSpec)

/-- 'pilcrowlaw01.ScalarJoins', WHERE WHAT IT READS IS OF BULK AT MOST 1048576: true; the input reads as it did. -/
def scalarJoinsUptoRow : OpenClaim := { program := "ytdjpaahjmkbcjaa", sum := "d2467fd02f98d6a1a81a416ab47f397c3978e32feb3b692c1860653c532b7548", func := "pilcrow/pilcrowlaw01.ScalarJoins", spec := "scalarJoins", apart := false, narrowed := true }
def ScalarJoinsUptoSaid : Prop := scalarJoinsUptoRow.holds Try.pinned (OpenSpec.upto scalarJoinsSpec)

/-- 'pilcrowlaw01.ScalarParts', WHERE WHAT IT READS IS OF BULK AT MOST 1048576: true; the input reads as it did. -/
def scalarPartsUptoRow : OpenClaim := { program := "ytdjpaahjmkbcjaa", sum := "d2467fd02f98d6a1a81a416ab47f397c3978e32feb3b692c1860653c532b7548", func := "pilcrow/pilcrowlaw01.ScalarParts", spec := "scalarParts", apart := false, narrowed := true }
def ScalarPartsUptoSaid : Prop := scalarPartsUptoRow.holds Try.pinned (OpenSpec.upto scalarPartsSpec)

end Rows
end Go.Proofs.Ytdjpaahjmkbcjaa
