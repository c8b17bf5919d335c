/-
  No cell of these rows narrows 'for every input' (looked for: loops, veiled, ifaces, maps, wideKeys, modest, calm, conditions, laid).
  DERIVED. THE GIVEN ROWS OF THIS SEAT. 5 by the template 'for every input the law returns true; each argument reads behind the call as it read before'; 0 by the template 'total and deterministic' (their statements: YtooiooledeblmaaGreatTotals.lean).
  GIVEN WITH THE SEED: the statements are not yours to turn. If you find one false, say at which input.
  Laid BY PROGRAM, IN A SANDBOX (cutbox-rows.mjs): the forced cells as the released guide's own fill.sh prints them over the translation 7e54b64542edb4a1… (all of the seat's roots in one cut). By AI agents, Wed Nov 11 2026. No macro, syntax, notation, axiom, sorry.
-/
import Derived.Test.YtooiooledeblmaaGreatChecked
import GoSem.Claim
import GoSem.ClaimJoined
import GoSem.ClaimMapViews
import Derived.JoinedTies
import Derived.KernelRfl
namespace Go.Proofs.YtooiooledeblmaaGreat
/- THE CELL 'sum', in the pinned program and in every row, IS THE sha256 OF THE DUMP (.gsa) THAT YtooiooledeblmaaGreatProg.lean LOADS. Nothing in Lean hashes anything: it is a label: what it is worth is what the hold of that sum in a sandbox is worth. -/
noncomputable def Tryz.pinned : Pinned := { name := "ytooiooledeblmaagreat", sum := "7e54b64542edb4a186a2cc0086002ae74ae6fc6d84a2caf2f2d91bfa3180ced6", checked := Tryz.checked }
namespace Rows
def none {H : Type} : Left H := { results := [], args := [] }

/-- 'pilcrowtop.TopOrder': WHATEVER THE INPUT: true; the input reads as it did. -/
def topOrderSpec : ChangeSpec := { name := "topOrder", fn := fun _ => fun
  | [d] => { results := [.lit (.bool true)], args := [d] }
  | _ => none }
def topOrderRow : OpenClaim := { program := "ytooiooledeblmaagreat", sum := "7e54b64542edb4a186a2cc0086002ae74ae6fc6d84a2caf2f2d91bfa3180ced6", func := "pilcrow/pilcrowtop.TopOrder", spec := "topOrder", inPlace := ["internal/abi.NoEscape"], unfollowed := true, recurses := true, apart := false }
def TopOrderSaid : Prop := topOrderRow.holds Tryz.pinned (OpenSpec.ofChange topOrderSpec)

/-- ITS FALSE NEIGHBOUR: 'it returns false'. Refute it at one input. -/
def topOrderWrong : ChangeSpec := { name := "topOrder", fn := fun _ => fun
  | [d] => { results := [.lit (.bool false)], args := [d] }
  | _ => none }
def TopOrderWrongFalsely : Prop := topOrderRow.holds Tryz.pinned (OpenSpec.ofChange topOrderWrong)

/-- 'pilcrowtop.TopLines': WHATEVER THE INPUT: true; the input reads as it did. -/
def topLinesSpec : ChangeSpec := { name := "topLines", fn := fun _ => fun
  | [d1, d2] => { results := [.lit (.bool true)], args := [d1, d2] }
  | _ => none }
def topLinesRow : OpenClaim := { program := "ytooiooledeblmaagreat", sum := "7e54b64542edb4a186a2cc0086002ae74ae6fc6d84a2caf2f2d91bfa3180ced6", func := "pilcrow/pilcrowtop.TopLines", spec := "topLines", inPlace := ["internal/abi.NoEscape"], unfollowed := true, recurses := true, apart := false }
def TopLinesSaid : Prop := topLinesRow.holds Tryz.pinned (OpenSpec.ofChange topLinesSpec)

/-- ITS FALSE NEIGHBOUR: 'it returns false'. Refute it at one input. -/
def topLinesWrong : ChangeSpec := { name := "topLines", fn := fun _ => fun
  | [d1, d2] => { results := [.lit (.bool false)], args := [d1, d2] }
  | _ => none }
def TopLinesWrongFalsely : Prop := topLinesRow.holds Tryz.pinned (OpenSpec.ofChange topLinesWrong)

/-- 'pilcrowtop.TopKept': WHATEVER THE INPUT: true; the input reads as it did. -/
def topKeptSpec : ChangeSpec := { name := "topKept", fn := fun _ => fun
  | [d] => { results := [.lit (.bool true)], args := [d] }
  | _ => none }
def topKeptRow : OpenClaim := { program := "ytooiooledeblmaagreat", sum := "7e54b64542edb4a186a2cc0086002ae74ae6fc6d84a2caf2f2d91bfa3180ced6", func := "pilcrow/pilcrowtop.TopKept", spec := "topKept", inPlace := ["internal/abi.NoEscape"], unfollowed := true, recurses := true, apart := false }
def TopKeptSaid : Prop := topKeptRow.holds Tryz.pinned (OpenSpec.ofChange topKeptSpec)

/-- ITS FALSE NEIGHBOUR: 'it returns false'. Refute it at one input. -/
def topKeptWrong : ChangeSpec := { name := "topKept", fn := fun _ => fun
  | [d] => { results := [.lit (.bool false)], args := [d] }
  | _ => none }
def TopKeptWrongFalsely : Prop := topKeptRow.holds Tryz.pinned (OpenSpec.ofChange topKeptWrong)

/-- 'pilcrowtop.TopPaths': WHATEVER THE INPUT: true; the input reads as it did. -/
def topPathsSpec : ChangeSpec := { name := "topPaths", fn := fun _ => fun
  | [d1, d2] => { results := [.lit (.bool true)], args := [d1, d2] }
  | _ => none }
def topPathsRow : OpenClaim := { program := "ytooiooledeblmaagreat", sum := "7e54b64542edb4a186a2cc0086002ae74ae6fc6d84a2caf2f2d91bfa3180ced6", func := "pilcrow/pilcrowtop.TopPaths", spec := "topPaths", inPlace := ["internal/abi.NoEscape"], unfollowed := true, recurses := true, apart := false }
def TopPathsSaid : Prop := topPathsRow.holds Tryz.pinned (OpenSpec.ofChange topPathsSpec)

/-- ITS FALSE NEIGHBOUR: 'it returns false'. Refute it at one input. -/
def topPathsWrong : ChangeSpec := { name := "topPaths", fn := fun _ => fun
  | [d1, d2] => { results := [.lit (.bool false)], args := [d1, d2] }
  | _ => none }
def TopPathsWrongFalsely : Prop := topPathsRow.holds Tryz.pinned (OpenSpec.ofChange topPathsWrong)

/-- 'pilcrowtop.TopFrames': WHATEVER THE INPUT: true; the input reads as it did. -/
def topFramesSpec : ChangeSpec := { name := "topFrames", fn := fun _ => fun
  | [d1, d2, d3] => { results := [.lit (.bool true)], args := [d1, d2, d3] }
  | _ => none }
def topFramesRow : OpenClaim := { program := "ytooiooledeblmaagreat", sum := "7e54b64542edb4a186a2cc0086002ae74ae6fc6d84a2caf2f2d91bfa3180ced6", func := "pilcrow/pilcrowtop.TopFrames", spec := "topFrames", inPlace := ["internal/abi.NoEscape"], unfollowed := true, recurses := true, apart := false }
def TopFramesSaid : Prop := topFramesRow.holds Tryz.pinned (OpenSpec.ofChange topFramesSpec)

/-- ITS FALSE NEIGHBOUR: 'it returns false'. Refute it at one input. -/
def topFramesWrong : ChangeSpec := { name := "topFrames", fn := fun _ => fun
  | [d1, d2, d3] => { results := [.lit (.bool false)], args := [d1, d2, d3] }
  | _ => none }
def TopFramesWrongFalsely : Prop := topFramesRow.holds Tryz.pinned (OpenSpec.ofChange topFramesWrong)

/- THE SECOND FORM. 'bulk': how many values and letters a reading holds, each counted each time it is reached (what is shared counts as often as it is met; a slice's spare places count too). A statement '..UptoSaid' is the law's where the arguments, and the package variables that the reading takes, are together of bulk at most 1048576: NARROWER than '..Said'. Prove '..Said' where nothing that the law and all that it calls make is longer than what came in: it says more and counts as full. Else prove '..UptoSaid'. A law counts once. -/
mutual
def uptoBulk {H : Type} : DataW H → Nat
  | .lit (.string bytes) => bytes.length + 1
  | .lit _ => 1
  | .nil => 1
  | .ptr d => uptoBulk d + 1
  | .slice elems spare => uptoBulkAll elems + uptoBulkAll spare + 1
  | .agg parts => uptoBulkAll parts + 1
  | .iface _ d => uptoBulk d + 1
  | .map entries => uptoBulkEntries entries + 1
  | .held _ => 1
def uptoBulkAll {H : Type} : List (DataW H) → Nat
  | [] => 0
  | d :: r => uptoBulk d + uptoBulkAll r
def uptoBulkEntries {H : Type} : List (Lit × DataW H) → Nat
  | [] => 0
  | x :: r => uptoBulkEntry x + uptoBulkEntries r
def uptoBulkEntry {H : Type} : Lit × DataW H → Nat
  | (.string bytes, d) => bytes.length + uptoBulk d + 1
  | (_, d) => uptoBulk d + 1
 end
def uptoSmall : (H : Type) → List (DataW H) → Bool := fun _ ds => decide (uptoBulkAll ds ≤ 1048576)
def OpenSpec.upto (s : _root_.Go.ChangeSpec) : _root_.Go.OpenSpec := { _root_.Go.OpenSpec.ofChange s with cond := some uptoSmall }

/-- 'pilcrowtop.TopOrder', WHERE WHAT IT READS IS OF BULK AT MOST 1048576: true; the input reads as it did. -/
def topOrderUptoRow : OpenClaim := { program := "ytooiooledeblmaagreat", sum := "7e54b64542edb4a186a2cc0086002ae74ae6fc6d84a2caf2f2d91bfa3180ced6", func := "pilcrow/pilcrowtop.TopOrder", spec := "topOrder", inPlace := ["internal/abi.NoEscape"], unfollowed := true, recurses := true, apart := false, narrowed := true }
def TopOrderUptoSaid : Prop := topOrderUptoRow.holds Tryz.pinned (OpenSpec.upto topOrderSpec)

/-- 'pilcrowtop.TopLines', WHERE WHAT IT READS IS OF BULK AT MOST 1048576: true; the input reads as it did. -/
def topLinesUptoRow : OpenClaim := { program := "ytooiooledeblmaagreat", sum := "7e54b64542edb4a186a2cc0086002ae74ae6fc6d84a2caf2f2d91bfa3180ced6", func := "pilcrow/pilcrowtop.TopLines", spec := "topLines", inPlace := ["internal/abi.NoEscape"], unfollowed := true, recurses := true, apart := false, narrowed := true }
def TopLinesUptoSaid : Prop := topLinesUptoRow.holds Tryz.pinned (OpenSpec.upto topLinesSpec)

/-- 'pilcrowtop.TopKept', WHERE WHAT IT READS IS OF BULK AT MOST 1048576: true; the input reads as it did. -/
def topKeptUptoRow : OpenClaim := { program := "ytooiooledeblmaagreat", sum := "7e54b64542edb4a186a2cc0086002ae74ae6fc6d84a2caf2f2d91bfa3180ced6", func := "pilcrow/pilcrowtop.TopKept", spec := "topKept", inPlace := ["internal/abi.NoEscape"], unfollowed := true, recurses := true, apart := false, narrowed := true }
def TopKeptUptoSaid : Prop := topKeptUptoRow.holds Tryz.pinned (OpenSpec.upto topKeptSpec)

/-- 'pilcrowtop.TopPaths', WHERE WHAT IT READS IS OF BULK AT MOST 1048576: true; the input reads as it did. -/
def topPathsUptoRow : OpenClaim := { program := "ytooiooledeblmaagreat", sum := "7e54b64542edb4a186a2cc0086002ae74ae6fc6d84a2caf2f2d91bfa3180ced6", func := "pilcrow/pilcrowtop.TopPaths", spec := "topPaths", inPlace := ["internal/abi.NoEscape"], unfollowed := true, recurses := true, apart := false, narrowed := true }
def TopPathsUptoSaid : Prop := topPathsUptoRow.holds Tryz.pinned (OpenSpec.upto topPathsSpec)

/-- 'pilcrowtop.TopFrames', WHERE WHAT IT READS IS OF BULK AT MOST 1048576: true; the input reads as it did. -/
def topFramesUptoRow : OpenClaim := { program := "ytooiooledeblmaagreat", sum := "7e54b64542edb4a186a2cc0086002ae74ae6fc6d84a2caf2f2d91bfa3180ced6", func := "pilcrow/pilcrowtop.TopFrames", spec := "topFrames", inPlace := ["internal/abi.NoEscape"], unfollowed := true, recurses := true, apart := false, narrowed := true }
def TopFramesUptoSaid : Prop := topFramesUptoRow.holds Tryz.pinned (OpenSpec.upto topFramesSpec)

end Rows
end Go.Proofs.YtooiooledeblmaaGreat
