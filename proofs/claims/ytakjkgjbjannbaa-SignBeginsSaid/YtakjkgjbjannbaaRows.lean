/-
  No cell of these rows narrows 'for every input' (looked for: loops, veiled, ifaces, maps, wideKeys, modest, calm, conditions, laid).
  DERIVED. THE GIVEN ROWS OF THIS SEAT. 5 by the template 'for every input the law returns true; each argument reads behind the call as it read before'; 0 by the template 'total and deterministic' (their statements: YtakjkgjbjannbaaTotals.lean).
  GIVEN WITH THE SEED: the statements are not yours to turn. If you find one false, say at which input.
  Laid BY PROGRAM, IN A SANDBOX (cutbox-rows.mjs): the forced cells as the released guide's own fill.sh prints them over the translation 7fca1799cb4f369a… (all of the seat's roots in one cut). By AI agents, Wed Nov 11 2026. No macro, syntax, notation, axiom, sorry.
-/
import Derived.Test.YtakjkgjbjannbaaChecked
import GoSem.Claim
import GoSem.ClaimJoined
import GoSem.ClaimMapViews
import Derived.JoinedTies
import Derived.KernelRfl
namespace Go.Proofs.Ytakjkgjbjannbaa
/- THE CELL 'sum', in the pinned program and in every row, IS THE sha256 OF THE DUMP (.gsa) THAT YtakjkgjbjannbaaProg.lean LOADS. Nothing in Lean hashes anything: it is a label: what it is worth is what the hold of that sum in a sandbox is worth. -/
noncomputable def Try.pinned : Pinned := { name := "ytakjkgjbjannbaa", sum := "7fca1799cb4f369aa680494cd5026d1415ed3cb6ff5e194207433ef5932e0567", checked := Try.checked }
namespace Rows
def none {H : Type} : Left H := { results := [], args := [] }

/-- 'pilcrowlaw17.SignTells': WHATEVER THE INPUT: true; the input reads as it did. -/
def signTellsSpec : ChangeSpec := { name := "signTells", fn := fun _ => fun
  | [d] => { results := [.lit (.bool true)], args := [d] }
  | _ => none }
def signTellsRow : OpenClaim := { program := "ytakjkgjbjannbaa", sum := "7fca1799cb4f369aa680494cd5026d1415ed3cb6ff5e194207433ef5932e0567", func := "pilcrow/pilcrowlaw17.SignTells", spec := "signTells", apart := false }
def SignTellsSaid : Prop := signTellsRow.holds Try.pinned (OpenSpec.ofChange signTellsSpec)

/-- ITS FALSE NEIGHBOUR: 'it returns false'. Refute it at one input. -/
def signTellsWrong : ChangeSpec := { name := "signTells", fn := fun _ => fun
  | [d] => { results := [.lit (.bool false)], args := [d] }
  | _ => none }
def SignTellsWrongFalsely : Prop := signTellsRow.holds Try.pinned (OpenSpec.ofChange signTellsWrong)

/-- 'pilcrowlaw17.SignSniffs': WHATEVER THE INPUT: true; the input reads as it did. -/
def signSniffsSpec : ChangeSpec := { name := "signSniffs", fn := fun _ => fun
  | [d] => { results := [.lit (.bool true)], args := [d] }
  | _ => none }
def signSniffsRow : OpenClaim := { program := "ytakjkgjbjannbaa", sum := "7fca1799cb4f369aa680494cd5026d1415ed3cb6ff5e194207433ef5932e0567", func := "pilcrow/pilcrowlaw17.SignSniffs", spec := "signSniffs", apart := false }
def SignSniffsSaid : Prop := signSniffsRow.holds Try.pinned (OpenSpec.ofChange signSniffsSpec)

/-- ITS FALSE NEIGHBOUR: 'it returns false'. Refute it at one input. -/
def signSniffsWrong : ChangeSpec := { name := "signSniffs", fn := fun _ => fun
  | [d] => { results := [.lit (.bool false)], args := [d] }
  | _ => none }
def SignSniffsWrongFalsely : Prop := signSniffsRow.holds Try.pinned (OpenSpec.ofChange signSniffsWrong)

/-- 'pilcrowlaw17.SignMarks': WHATEVER THE INPUT: true; the input reads as it did. -/
def signMarksSpec : ChangeSpec := { name := "signMarks", fn := fun _ => fun
  | [d1, d2] => { results := [.lit (.bool true)], args := [d1, d2] }
  | _ => none }
def signMarksRow : OpenClaim := { program := "ytakjkgjbjannbaa", sum := "7fca1799cb4f369aa680494cd5026d1415ed3cb6ff5e194207433ef5932e0567", func := "pilcrow/pilcrowlaw17.SignMarks", spec := "signMarks", apart := false }
def SignMarksSaid : Prop := signMarksRow.holds Try.pinned (OpenSpec.ofChange signMarksSpec)

/-- ITS FALSE NEIGHBOUR: 'it returns false'. Refute it at one input. -/
def signMarksWrong : ChangeSpec := { name := "signMarks", fn := fun _ => fun
  | [d1, d2] => { results := [.lit (.bool false)], args := [d1, d2] }
  | _ => none }
def SignMarksWrongFalsely : Prop := signMarksRow.holds Try.pinned (OpenSpec.ofChange signMarksWrong)

/-- 'pilcrowlaw17.SignBegins': WHATEVER THE INPUT: true; the input reads as it did. -/
def signBeginsSpec : ChangeSpec := { name := "signBegins", fn := fun _ => fun
  | [d1, d2] => { results := [.lit (.bool true)], args := [d1, d2] }
  | _ => none }
def signBeginsRow : OpenClaim := { program := "ytakjkgjbjannbaa", sum := "7fca1799cb4f369aa680494cd5026d1415ed3cb6ff5e194207433ef5932e0567", func := "pilcrow/pilcrowlaw17.SignBegins", spec := "signBegins", apart := false }
def SignBeginsSaid : Prop := signBeginsRow.holds Try.pinned (OpenSpec.ofChange signBeginsSpec)

/-- ITS FALSE NEIGHBOUR: 'it returns false'. Refute it at one input. -/
def signBeginsWrong : ChangeSpec := { name := "signBegins", fn := fun _ => fun
  | [d1, d2] => { results := [.lit (.bool false)], args := [d1, d2] }
  | _ => none }
def SignBeginsWrongFalsely : Prop := signBeginsRow.holds Try.pinned (OpenSpec.ofChange signBeginsWrong)

/-- 'pilcrowlaw17.SignLongest': WHATEVER THE INPUT: true; the input reads as it did. -/
def signLongestSpec : ChangeSpec := { name := "signLongest", fn := fun _ => fun
  | [d1, d2] => { results := [.lit (.bool true)], args := [d1, d2] }
  | _ => none }
def signLongestRow : OpenClaim := { program := "ytakjkgjbjannbaa", sum := "7fca1799cb4f369aa680494cd5026d1415ed3cb6ff5e194207433ef5932e0567", func := "pilcrow/pilcrowlaw17.SignLongest", spec := "signLongest", apart := false }
def SignLongestSaid : Prop := signLongestRow.holds Try.pinned (OpenSpec.ofChange signLongestSpec)

/-- ITS FALSE NEIGHBOUR: 'it returns false'. Refute it at one input. -/
def signLongestWrong : ChangeSpec := { name := "signLongest", fn := fun _ => fun
  | [d1, d2] => { results := [.lit (.bool false)], args := [d1, d2] }
  | _ => none }
def SignLongestWrongFalsely : Prop := signLongestRow.holds Try.pinned (OpenSpec.ofChange signLongestWrong)

/- THE SECOND FORM. 'bulk': how many values and letters a reading holds, each counted each time it is reached (what is shared counts as often as it is met; a slice's spare places count too). A statement '..UptoSaid' is the law's where the arguments, and the package variables that the reading takes, are together of bulk at most 1048576: NARROWER than '..Said'. Prove '..Said' where nothing that the law and all that it calls make is longer than what came in: it says more and counts as full. Else prove '..UptoSaid'. A law counts once. -/
mutual
def uptoBulk {H : Type} : DataW H → Nat
  | .lit (.string bytes) => bytes.length + 1
  | .lit _ => 1
  | .nil => 1
  | .ptr d => uptoBulk d + 1
  | .slice elems spare => uptoBulkAll elems + uptoBulkAll spare + 1
  | .agg parts => uptoBulkAll parts + 1
  | .iface _ d => uptoBulk d + 1
  | .map entries => uptoBulkEntries entries + 1
  | .held _ => 1
def uptoBulkAll {H : Type} : List (DataW H) → Nat
  | [] => 0
  | d :: r => uptoBulk d + uptoBulkAll r
def uptoBulkEntries {H : Type} : List (Lit × DataW H) → Nat
  | [] => 0
  | x :: r => uptoBulkEntry x + uptoBulkEntries r
def uptoBulkEntry {H : Type} : Lit × DataW H → Nat
  | (.string bytes, d) => bytes.length + uptoBulk d + 1
  | (_, d) => uptoBulk d + 1
 end
def uptoSmall : (H : Type) → List (DataW H) → Bool := fun _ ds => decide (uptoBulkAll ds ≤ 1048576)
def OpenSpec.upto (s : _root_.Go.ChangeSpec) : _root_.Go.OpenSpec := { _root_.Go.OpenSpec.ofChange s with cond := some uptoSmall }

/-- 'pilcrowlaw17.SignTells', WHERE WHAT IT READS IS OF BULK AT MOST 1048576: true; the input reads as it did. -/
def signTellsUptoRow : OpenClaim := { program := "ytakjkgjbjannbaa", sum := "7fca1799cb4f369aa680494cd5026d1415ed3cb6ff5e194207433ef5932e0567", func := "pilcrow/pilcrowlaw17.SignTells", spec := "signTells", apart := false, narrowed := true }
def SignTellsUptoSaid : Prop := signTellsUptoRow.holds Try.pinned (OpenSpec.upto signTellsSpec)

/-- 'pilcrowlaw17.SignSniffs', WHERE WHAT IT READS IS OF BULK AT MOST 1048576: true; the input reads as it did. -/
def signSniffsUptoRow : OpenClaim := { program := "ytakjkgjbjannbaa", sum := "7fca1799cb4f369aa680494cd5026d1415ed3cb6ff5e194207433ef5932e0567", func := "pilcrow/pilcrowlaw17.SignSniffs", spec := "signSniffs", apart := false, narrowed := true }
def SignSniffsUptoSaid : Prop := signSniffsUptoRow.holds Try.pinned (OpenSpec.upto signSniffsSpec)

/-- 'pilcrowlaw17.SignMarks', WHERE WHAT IT READS IS OF BULK AT MOST 1048576: true; the input reads as it did. -/
def signMarksUptoRow : OpenClaim := { program := "ytakjkgjbjannbaa", sum := "7fca1799cb4f369aa680494cd5026d1415ed3cb6ff5e194207433ef5932e0567", func := "pilcrow/pilcrowlaw17.SignMarks", spec := "signMarks", apart := false, narrowed := true }
def SignMarksUptoSaid : Prop := signMarksUptoRow.holds Try.pinned (OpenSpec.upto signMarksSpec)

/-- 'pilcrowlaw17.SignBegins', WHERE WHAT IT READS IS OF BULK AT MOST 1048576: true; the input reads as it did. -/
def signBeginsUptoRow : OpenClaim := { program := "ytakjkgjbjannbaa", sum := "7fca1799cb4f369aa680494cd5026d1415ed3cb6ff5e194207433ef5932e0567", func := "pilcrow/pilcrowlaw17.SignBegins", spec := "signBegins", apart := false, narrowed := true }
def SignBeginsUptoSaid : Prop := signBeginsUptoRow.holds Try.pinned (OpenSpec.upto signBeginsSpec)

/-- 'pilcrowlaw17.SignLongest', WHERE WHAT IT READS IS OF BULK AT MOST 1048576: true; the input reads as it did. -/
def signLongestUptoRow : OpenClaim := { program := "ytakjkgjbjannbaa", sum := "7fca1799cb4f369aa680494cd5026d1415ed3cb6ff5e194207433ef5932e0567", func := "pilcrow/pilcrowlaw17.SignLongest", spec := "signLongest", apart := false, narrowed := true }
def SignLongestUptoSaid : Prop := signLongestUptoRow.holds Try.pinned (OpenSpec.upto signLongestSpec)

end Rows
end Go.Proofs.Ytakjkgjbjannbaa
