/-
  No cell of these rows narrows 'for every input' (looked for: loops, veiled, ifaces, maps, wideKeys, modest, calm, conditions, laid).
  DERIVED. THE GIVEN ROWS OF THIS SEAT. 5 by the template 'for every input the law returns true; each argument reads behind the call as it read before'; 0 by the template 'total and deterministic' (their statements: YtkfiahildoljfaaTotals.lean).
  GIVEN WITH THE SEED: the statements are not yours to turn. If you find one false, say at which input.
  Laid BY PROGRAM, IN A SANDBOX (cutbox-rows.mjs): the forced cells as the released guide's own fill.sh prints them over the translation 869f3ff4dff19969… (all of the seat's roots in one cut). By AI agents, Wed Nov 11 2026. No macro, syntax, notation, axiom, sorry.
-/
import Derived.Test.YtkfiahildoljfaaChecked
import GoSem.Claim
import GoSem.ClaimJoined
import GoSem.ClaimMapViews
import Derived.JoinedTies
import Derived.KernelRfl
namespace Go.Proofs.Ytkfiahildoljfaa
/- THE CELL 'sum', in the pinned program and in every row, IS THE sha256 OF THE DUMP (.gsa) THAT YtkfiahildoljfaaProg.lean LOADS. Nothing in Lean hashes anything: it is a label: what it is worth is what the hold of that sum in a sandbox is worth. -/
noncomputable def Try.pinned : Pinned := { name := "ytkfiahildoljfaa", sum := "869f3ff4dff1996941dc0a66612cac68b2c5d304d40e9d4502cb3b45138bb13a", checked := Try.checked }
namespace Rows
def none {H : Type} : Left H := { results := [], args := [] }

/-- 'pilcrowlaw15.CompressBack': WHATEVER THE INPUT: true; the input reads as it did. -/
def compressBackSpec : ChangeSpec := { name := "compressBack", fn := fun _ => fun
  | [d1, d2] => { results := [.lit (.bool true)], args := [d1, d2] }
  | _ => none }
def compressBackRow : OpenClaim := { program := "ytkfiahildoljfaa", sum := "869f3ff4dff1996941dc0a66612cac68b2c5d304d40e9d4502cb3b45138bb13a", func := "pilcrow/pilcrowlaw15.CompressBack", spec := "compressBack", apart := false }
def CompressBackSaid : Prop := compressBackRow.holds Try.pinned (OpenSpec.ofChange compressBackSpec)

/-- ITS FALSE NEIGHBOUR: 'it returns false'. Refute it at one input. -/
def compressBackWrong : ChangeSpec := { name := "compressBack", fn := fun _ => fun
  | [d1, d2] => { results := [.lit (.bool false)], args := [d1, d2] }
  | _ => none }
def CompressBackWrongFalsely : Prop := compressBackRow.holds Try.pinned (OpenSpec.ofChange compressBackWrong)

/-- 'pilcrowlaw15.CompressSize': WHATEVER THE INPUT: true; the input reads as it did. -/
def compressSizeSpec : ChangeSpec := { name := "compressSize", fn := fun _ => fun
  | [d] => { results := [.lit (.bool true)], args := [d] }
  | _ => none }
def compressSizeRow : OpenClaim := { program := "ytkfiahildoljfaa", sum := "869f3ff4dff1996941dc0a66612cac68b2c5d304d40e9d4502cb3b45138bb13a", func := "pilcrow/pilcrowlaw15.CompressSize", spec := "compressSize", apart := false }
def CompressSizeSaid : Prop := compressSizeRow.holds Try.pinned (OpenSpec.ofChange compressSizeSpec)

/-- ITS FALSE NEIGHBOUR: 'it returns false'. Refute it at one input. -/
def compressSizeWrong : ChangeSpec := { name := "compressSize", fn := fun _ => fun
  | [d] => { results := [.lit (.bool false)], args := [d] }
  | _ => none }
def CompressSizeWrongFalsely : Prop := compressSizeRow.holds Try.pinned (OpenSpec.ofChange compressSizeWrong)

/-- 'pilcrowlaw15.CompressLatin': WHATEVER THE INPUT: true; the input reads as it did. -/
def compressLatinSpec : ChangeSpec := { name := "compressLatin", fn := fun _ => fun
  | [d1, d2] => { results := [.lit (.bool true)], args := [d1, d2] }
  | _ => none }
def compressLatinRow : OpenClaim := { program := "ytkfiahildoljfaa", sum := "869f3ff4dff1996941dc0a66612cac68b2c5d304d40e9d4502cb3b45138bb13a", func := "pilcrow/pilcrowlaw15.CompressLatin", spec := "compressLatin", apart := false }
def CompressLatinSaid : Prop := compressLatinRow.holds Try.pinned (OpenSpec.ofChange compressLatinSpec)

/-- ITS FALSE NEIGHBOUR: 'it returns false'. Refute it at one input. -/
def compressLatinWrong : ChangeSpec := { name := "compressLatin", fn := fun _ => fun
  | [d1, d2] => { results := [.lit (.bool false)], args := [d1, d2] }
  | _ => none }
def CompressLatinWrongFalsely : Prop := compressLatinRow.holds Try.pinned (OpenSpec.ofChange compressLatinWrong)

/-- 'pilcrowlaw15.CompressMark': WHATEVER THE INPUT: true; the input reads as it did. -/
def compressMarkSpec : ChangeSpec := { name := "compressMark", fn := fun _ => fun
  | [d1, d2] => { results := [.lit (.bool true)], args := [d1, d2] }
  | _ => none }
def compressMarkRow : OpenClaim := { program := "ytkfiahildoljfaa", sum := "869f3ff4dff1996941dc0a66612cac68b2c5d304d40e9d4502cb3b45138bb13a", func := "pilcrow/pilcrowlaw15.CompressMark", spec := "compressMark", apart := false }
def CompressMarkSaid : Prop := compressMarkRow.holds Try.pinned (OpenSpec.ofChange compressMarkSpec)

/-- ITS FALSE NEIGHBOUR: 'it returns false'. Refute it at one input. -/
def compressMarkWrong : ChangeSpec := { name := "compressMark", fn := fun _ => fun
  | [d1, d2] => { results := [.lit (.bool false)], args := [d1, d2] }
  | _ => none }
def CompressMarkWrongFalsely : Prop := compressMarkRow.holds Try.pinned (OpenSpec.ofChange compressMarkWrong)

/-- 'pilcrowlaw15.CompressPlain': WHATEVER THE INPUT: true; the input reads as it did. -/
def compressPlainSpec : ChangeSpec := { name := "compressPlain", fn := fun _ => fun
  | [d] => { results := [.lit (.bool true)], args := [d] }
  | _ => none }
def compressPlainRow : OpenClaim := { program := "ytkfiahildoljfaa", sum := "869f3ff4dff1996941dc0a66612cac68b2c5d304d40e9d4502cb3b45138bb13a", func := "pilcrow/pilcrowlaw15.CompressPlain", spec := "compressPlain", apart := false }
def CompressPlainSaid : Prop := compressPlainRow.holds Try.pinned (OpenSpec.ofChange compressPlainSpec)

/-- ITS FALSE NEIGHBOUR: 'it returns false'. Refute it at one input. -/
def compressPlainWrong : ChangeSpec := { name := "compressPlain", fn := fun _ => fun
  | [d] => { results := [.lit (.bool false)], args := [d] }
  | _ => none }
def CompressPlainWrongFalsely : Prop := compressPlainRow.holds Try.pinned (OpenSpec.ofChange compressPlainWrong)

/- THE SECOND FORM. 'bulk': how many values and letters a reading holds, each counted each time it is reached (what is shared counts as often as it is met; a slice's spare places count too). A statement '..UptoSaid' is the law's where the arguments, and the package variables that the reading takes, are together of bulk at most 1048576: NARROWER than '..Said'. Prove '..Said' where nothing that the law and all that it calls make is longer than what came in: it says more and counts as full. Else prove '..UptoSaid'. A law counts once. -/
mutual
def uptoBulk {H : Type} : DataW H → Nat
  | .lit (.string bytes) => bytes.length + 1
  | .lit _ => 1
  | .nil => 1
  | .ptr d => uptoBulk d + 1
  | .slice elems spare => uptoBulkAll elems + uptoBulkAll spare + 1
  | .agg parts => uptoBulkAll parts + 1
  | .iface _ d => uptoBulk d + 1
  | .map entries => uptoBulkEntries entries + 1
  | .held _ => 1
def uptoBulkAll {H : Type} : List (DataW H) → Nat
  | [] => 0
  | d :: r => uptoBulk d + uptoBulkAll r
def uptoBulkEntries {H : Type} : List (Lit × DataW H) → Nat
  | [] => 0
  | x :: r => uptoBulkEntry x + uptoBulkEntries r
def uptoBulkEntry {H : Type} : Lit × DataW H → Nat
  | (.string bytes, d) => bytes.length + uptoBulk d + 1
  | (_, d) => uptoBulk d + 1
 end
def uptoSmall : (H : Type) → List (DataW H) → Bool := fun _ ds => decide (uptoBulkAll ds ≤ 1048576)
def OpenSpec.upto (s : _root_.Go.ChangeSpec) : _root_.Go.OpenSpec := { _root_.Go.OpenSpec.ofChange s with cond := some uptoSmall }

/-- 'pilcrowlaw15.CompressBack', WHERE WHAT IT READS IS OF BULK AT MOST 1048576: true; the input reads as it did. -/
def compressBackUptoRow : OpenClaim := { program := "ytkfiahildoljfaa", sum := "869f3ff4dff1996941dc0a66612cac68b2c5d304d40e9d4502cb3b45138bb13a", func := "pilcrow/pilcrowlaw15.CompressBack", spec := "compressBack", apart := false, narrowed := true }
def CompressBackUptoSaid : Prop := compressBackUptoRow.holds Try.pinned (OpenSpec.upto compressBackSpec)

/-- 'pilcrowlaw15.CompressSize', WHERE WHAT IT READS IS OF BULK AT MOST 1048576: true; the input reads as it did. -/
def compressSizeUptoRow : OpenClaim := { program := "ytkfiahildoljfaa", sum := "869f3ff4dff1996941dc0a66612cac68b2c5d304d40e9d4502cb3b45138bb13a", func := "pilcrow/pilcrowlaw15.CompressSize", spec := "compressSize", apart := false, narrowed := true }
def CompressSizeUptoSaid : Prop := compressSizeUptoRow.holds Try.pinned (OpenSpec.upto compressSizeSpec)

/-- 'pilcrowlaw15.CompressLatin', WHERE WHAT IT READS IS OF BULK AT MOST 1048576: true; the input reads as it did. -/
def compressLatinUptoRow : OpenClaim := { program := "ytkfiahildoljfaa", sum := "869f3ff4dff1996941dc0a66612cac68b2c5d304d40e9d4502cb3b45138bb13a", func := "pilcrow/pilcrowlaw15.CompressLatin", spec := "compressLatin", apart := false, narrowed := true }
def CompressLatinUptoSaid : Prop := compressLatinUptoRow.holds Try.pinned (OpenSpec.upto compressLatinSpec)

/-- 'pilcrowlaw15.CompressMark', WHERE WHAT IT READS IS OF BULK AT MOST 1048576: true; the input reads as it did. -/
def compressMarkUptoRow : OpenClaim := { program := "ytkfiahildoljfaa", sum := "869f3ff4dff1996941dc0a66612cac68b2c5d304d40e9d4502cb3b45138bb13a", func := "pilcrow/pilcrowlaw15.CompressMark", spec := "compressMark", apart := false, narrowed := true }
def CompressMarkUptoSaid : Prop := compressMarkUptoRow.holds Try.pinned (OpenSpec.upto compressMarkSpec)

/-- 'pilcrowlaw15.CompressPlain', WHERE WHAT IT READS IS OF BULK AT MOST 1048576: true; the input reads as it did. -/
def compressPlainUptoRow : OpenClaim := { program := "ytkfiahildoljfaa", sum := "869f3ff4dff1996941dc0a66612cac68b2c5d304d40e9d4502cb3b45138bb13a", func := "pilcrow/pilcrowlaw15.CompressPlain", spec := "compressPlain", apart := false, narrowed := true }
def CompressPlainUptoSaid : Prop := compressPlainUptoRow.holds Try.pinned (OpenSpec.upto compressPlainSpec)

end Rows
end Go.Proofs.Ytkfiahildoljfaa
