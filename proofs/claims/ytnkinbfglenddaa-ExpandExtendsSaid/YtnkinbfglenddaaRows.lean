/-
  No cell of these rows narrows 'for every input' (looked for: loops, veiled, ifaces, maps, wideKeys, modest, calm, conditions, laid).
  DERIVED. THE GIVEN ROWS OF THIS SEAT. 6 by the template 'for every input the law returns true; each argument reads behind the call as it read before'; 0 by the template 'total and deterministic' (their statements: YtnkinbfglenddaaTotals.lean).
  GIVEN WITH THE SEED: the statements are not yours to turn. If you find one false, say at which input.
  Laid BY PROGRAM, IN A SANDBOX (cutbox-rows.mjs): the forced cells as the released guide's own fill.sh prints them over the translation 48a34ef8bb7394c3… (all of the seat's roots in one cut). By AI agents, Wed Nov 11 2026. No macro, syntax, notation, axiom, sorry.
-/
import Derived.Test.YtnkinbfglenddaaChecked
import GoSem.Claim
import GoSem.ClaimJoined
import GoSem.ClaimMapViews
import Derived.JoinedTies
import Derived.KernelRfl
namespace Go.Proofs.Ytnkinbfglenddaa
/- THE CELL 'sum', in the pinned program and in every row, IS THE sha256 OF THE DUMP (.gsa) THAT YtnkinbfglenddaaProg.lean LOADS. Nothing in Lean hashes anything: it is a label: what it is worth is what the hold of that sum in a sandbox is worth. -/
noncomputable def Try.pinned : Pinned := { name := "ytnkinbfglenddaa", sum := "48a34ef8bb7394c3004e69a108600052f1bdd725cad6291582cf1e3a4751cb44", checked := Try.checked }
namespace Rows
def none {H : Type} : Left H := { results := [], args := [] }

/-- 'pilcrowlaw14.ExpandAscii': WHATEVER THE INPUT: true; the input reads as it did. -/
def expandAsciiSpec : ChangeSpec := { name := "expandAscii", fn := fun _ => fun
  | [d] => { results := [.lit (.bool true)], args := [d] }
  | _ => none }
def expandAsciiRow : OpenClaim := { program := "ytnkinbfglenddaa", sum := "48a34ef8bb7394c3004e69a108600052f1bdd725cad6291582cf1e3a4751cb44", func := "pilcrow/pilcrowlaw14.ExpandAscii", spec := "expandAscii", apart := false }
def ExpandAsciiSaid : Prop := expandAsciiRow.holds Try.pinned (OpenSpec.ofChange expandAsciiSpec)

/-- ITS FALSE NEIGHBOUR: 'it returns false'. Refute it at one input. -/
def expandAsciiWrong : ChangeSpec := { name := "expandAscii", fn := fun _ => fun
  | [d] => { results := [.lit (.bool false)], args := [d] }
  | _ => none }
def ExpandAsciiWrongFalsely : Prop := expandAsciiRow.holds Try.pinned (OpenSpec.ofChange expandAsciiWrong)

/-- 'pilcrowlaw14.ExpandUnits': WHATEVER THE INPUT: true; the input reads as it did. -/
def expandUnitsSpec : ChangeSpec := { name := "expandUnits", fn := fun _ => fun
  | [d] => { results := [.lit (.bool true)], args := [d] }
  | _ => none }
def expandUnitsRow : OpenClaim := { program := "ytnkinbfglenddaa", sum := "48a34ef8bb7394c3004e69a108600052f1bdd725cad6291582cf1e3a4751cb44", func := "pilcrow/pilcrowlaw14.ExpandUnits", spec := "expandUnits", apart := false }
def ExpandUnitsSaid : Prop := expandUnitsRow.holds Try.pinned (OpenSpec.ofChange expandUnitsSpec)

/-- ITS FALSE NEIGHBOUR: 'it returns false'. Refute it at one input. -/
def expandUnitsWrong : ChangeSpec := { name := "expandUnits", fn := fun _ => fun
  | [d] => { results := [.lit (.bool false)], args := [d] }
  | _ => none }
def ExpandUnitsWrongFalsely : Prop := expandUnitsRow.holds Try.pinned (OpenSpec.ofChange expandUnitsWrong)

/-- 'pilcrowlaw14.ExpandWindows': WHATEVER THE INPUT: true; the input reads as it did. -/
def expandWindowsSpec : ChangeSpec := { name := "expandWindows", fn := fun _ => fun
  | [d1, d2, d3] => { results := [.lit (.bool true)], args := [d1, d2, d3] }
  | _ => none }
def expandWindowsRow : OpenClaim := { program := "ytnkinbfglenddaa", sum := "48a34ef8bb7394c3004e69a108600052f1bdd725cad6291582cf1e3a4751cb44", func := "pilcrow/pilcrowlaw14.ExpandWindows", spec := "expandWindows", apart := false }
def ExpandWindowsSaid : Prop := expandWindowsRow.holds Try.pinned (OpenSpec.ofChange expandWindowsSpec)

/-- ITS FALSE NEIGHBOUR: 'it returns false'. Refute it at one input. -/
def expandWindowsWrong : ChangeSpec := { name := "expandWindows", fn := fun _ => fun
  | [d1, d2, d3] => { results := [.lit (.bool false)], args := [d1, d2, d3] }
  | _ => none }
def ExpandWindowsWrongFalsely : Prop := expandWindowsRow.holds Try.pinned (OpenSpec.ofChange expandWindowsWrong)

/-- 'pilcrowlaw14.ExpandReads': WHATEVER THE INPUT: true; the input reads as it did. -/
def expandReadsSpec : ChangeSpec := { name := "expandReads", fn := fun _ => fun
  | [d1, d2, d3] => { results := [.lit (.bool true)], args := [d1, d2, d3] }
  | _ => none }
def expandReadsRow : OpenClaim := { program := "ytnkinbfglenddaa", sum := "48a34ef8bb7394c3004e69a108600052f1bdd725cad6291582cf1e3a4751cb44", func := "pilcrow/pilcrowlaw14.ExpandReads", spec := "expandReads", apart := false }
def ExpandReadsSaid : Prop := expandReadsRow.holds Try.pinned (OpenSpec.ofChange expandReadsSpec)

/-- ITS FALSE NEIGHBOUR: 'it returns false'. Refute it at one input. -/
def expandReadsWrong : ChangeSpec := { name := "expandReads", fn := fun _ => fun
  | [d1, d2, d3] => { results := [.lit (.bool false)], args := [d1, d2, d3] }
  | _ => none }
def ExpandReadsWrongFalsely : Prop := expandReadsRow.holds Try.pinned (OpenSpec.ofChange expandReadsWrong)

/-- 'pilcrowlaw14.ExpandExtends': WHATEVER THE INPUT: true; the input reads as it did. -/
def expandExtendsSpec : ChangeSpec := { name := "expandExtends", fn := fun _ => fun
  | [d1, d2] => { results := [.lit (.bool true)], args := [d1, d2] }
  | _ => none }
def expandExtendsRow : OpenClaim := { program := "ytnkinbfglenddaa", sum := "48a34ef8bb7394c3004e69a108600052f1bdd725cad6291582cf1e3a4751cb44", func := "pilcrow/pilcrowlaw14.ExpandExtends", spec := "expandExtends", apart := false }
def ExpandExtendsSaid : Prop := expandExtendsRow.holds Try.pinned (OpenSpec.ofChange expandExtendsSpec)

/-- ITS FALSE NEIGHBOUR: 'it returns false'. Refute it at one input. -/
def expandExtendsWrong : ChangeSpec := { name := "expandExtends", fn := fun _ => fun
  | [d1, d2] => { results := [.lit (.bool false)], args := [d1, d2] }
  | _ => none }
def ExpandExtendsWrongFalsely : Prop := expandExtendsRow.holds Try.pinned (OpenSpec.ofChange expandExtendsWrong)

/-- 'pilcrowlaw14.ExpandFront': WHATEVER THE INPUT: true; the input reads as it did. -/
def expandFrontSpec : ChangeSpec := { name := "expandFront", fn := fun _ => fun
  | [d1, d2] => { results := [.lit (.bool true)], args := [d1, d2] }
  | _ => none }
def expandFrontRow : OpenClaim := { program := "ytnkinbfglenddaa", sum := "48a34ef8bb7394c3004e69a108600052f1bdd725cad6291582cf1e3a4751cb44", func := "pilcrow/pilcrowlaw14.ExpandFront", spec := "expandFront", apart := false }
def ExpandFrontSaid : Prop := expandFrontRow.holds Try.pinned (OpenSpec.ofChange expandFrontSpec)

/-- ITS FALSE NEIGHBOUR: 'it returns false'. Refute it at one input. -/
def expandFrontWrong : ChangeSpec := { name := "expandFront", fn := fun _ => fun
  | [d1, d2] => { results := [.lit (.bool false)], args := [d1, d2] }
  | _ => none }
def ExpandFrontWrongFalsely : Prop := expandFrontRow.holds Try.pinned (OpenSpec.ofChange expandFrontWrong)

/- THE SECOND FORM. 'bulk': how many values and letters a reading holds, each counted each time it is reached (what is shared counts as often as it is met; a slice's spare places count too). A statement '..UptoSaid' is the law's where the arguments, and the package variables that the reading takes, are together of bulk at most 1048576: NARROWER than '..Said'. Prove '..Said' where nothing that the law and all that it calls make is longer than what came in: it says more and counts as full. Else prove '..UptoSaid'. A law counts once. -/
mutual
def uptoBulk {H : Type} : DataW H → Nat
  | .lit (.string bytes) => bytes.length + 1
  | .lit _ => 1
  | .nil => 1
  | .ptr d => uptoBulk d + 1
  | .slice elems spare => uptoBulkAll elems + uptoBulkAll spare + 1
  | .agg parts => uptoBulkAll parts + 1
  | .iface _ d => uptoBulk d + 1
  | .map entries => uptoBulkEntries entries + 1
  | .held _ => 1
def uptoBulkAll {H : Type} : List (DataW H) → Nat
  | [] => 0
  | d :: r => uptoBulk d + uptoBulkAll r
def uptoBulkEntries {H : Type} : List (Lit × DataW H) → Nat
  | [] => 0
  | x :: r => uptoBulkEntry x + uptoBulkEntries r
def uptoBulkEntry {H : Type} : Lit × DataW H → Nat
  | (.string bytes, d) => bytes.length + uptoBulk d + 1
  | (_, d) => uptoBulk d + 1
 end
def uptoSmall : (H : Type) → List (DataW H) → Bool := fun _ ds => decide (uptoBulkAll ds ≤ 1048576)
def OpenSpec.upto (s : _root_.Go.ChangeSpec) : _root_.Go.OpenSpec := { _root_.Go.OpenSpec.ofChange s with cond := some uptoSmall }

/-- 'pilcrowlaw14.ExpandAscii', WHERE WHAT IT READS IS OF BULK AT MOST 1048576: true; the input reads as it did. -/
def expandAsciiUptoRow : OpenClaim := { program := "ytnkinbfglenddaa", sum := "48a34ef8bb7394c3004e69a108600052f1bdd725cad6291582cf1e3a4751cb44", func := "pilcrow/pilcrowlaw14.ExpandAscii", spec := "expandAscii", apart := false, narrowed := true }
def ExpandAsciiUptoSaid : Prop := expandAsciiUptoRow.holds Try.pinned (OpenSpec.upto expandAsciiSpec)

/-- 'pilcrowlaw14.ExpandUnits', WHERE WHAT IT READS IS OF BULK AT MOST 1048576: true; the input reads as it did. -/
def expandUnitsUptoRow : OpenClaim := { program := "ytnkinbfglenddaa", sum := "48a34ef8bb7394c3004e69a108600052f1bdd725cad6291582cf1e3a4751cb44", func := "pilcrow/pilcrowlaw14.ExpandUnits", spec := "expandUnits", apart := false, narrowed := true }
def ExpandUnitsUptoSaid : Prop := expandUnitsUptoRow.holds Try.pinned (OpenSpec.upto expandUnitsSpec)

/-- 'pilcrowlaw14.ExpandWindows', WHERE WHAT IT READS IS OF BULK AT MOST 1048576: true; the input reads as it did. -/
def expandWindowsUptoRow : OpenClaim := { program := "ytnkinbfglenddaa", sum := "48a34ef8bb7394c3004e69a108600052f1bdd725cad6291582cf1e3a4751cb44", func := "pilcrow/pilcrowlaw14.ExpandWindows", spec := "expandWindows", apart := false, narrowed := true }
def ExpandWindowsUptoSaid : Prop := expandWindowsUptoRow.holds Try.pinned (OpenSpec.upto expandWindowsSpec)

/-- 'pilcrowlaw14.ExpandReads', WHERE WHAT IT READS IS OF BULK AT MOST 1048576: true; the input reads as it did. -/
def expandReadsUptoRow : OpenClaim := { program := "ytnkinbfglenddaa", sum := "48a34ef8bb7394c3004e69a108600052f1bdd725cad6291582cf1e3a4751cb44", func := "pilcrow/pilcrowlaw14.ExpandReads", spec := "expandReads", apart := false, narrowed := true }
def ExpandReadsUptoSaid : Prop := expandReadsUptoRow.holds Try.pinned (OpenSpec.upto expandReadsSpec)

/-- 'pilcrowlaw14.ExpandExtends', WHERE WHAT IT READS IS OF BULK AT MOST 1048576: true; the input reads as it did. -/
def expandExtendsUptoRow : OpenClaim := { program := "ytnkinbfglenddaa", sum := "48a34ef8bb7394c3004e69a108600052f1bdd725cad6291582cf1e3a4751cb44", func := "pilcrow/pilcrowlaw14.ExpandExtends", spec := "expandExtends", apart := false, narrowed := true }
def ExpandExtendsUptoSaid : Prop := expandExtendsUptoRow.holds Try.pinned (OpenSpec.upto expandExtendsSpec)

/-- 'pilcrowlaw14.ExpandFront', WHERE WHAT IT READS IS OF BULK AT MOST 1048576: true; the input reads as it did. -/
def expandFrontUptoRow : OpenClaim := { program := "ytnkinbfglenddaa", sum := "48a34ef8bb7394c3004e69a108600052f1bdd725cad6291582cf1e3a4751cb44", func := "pilcrow/pilcrowlaw14.ExpandFront", spec := "expandFront", apart := false, narrowed := true }
def ExpandFrontUptoSaid : Prop := expandFrontUptoRow.holds Try.pinned (OpenSpec.upto expandFrontSpec)

end Rows
end Go.Proofs.Ytnkinbfglenddaa
