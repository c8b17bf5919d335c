/- The windows: new ones, which one holds a number, the tables. -/
import Derived.Test.YtnkinbfglenddaaWin
namespace Go.Proofs.Ytnkinbfglenddaa.Win
open Go.RowKit
set_option linter.unusedVariables false
def hld (off c : Int) : Bool := decide (off ≤ c) && decide (c - off < 128)
def firsts : List Int := [128, 192, 1024, 1536, 2304, 12352, 12448, 65280]
def used0 : List Int := [7, 6, 5, 4, 3, 2, 1, 0]
theorem new_calls (w : World) : Calls Try.prog 25 #[] w fun e w' => e = .returned (.pointer (some ⟨w.heap.size, 0, none⟩)) ∧ WinAt w' w.heap.size firsts used0 ∧ Chg (fun _ => False) w w' ∧ w.heap.size < w'.heap.size := by
  go_enter Try.func25, Try.ntmps25
  go_wp2
  go_ret
  exact ⟨rfl, ⟨heap_alloc_new w _, rfl, rfl⟩, Chg.alloc _ _, by simp⟩
theorem list8 {l : List Int} (h : l.length = 8) : ∃ a b c d e f g i : Int, l = [a, b, c, d, e, f, g, i] := by
  match l, h with
  | [a, b, c, d, e, f, g, i], _ => exact ⟨a, b, c, d, e, f, g, i, rfl⟩
def findFrom (c : Int) : Nat → List Int → Int × Bool
  | _, [] => (0, false)
  | n, x :: l => if hld x c = true then ((n : Int), true) else findFrom c (n + 1) l
def wFind (o : List Int) (c : Int) : Int × Bool := findFrom c 0 o
def Rng (o : List Int) : Prop := ∀ x ∈ o, 0 ≤ x ∧ x ≤ 4294967295
theorem find_step (c : Int) (o : List Int) (k : Nat) (h : k < o.length) : findFrom c k (o.drop k) = if hld (o.getD k 0) c = true then ((k : Int), true) else findFrom c (k + 1) (o.drop (k + 1)) := by
  rw [List.drop_eq_getElem_cons h]
  simp only [findFrom]
  rw [List.getD_eq_getElem?_getD, List.getElem?_eq_getElem h]
  rfl
end Go.Proofs.Ytnkinbfglenddaa.Win
