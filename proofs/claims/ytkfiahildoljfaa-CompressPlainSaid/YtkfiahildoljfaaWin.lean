/- The eight windows in memory: what each function of the package window does to them; every window, every number. -/
import Derived.Test.YtkfiahildoljfaaProg
import Derived.WalkKit
import Derived.Deep.QuietTactic
import Derived.BigQuiet
import Derived.Deep.DeepCutAuto
import Derived.Below
import Derived.KernelRfl
import Derived.Lib.Hide
import Derived.Laws.Bits64
import Derived.Laws.BitsLemmas
namespace Go.Proofs.Ytkfiahildoljfaa.Win
open Go.RowKit
set_option linter.unusedVariables false
/-- Of the old blocks those of S alone may have changed. -/
structure Chg (S : Nat → Prop) (w w' : World) : Prop where
  os : w'.os = w.os
  tape : w'.tape = w.tape
  output : w'.output = w.output
  size : w.heap.size ≤ w'.heap.size
  block : ∀ i, i < w.heap.size → ¬ S i → w'.heap[i]? = w.heap[i]?
theorem Chg.refl {S : Nat → Prop} (w : World) : Chg S w w := ⟨rfl, rfl, rfl, Nat.le_refl _, fun _ _ _ => rfl⟩
theorem Chg.trans {S : Nat → Prop} {w w1 w2 : World} (h : Chg S w w1) (k : Chg S w1 w2) : Chg S w w2 :=
  ⟨k.os.trans h.os, k.tape.trans h.tape, k.output.trans h.output, Nat.le_trans h.size k.size, fun i hi hs => (k.block i (Nat.lt_of_lt_of_le hi h.size) hs).trans (h.block i hi hs)⟩
theorem Chg.mono {S T : Nat → Prop} {w w' : World} (h : Chg S w w') (hs : ∀ i, S i → T i) : Chg T w w' := ⟨h.os, h.tape, h.output, h.size, fun i hi ht => h.block i hi (fun hh => ht (hs i hh))⟩
theorem Chg.set {S : Nat → Prop} (w : World) {g : Nat} (hg : S g) (j : Nat) (v : Value) : Chg S w (w.setCell ⟨g, j, none⟩ v) := by
  have b : Below 0 w (w.setCell ⟨g, j, none⟩ v) := (Below.refl 0 w).setCell (Nat.zero_le _) v
  exact ⟨b.os, b.tape, b.output, b.size, fun i hi hs => Below.heap_setCell w _ _ _ (by rintro rfl; exact hs hg)⟩
theorem Chg.alloc {S : Nat → Prop} (w : World) (o : Obj) : Chg S w (w.alloc o) := by
  have b := (Below.refl w.heap.size w).alloc (Nat.le_refl _) o
  exact ⟨b.os, b.tape, b.output, b.size, fun i hi _ => b.block i hi⟩
theorem Chg.drew {S : Nat → Prop} (w : World) : Chg S w w.drew := ⟨rfl, rfl, rfl, Nat.le_refl _, fun _ _ _ => rfl⟩
theorem Chg.drewN {S : Nat → Prop} (w : World) (n : Nat) : Chg S w (w.drewN n) := ⟨rfl, rfl, rfl, Nat.le_refl _, fun _ _ _ => rfl⟩
theorem Chg.of_below {S : Nat → Prop} {w w' : World} (h : Below w.heap.size w w') : Chg S w w' := ⟨h.os, h.tape, h.output, h.size, fun i hi _ => h.block i hi⟩
/-- What was there before w0 is as it was. -/
theorem Chg.below {S : Nat → Prop} {w0 w w' : World} (hb : Below w0.heap.size w0 w) (h : Chg S w w') (hs : ∀ i, S i → w0.heap.size ≤ i) : Below w0.heap.size w0 w' :=
  ⟨h.os.trans hb.os, h.tape.trans hb.tape, h.output.trans hb.output, Nat.le_trans hb.size h.size, fun i hi => (h.block i (Nat.lt_of_lt_of_le hi hb.size) (fun hh => by have := hs i hh; omega)).trans (hb.block i hi)⟩

/-- A block's cells, laid open. -/
theorem cell_of {w : World} {g : Nat} {cs : Array Value} {t : TypeId} (h : w.heap[g]? = some (.cells cs t (0, 0))) (j : Nat) : w.cell? ⟨g, j, none⟩ = cs[j]? := by
  simp [World.cell?, h]
theorem frozen_of {w : World} {g : Nat} {cs : Array Value} {t : TypeId} (h : w.heap[g]? = some (.cells cs t (0, 0))) (j : Nat) : w.frozen? ⟨g, j, none⟩ = false := by
  simp [World.frozen?, h]
def winCells (o u : List Int) : List Value := (o.map fun x => .int .u32 x) ++ (u.map fun x => .int .i64 x)
/-- The windows' block. -/
structure WinAt (w : World) (g : Nat) (o u : List Int) : Prop where
  blk : w.heap[g]? = some (.cells (winCells o u).toArray 70 (0, 0))
  lo : o.length = 8
  lu : u.length = 8
theorem WinAt.cellO {w : World} {g : Nat} {o u : List Int} (h : WinAt w g o u) (j : Nat) (hj : j < 8) : w.cell? ⟨g, j, none⟩ = some (.int .u32 (o.getD j 0)) := by
  have := h.lo
  rw [cell_of h.blk]
  simp [winCells, List.getElem?_append_left, List.getD_eq_getElem?_getD, this, hj]
theorem WinAt.cellU {w : World} {g : Nat} {o u : List Int} (h : WinAt w g o u) (j : Nat) (hj : j < 8) : w.cell? ⟨g, 8 + j, none⟩ = some (.int .i64 (u.getD j 0)) := by
  have := h.lo
  have := h.lu
  rw [cell_of h.blk]
  simp [winCells, List.getElem?_append_right, List.getD_eq_getElem?_getD, h.lo, h.lu, hj]
theorem WinAt.frozen {w : World} {g : Nat} {o u : List Int} (h : WinAt w g o u) (j : Nat) : w.frozen? ⟨g, j, none⟩ = false := frozen_of h.blk j
theorem WinAt.keep {w w' : World} {g : Nat} {o u : List Int} (h : WinAt w g o u) (he : w'.heap[g]? = w.heap[g]?) : WinAt w' g o u := ⟨he.trans h.blk, h.lo, h.lu⟩
theorem WinAt.lt {w : World} {g : Nat} {o u : List Int} (h : WinAt w g o u) : g < w.heap.size := (Array.getElem?_eq_some_iff.1 h.blk).1
theorem WinAt.setO {w : World} {g : Nat} {o u : List Int} (h : WinAt w g o u) (j : Nat) (hj : j < 8) (c : Int) : WinAt (w.setCell ⟨g, j, none⟩ (.int .u32 c)) g (o.set j c) u := by
  refine ⟨?_, by simp [h.lo], h.lu⟩
  rw [heap_setCell_same w g j _ _ _ h.blk]
  congr 2
  simp [winCells, h.lo, hj]
theorem WinAt.setU {w : World} {g : Nat} {o u : List Int} (h : WinAt w g o u) (j : Nat) (hj : j < 8) (c : Int) : WinAt (w.setCell ⟨g, 8 + j, none⟩ (.int .i64 c)) g o (u.set j c) := by
  refine ⟨?_, h.lo, by simp [h.lu]⟩
  rw [heap_setCell_same w g (8 + j) _ _ _ h.blk]
  congr 2
  simp [winCells, h.lo]

theorem is_calls (n : Int) (w : World) : Calls Try.prog 67 #[.int .i64 n] w fun e w' => e = .returned (.bool (decide (0 ≤ n) && decide (n < 8))) ∧ w = w' := by
  by_cases h0 : 0 ≤ n
  · by_cases h1 : n < 8
    · go_enter Try.func67, Try.ntmps67
      go_wp2
      go_ret
      exact ⟨by first | (simp; done) | (simp; omega), rfl⟩
    · go_enter Try.func67, Try.ntmps67
      go_wp2
      go_ret
      exact ⟨by first | (simp; done) | (simp; omega), rfl⟩
  · go_enter Try.func67, Try.ntmps67
    go_wp2
    go_ret
    exact ⟨by first | (simp; done) | (simp; omega), rfl⟩
def wAt (o : List Int) (n : Int) : Int := if 0 ≤ n ∧ n < 8 then o.getD n.toNat 0 else 0
theorem at_calls (g : Nat) (o u : List Int) (n : Int) (w : World) (h : WinAt w g o u) : Calls Try.prog 57 #[.pointer (some ⟨g, 0, none⟩), .int .i64 n] w fun e w' => e = .returned (.int .u32 (wAt o n)) ∧ w = w' := by
  by_cases hn : 0 ≤ n ∧ n < 8
  · have hc := h.cellO n.toNat (by omega)
    have he : wAt o n = o.getD n.toNat 0 := by unfold wAt; rw [if_pos hn]
    rw [he]
    obtain ⟨h0, h1⟩ := hn
    have hi := is_calls n
    rw [show (decide (0 ≤ n) && decide (n < 8)) = true from by simp [h0, h1]] at hi
    clear h he
    go_enter Try.func57, Try.ntmps57
    go_wp2_with (go_at_call 67; refine (hi _).mono ?_; rintro e w1 ⟨rfl, rfl⟩)
    go_ret
    exact ⟨rfl, rfl⟩
  · have he : wAt o n = 0 := by unfold wAt; rw [if_neg hn]
    rw [he]
    have hi := is_calls n
    rw [show (decide (0 ≤ n) && decide (n < 8)) = false from by simp; omega] at hi
    clear h he hn
    go_enter Try.func57, Try.ntmps57
    go_wp2_with (go_at_call 67; refine (hi _).mono ?_; rintro e w1 ⟨rfl, rfl⟩)
    go_ret
    exact ⟨rfl, rfl⟩
theorem oldest_calls (g : Nat) (o u : List Int) (w : World) (h : WinAt w g o u) : Calls Try.prog 62 #[.pointer (some ⟨g, 0, none⟩)] w fun e w' => e = .returned (.int .i64 (u.getD 0 0)) ∧ w = w' := by
  have hc := h.cellU 0 (by omega)
  clear h
  go_enter Try.func62, Try.ntmps62
  go_wp2
  go_ret
  exact ⟨rfl, rfl⟩
theorem set_calls (g : Nat) (o u : List Int) (n c : Int) (w : World) (h : WinAt w g o u) : Calls Try.prog 65 #[.pointer (some ⟨g, 0, none⟩), .int .i64 n, .int .u32 c] w fun e w' => e = .returned (.tuple #[]) ∧ WinAt w' g (if 0 ≤ n ∧ n < 8 then o.set n.toNat c else o) u ∧ Chg (· = g) w w' := by
  by_cases hn : 0 ≤ n ∧ n < 8
  · have hc := h.cellO n.toNat (by omega)
    have hf := h.frozen n.toNat
    have hW := h.setO n.toNat (by omega) c
    rw [if_pos hn]
    obtain ⟨h0, h1⟩ := hn
    have hi := is_calls n
    rw [show (decide (0 ≤ n) && decide (n < 8)) = true from by simp [h0, h1]] at hi
    have HW := Lib.hid hW
    clear h hW
    go_enter Try.func65, Try.ntmps65
    go_wp2_with (go_at_call 67; refine (hi _).mono ?_; rintro e w1 ⟨rfl, rfl⟩)
    go_end0
    exact ⟨rfl, HW.out, Chg.set (S := (· = g)) _ rfl _ _⟩
  · rw [if_neg hn]
    have hi := is_calls n
    rw [show (decide (0 ≤ n) && decide (n < 8)) = false from by simp; omega] at hi
    have HW := Lib.hid h
    clear h hn
    go_enter Try.func65, Try.ntmps65
    go_wp2_with (go_at_call 67; refine (hi _).mono ?_; rintro e w1 ⟨rfl, rfl⟩)
    go_end0
    exact ⟨rfl, HW.out, Chg.refl _⟩
end Go.Proofs.Ytkfiahildoljfaa.Win
