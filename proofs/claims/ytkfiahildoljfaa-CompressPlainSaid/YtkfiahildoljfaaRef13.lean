/- The reference's windows' tables: each function's answer, for every number. -/
import Derived.Test.YtkfiahildoljfaaWin4
import Derived.OwnWalk
import Derived.Deep.AppendLies
namespace Go.Proofs.Ytkfiahildoljfaa.Win
open Go.RowKit
set_option linter.unusedVariables false
set_option linter.unusedSimpArgs false
theorem roffset_calls (x : Int) (w : World) (h0 : 0 ≤ x) (h1 : x ≤ 255) : Calls Try.prog 66 #[.int .i64 x] w fun e w' => e = .returned (.tuple #[.int .u32 (wOffset x).1, .bool (wOffset x).2]) ∧ Below w.heap.size w w' := by
  unfold wOffset
  by_cases a1 : 1 ≤ x
  · by_cases a2 : x ≤ 103
    · have e : x * 128 = 128 * x := by omega
      rw [if_neg (by omega), if_pos a2, e]
      clear e
      go_enter Try.func66, Try.ntmps66
      go_wp2
      go_ret2
      exact ⟨rfl, Below.refl _ _⟩
    · by_cases a3 : 104 ≤ x
      · by_cases a4 : x ≤ 167
        · have e : x * 128 + 44032 = 128 * x + 44032 := by omega
          rw [if_neg (by omega), if_neg a2, if_pos a4, e]
          clear e
          go_enter Try.func66, Try.ntmps66
          go_wp2
          go_ret2
          exact ⟨rfl, Below.refl _ _⟩
        · by_cases a5 : 249 ≤ x
          · have hs : specials.getD (x - 249).toNat 0 = specials.getD (x - 249).toNat 0 := rfl
            rw [if_neg (by omega), if_neg a2, if_neg a4]
            have hx : x = 249 ∨ x = 250 ∨ x = 251 ∨ x = 252 ∨ x = 253 ∨ x = 254 ∨ x = 255 := by omega
            clear hs a1 a2 a3 a4 a5 h0 h1
            rcases hx with rfl | rfl | rfl | rfl | rfl | rfl | rfl
            all_goals
              go_enter Try.func66, Try.ntmps66
              go_wp2
              go_ret2
              exact ⟨rfl, (Below.refl _ _).alloc (Nat.le_refl _) _⟩
          · rw [if_pos (by omega)]
            go_enter Try.func66, Try.ntmps66
            go_wp2
            go_ret2
            exact ⟨rfl, Below.refl _ _⟩
      · exact absurd a3 (by omega)
  · rw [if_pos (by omega)]
    go_enter Try.func66, Try.ntmps66
    go_wp2
    go_ret2
    exact ⟨rfl, Below.refl _ _⟩
theorem below_drewN {B : Nat} {w W : World} (h : Below B w W) (n : Nat) : Below B w (W.drewN n) := ⟨h.os, h.tape, h.output, h.size, h.block⟩
/-- A row of numbers that lies in a block of its own. -/
structure RowAt (w : World) (g : Nat) (k : IntKind) (t : TypeId) (xs : List Int) : Prop where
  blk : w.heap[g]? = some (.cells (xs.map fun x => Value.int k x).toArray t (0, 0))
theorem RowAt.cell {w : World} {g : Nat} {k : IntKind} {t : TypeId} {xs : List Int} (h : RowAt w g k t xs) (j : Nat) (hj : j < xs.length) : w.cell? ⟨g, j, none⟩ = some (.int k (xs.getD j 0)) := by
  rw [cell_of h.blk]
  simp [List.getD_eq_getElem?_getD, hj]
theorem RowAt.frozen {w : World} {g : Nat} {k : IntKind} {t : TypeId} {xs : List Int} (h : RowAt w g k t xs) (j : Nat) : w.frozen? ⟨g, j, none⟩ = false := frozen_of h.blk j
theorem RowAt.keep {w w' : World} {g : Nat} {k : IntKind} {t : TypeId} {xs : List Int} (h : RowAt w g k t xs) (he : w'.heap[g]? = w.heap[g]?) : RowAt w' g k t xs := ⟨he.trans h.blk⟩
theorem RowAt.lt {w : World} {g : Nat} {k : IntKind} {t : TypeId} {xs : List Int} (h : RowAt w g k t xs) : g < w.heap.size := (Array.getElem?_eq_some_iff.1 h.blk).1
theorem RowAt.set {w : World} {g : Nat} {k : IntKind} {t : TypeId} {xs : List Int} (h : RowAt w g k t xs) (j : Nat) (c : Int) : RowAt (w.setCell ⟨g, j, none⟩ (.int k c)) g k t (xs.set j c) := by
  refine ⟨?_⟩
  rw [heap_setCell_same w g j _ _ _ h.blk]
  congr 2
  simp
theorem rstatics_calls (w : World) : Calls Try.prog 52 #[] w fun e w' => e = .returned (.slice (some ⟨w.heap.size, 0, none⟩) 8 8) ∧ RowAt w' w.heap.size .u32 35 statics ∧ Below w.heap.size w w' ∧ w.heap.size < w'.heap.size := by
  go_enter Try.func52, Try.ntmps52
  go_wp2
  go_ret
  exact ⟨rfl, ⟨heap_alloc_new w _⟩, (Below.refl _ _).alloc (Nat.le_refl _) _, by simp⟩
theorem rfirsts_calls (w : World) : Calls Try.prog 35 #[] w fun e w' => e = .returned (.slice (some ⟨w.heap.size, 0, none⟩) 8 8) ∧ RowAt w' w.heap.size .u32 35 firsts ∧ Below w.heap.size w w' ∧ w.heap.size < w'.heap.size := by
  go_enter Try.func35, Try.ntmps35
  go_wp2
  go_ret
  exact ⟨rfl, ⟨heap_alloc_new w _⟩, (Below.refl _ _).alloc (Nat.le_refl _) _, by simp⟩
end Go.Proofs.Ytkfiahildoljfaa.Win
