/- A window is touched: it goes behind the others. -/
import Derived.Test.YtkfiahildoljfaaWin2
import Derived.Laws.CopyRow
import Derived.Laws.IdiomCopy
namespace Go.Proofs.Ytkfiahildoljfaa.Win
open Go.RowKit
set_option linter.unusedVariables false
set_option linter.unusedSimpArgs false
set_option maxRecDepth 100000
def wTouch (u : List Int) (n : Int) : List Int := if 0 ≤ n ∧ n < 8 then u.erase n ++ [n] else u
theorem setRow_below (w : World) (g : Nat) (A B : Array Value) (t : TypeId) (hg : w.heap[g]? = some (.cells A t (0, 0))) : Chg (· = g) w (w.drew.setRow g B) ∧ (w.drew.setRow g B).heap[g]? = some (.cells B t (0, 0)) := by
  have hg' : w.drew.heap[g]? = some (.cells A t (0, 0)) := hg
  refine ⟨⟨rfl, rfl, rfl, ?_, fun i hi hs => ?_⟩, ?_⟩
  · show w.heap.size ≤ (w.heap.modify g _).size
    rw [Array.size_modify]; exact Nat.le_refl _
  · show (w.heap.modify g _)[i]? = w.heap[i]?
    rw [Array.getElem?_modify, if_neg (fun e => hs e.symm)]
  · exact setRow_heap w.drew g A B t (0, 0) hg'
theorem src_of {w : World} {g : Nat} {o u : List Int} (h : WinAt w g o u) (p : Nat) (hp : p ≤ 8) : ∀ (j : Nat) (v : Value), ((u.drop p).map fun x => Value.int .i64 x)[j]? = some v → w.drew.cell? ((⟨g, 8 + p, none⟩ : Addr).add j) = some v := by
  intro j v hj
  have hadd : (⟨g, 8 + p, none⟩ : Addr).add j = ⟨g, 8 + (p + j), none⟩ := by unfold Addr.add; split <;> simp_all [Nat.add_assoc]
  have hlt : p + j < 8 := by
    have := (List.getElem?_eq_some_iff.1 hj).1
    simp [h.lu] at this
    omega
  rw [hadd]
  show w.cell? _ = _
  rw [h.cellU (p + j) hlt]
  rw [List.getElem?_map, List.getElem?_drop] at hj
  rw [List.getD_eq_getElem?_getD]
  cases hq : u[p + j]? with
  | none => rw [hq] at hj; simp at hj
  | some x => rw [hq] at hj; simpa using hj
set_option maxHeartbeats 2000000 in
theorem touch_0 (g : Nat) (o : List Int) (n : Int) (b0 b1 b2 b3 b4 b5 b6 b7 : Int) (w : World) (h : WinAt w g o [b0, b1, b2, b3, b4, b5, b6, b7]) (hn : 0 ≤ n) (hn2 : n < 8)  (e0 : (b0 == n) = true) :
    Calls Try.prog 59 #[.pointer (some ⟨g, 0, none⟩), .int .i64 n] w fun e w' => e = .returned (.tuple #[]) ∧ WinAt w' g o [b1, b2, b3, b4, b5, b6, b7, n] ∧ Chg (· = g) w w' := by
  have hlo := h.lo
  have hne : ∀ z : Int, 0 ≤ z → z < 0 → (([b0, b1, b2, b3, b4, b5, b6, b7].getD z.toNat 0 : Int) == n) = false := by
    intro z hz0 hz1
    omega
  have HW := Lib.hid h
  have hf := h.frozen
  have hi := is_calls n
  rw [show (decide (0 ≤ n) && decide (n < 8)) = true from by simp; omega] at hi
  obtain ⟨W1, hW1⟩ : ∃ W1, W1 = w.drew.setRow g (winCells o [b1, b2, b3, b4, b5, b6, b7, b7]).toArray := ⟨_, rfl⟩
  obtain ⟨hch, hbl⟩ := setRow_below w g _ (winCells o [b1, b2, b3, b4, b5, b6, b7, b7]).toArray _ h.blk
  rw [← hW1] at hch hbl
  have hcp : (Builtin.copy_ #[51, 51] 3 #[.slice (some ⟨g, 8, none⟩) 8 8, .slice (some ⟨g, 9, none⟩) 7 7]).run Try.prog w.drew = .ok (.int .i64 7) W1 := by
    rw [hW1]
    refine (run_copy_row _ w.drew _ _ _ 3 g 8 8 8 ⟨g, 9, none⟩ 7 7 _ _ [.int .i64 b1, .int .i64 b2, .int .i64 b3, .int .i64 b4, .int .i64 b5, .int .i64 b6, .int .i64 b7] (by kernel_rfl) (by kernel_rfl) h.blk (by rfl) (src_of h 1 (by decide)) (by simp [winCells, hlo]) (by simp [Value.oneCell'])).trans ?_
    show Result.ok _ _ = _
    congr 2
    simp [winCells, List.take_append, List.drop_append, hlo, List.take_of_length_le, List.drop_of_length_le]
  have hW1' : WinAt W1 g o [b1, b2, b3, b4, b5, b6, b7, b7] := ⟨hbl, hlo, rfl⟩
  have hc15 : W1.cell? ⟨g, 15, none⟩ = some (.int .i64 b7) := hW1'.cellU 7 (by decide)
  have hf15 : W1.frozen? ⟨g, 15, none⟩ = false := hW1'.frozen 15
  have HW1 := Lib.hid hW1'
  have HCH := Lib.hid hch
  clear h hlo hne hW1 hch hbl hW1'
  go_enter Try.func59, Try.ntmps59
  go_wp2_with (go_at_call 67; refine (hi _).mono ?_; rintro e w1 ⟨rfl, rfl⟩)
  go_loop [4] (fun i => ∃ z : Int, i = .int .i64 z ∧ 0 ≤ z ∧ z ≤ 0) (fun i => 8 - (intOf i).toNat)
  case atStart => exact ⟨0, rfl, by decide, by decide⟩
  case round =>
    obtain ⟨z, rfl, hz0, hz1⟩ := hrel
    by_cases hlt : z < 0
    · exact absurd hlt (by omega)
    · obtain rfl : z = 0 := by omega
      have hcz : w.cell? ⟨g, 8, none⟩ = some (.int .i64 b0) := HW.out.cellU 0 (by decide)
      have hnz : (b0 == n) = true := by simpa using e0
      go_wp2
      go_region
      go_wp2
      go_end0
      refine ⟨rfl, ?_, HCH.out.trans (Chg.set (S := (· = g)) _ rfl _ _)⟩
      exact HW1.out.setU 7 (by decide) n
set_option maxHeartbeats 2000000 in
theorem touch_1 (g : Nat) (o : List Int) (n : Int) (b0 b1 b2 b3 b4 b5 b6 b7 : Int) (w : World) (h : WinAt w g o [b0, b1, b2, b3, b4, b5, b6, b7]) (hn : 0 ≤ n) (hn2 : n < 8) (e0 : (b0 == n) = false) (e1 : (b1 == n) = true) :
    Calls Try.prog 59 #[.pointer (some ⟨g, 0, none⟩), .int .i64 n] w fun e w' => e = .returned (.tuple #[]) ∧ WinAt w' g o [b0, b2, b3, b4, b5, b6, b7, n] ∧ Chg (· = g) w w' := by
  have hlo := h.lo
  have hne : ∀ z : Int, 0 ≤ z → z < 1 → (([b0, b1, b2, b3, b4, b5, b6, b7].getD z.toNat 0 : Int) == n) = false := by
    intro z hz0 hz1
    have hz : z = 0 := by omega
    rcases hz with rfl
    · exact e0
  have HNE := Lib.hid hne
  have HW := Lib.hid h
  have hf := h.frozen
  have hi := is_calls n
  rw [show (decide (0 ≤ n) && decide (n < 8)) = true from by simp; omega] at hi
  obtain ⟨W1, hW1⟩ : ∃ W1, W1 = w.drew.setRow g (winCells o [b0, b2, b3, b4, b5, b6, b7, b7]).toArray := ⟨_, rfl⟩
  obtain ⟨hch, hbl⟩ := setRow_below w g _ (winCells o [b0, b2, b3, b4, b5, b6, b7, b7]).toArray _ h.blk
  rw [← hW1] at hch hbl
  have hcp : (Builtin.copy_ #[51, 51] 3 #[.slice (some ⟨g, 9, none⟩) 7 7, .slice (some ⟨g, 10, none⟩) 6 6]).run Try.prog w.drew = .ok (.int .i64 6) W1 := by
    rw [hW1]
    refine (run_copy_row _ w.drew _ _ _ 3 g 9 7 7 ⟨g, 10, none⟩ 6 6 _ _ [.int .i64 b2, .int .i64 b3, .int .i64 b4, .int .i64 b5, .int .i64 b6, .int .i64 b7] (by kernel_rfl) (by kernel_rfl) h.blk (by rfl) (src_of h 2 (by decide)) (by simp [winCells, hlo]) (by simp [Value.oneCell'])).trans ?_
    show Result.ok _ _ = _
    congr 2
    simp [winCells, List.take_append, List.drop_append, hlo, List.take_of_length_le, List.drop_of_length_le]
  have hW1' : WinAt W1 g o [b0, b2, b3, b4, b5, b6, b7, b7] := ⟨hbl, hlo, rfl⟩
  have hc15 : W1.cell? ⟨g, 15, none⟩ = some (.int .i64 b7) := hW1'.cellU 7 (by decide)
  have hf15 : W1.frozen? ⟨g, 15, none⟩ = false := hW1'.frozen 15
  have HW1 := Lib.hid hW1'
  have HCH := Lib.hid hch
  clear h hlo hne hW1 hch hbl hW1'
  go_enter Try.func59, Try.ntmps59
  go_wp2_with (go_at_call 67; refine (hi _).mono ?_; rintro e w1 ⟨rfl, rfl⟩)
  go_loop [4] (fun i => ∃ z : Int, i = .int .i64 z ∧ 0 ≤ z ∧ z ≤ 1) (fun i => 8 - (intOf i).toNat)
  case atStart => exact ⟨0, rfl, by decide, by decide⟩
  case round =>
    obtain ⟨z, rfl, hz0, hz1⟩ := hrel
    by_cases hlt : z < 1
    · have hcz := HW.out.cellU z.toNat (by omega)
      have hnz := HNE.out z hz0 hlt
      generalize ([b0, b1, b2, b3, b4, b5, b6, b7].getD z.toNat 0 : Int) = bz at hcz hnz
      clear hcp hc15 hf15
      go_wp2
      exact ⟨⟨z + 1, by rfl, by omega, by omega⟩, by simp [intOf]; omega⟩
    · obtain rfl : z = 1 := by omega
      have hcz : w.cell? ⟨g, 9, none⟩ = some (.int .i64 b1) := HW.out.cellU 1 (by decide)
      have hnz : (b1 == n) = true := by simpa using e1
      go_wp2
      go_region
      go_wp2
      go_end0
      refine ⟨rfl, ?_, HCH.out.trans (Chg.set (S := (· = g)) _ rfl _ _)⟩
      exact HW1.out.setU 7 (by decide) n
set_option maxHeartbeats 2000000 in
theorem touch_2 (g : Nat) (o : List Int) (n : Int) (b0 b1 b2 b3 b4 b5 b6 b7 : Int) (w : World) (h : WinAt w g o [b0, b1, b2, b3, b4, b5, b6, b7]) (hn : 0 ≤ n) (hn2 : n < 8) (e0 : (b0 == n) = false) (e1 : (b1 == n) = false) (e2 : (b2 == n) = true) :
    Calls Try.prog 59 #[.pointer (some ⟨g, 0, none⟩), .int .i64 n] w fun e w' => e = .returned (.tuple #[]) ∧ WinAt w' g o [b0, b1, b3, b4, b5, b6, b7, n] ∧ Chg (· = g) w w' := by
  have hlo := h.lo
  have hne : ∀ z : Int, 0 ≤ z → z < 2 → (([b0, b1, b2, b3, b4, b5, b6, b7].getD z.toNat 0 : Int) == n) = false := by
    intro z hz0 hz1
    have hz : z = 0 ∨ z = 1 := by omega
    rcases hz with rfl | rfl
    · exact e0
    · exact e1
  have HNE := Lib.hid hne
  have HW := Lib.hid h
  have hf := h.frozen
  have hi := is_calls n
  rw [show (decide (0 ≤ n) && decide (n < 8)) = true from by simp; omega] at hi
  obtain ⟨W1, hW1⟩ : ∃ W1, W1 = w.drew.setRow g (winCells o [b0, b1, b3, b4, b5, b6, b7, b7]).toArray := ⟨_, rfl⟩
  obtain ⟨hch, hbl⟩ := setRow_below w g _ (winCells o [b0, b1, b3, b4, b5, b6, b7, b7]).toArray _ h.blk
  rw [← hW1] at hch hbl
  have hcp : (Builtin.copy_ #[51, 51] 3 #[.slice (some ⟨g, 10, none⟩) 6 6, .slice (some ⟨g, 11, none⟩) 5 5]).run Try.prog w.drew = .ok (.int .i64 5) W1 := by
    rw [hW1]
    refine (run_copy_row _ w.drew _ _ _ 3 g 10 6 6 ⟨g, 11, none⟩ 5 5 _ _ [.int .i64 b3, .int .i64 b4, .int .i64 b5, .int .i64 b6, .int .i64 b7] (by kernel_rfl) (by kernel_rfl) h.blk (by rfl) (src_of h 3 (by decide)) (by simp [winCells, hlo]) (by simp [Value.oneCell'])).trans ?_
    show Result.ok _ _ = _
    congr 2
    simp [winCells, List.take_append, List.drop_append, hlo, List.take_of_length_le, List.drop_of_length_le]
  have hW1' : WinAt W1 g o [b0, b1, b3, b4, b5, b6, b7, b7] := ⟨hbl, hlo, rfl⟩
  have hc15 : W1.cell? ⟨g, 15, none⟩ = some (.int .i64 b7) := hW1'.cellU 7 (by decide)
  have hf15 : W1.frozen? ⟨g, 15, none⟩ = false := hW1'.frozen 15
  have HW1 := Lib.hid hW1'
  have HCH := Lib.hid hch
  clear h hlo hne hW1 hch hbl hW1'
  go_enter Try.func59, Try.ntmps59
  go_wp2_with (go_at_call 67; refine (hi _).mono ?_; rintro e w1 ⟨rfl, rfl⟩)
  go_loop [4] (fun i => ∃ z : Int, i = .int .i64 z ∧ 0 ≤ z ∧ z ≤ 2) (fun i => 8 - (intOf i).toNat)
  case atStart => exact ⟨0, rfl, by decide, by decide⟩
  case round =>
    obtain ⟨z, rfl, hz0, hz1⟩ := hrel
    by_cases hlt : z < 2
    · have hcz := HW.out.cellU z.toNat (by omega)
      have hnz := HNE.out z hz0 hlt
      generalize ([b0, b1, b2, b3, b4, b5, b6, b7].getD z.toNat 0 : Int) = bz at hcz hnz
      clear hcp hc15 hf15
      go_wp2
      exact ⟨⟨z + 1, by rfl, by omega, by omega⟩, by simp [intOf]; omega⟩
    · obtain rfl : z = 2 := by omega
      have hcz : w.cell? ⟨g, 10, none⟩ = some (.int .i64 b2) := HW.out.cellU 2 (by decide)
      have hnz : (b2 == n) = true := by simpa using e2
      go_wp2
      go_region
      go_wp2
      go_end0
      refine ⟨rfl, ?_, HCH.out.trans (Chg.set (S := (· = g)) _ rfl _ _)⟩
      exact HW1.out.setU 7 (by decide) n
set_option maxHeartbeats 2000000 in
theorem touch_3 (g : Nat) (o : List Int) (n : Int) (b0 b1 b2 b3 b4 b5 b6 b7 : Int) (w : World) (h : WinAt w g o [b0, b1, b2, b3, b4, b5, b6, b7]) (hn : 0 ≤ n) (hn2 : n < 8) (e0 : (b0 == n) = false) (e1 : (b1 == n) = false) (e2 : (b2 == n) = false) (e3 : (b3 == n) = true) :
    Calls Try.prog 59 #[.pointer (some ⟨g, 0, none⟩), .int .i64 n] w fun e w' => e = .returned (.tuple #[]) ∧ WinAt w' g o [b0, b1, b2, b4, b5, b6, b7, n] ∧ Chg (· = g) w w' := by
  have hlo := h.lo
  have hne : ∀ z : Int, 0 ≤ z → z < 3 → (([b0, b1, b2, b3, b4, b5, b6, b7].getD z.toNat 0 : Int) == n) = false := by
    intro z hz0 hz1
    have hz : z = 0 ∨ z = 1 ∨ z = 2 := by omega
    rcases hz with rfl | rfl | rfl
    · exact e0
    · exact e1
    · exact e2
  have HNE := Lib.hid hne
  have HW := Lib.hid h
  have hf := h.frozen
  have hi := is_calls n
  rw [show (decide (0 ≤ n) && decide (n < 8)) = true from by simp; omega] at hi
  obtain ⟨W1, hW1⟩ : ∃ W1, W1 = w.drew.setRow g (winCells o [b0, b1, b2, b4, b5, b6, b7, b7]).toArray := ⟨_, rfl⟩
  obtain ⟨hch, hbl⟩ := setRow_below w g _ (winCells o [b0, b1, b2, b4, b5, b6, b7, b7]).toArray _ h.blk
  rw [← hW1] at hch hbl
  have hcp : (Builtin.copy_ #[51, 51] 3 #[.slice (some ⟨g, 11, none⟩) 5 5, .slice (some ⟨g, 12, none⟩) 4 4]).run Try.prog w.drew = .ok (.int .i64 4) W1 := by
    rw [hW1]
    refine (run_copy_row _ w.drew _ _ _ 3 g 11 5 5 ⟨g, 12, none⟩ 4 4 _ _ [.int .i64 b4, .int .i64 b5, .int .i64 b6, .int .i64 b7] (by kernel_rfl) (by kernel_rfl) h.blk (by rfl) (src_of h 4 (by decide)) (by simp [winCells, hlo]) (by simp [Value.oneCell'])).trans ?_
    show Result.ok _ _ = _
    congr 2
    simp [winCells, List.take_append, List.drop_append, hlo, List.take_of_length_le, List.drop_of_length_le]
  have hW1' : WinAt W1 g o [b0, b1, b2, b4, b5, b6, b7, b7] := ⟨hbl, hlo, rfl⟩
  have hc15 : W1.cell? ⟨g, 15, none⟩ = some (.int .i64 b7) := hW1'.cellU 7 (by decide)
  have hf15 : W1.frozen? ⟨g, 15, none⟩ = false := hW1'.frozen 15
  have HW1 := Lib.hid hW1'
  have HCH := Lib.hid hch
  clear h hlo hne hW1 hch hbl hW1'
  go_enter Try.func59, Try.ntmps59
  go_wp2_with (go_at_call 67; refine (hi _).mono ?_; rintro e w1 ⟨rfl, rfl⟩)
  go_loop [4] (fun i => ∃ z : Int, i = .int .i64 z ∧ 0 ≤ z ∧ z ≤ 3) (fun i => 8 - (intOf i).toNat)
  case atStart => exact ⟨0, rfl, by decide, by decide⟩
  case round =>
    obtain ⟨z, rfl, hz0, hz1⟩ := hrel
    by_cases hlt : z < 3
    · have hcz := HW.out.cellU z.toNat (by omega)
      have hnz := HNE.out z hz0 hlt
      generalize ([b0, b1, b2, b3, b4, b5, b6, b7].getD z.toNat 0 : Int) = bz at hcz hnz
      clear hcp hc15 hf15
      go_wp2
      exact ⟨⟨z + 1, by rfl, by omega, by omega⟩, by simp [intOf]; omega⟩
    · obtain rfl : z = 3 := by omega
      have hcz : w.cell? ⟨g, 11, none⟩ = some (.int .i64 b3) := HW.out.cellU 3 (by decide)
      have hnz : (b3 == n) = true := by simpa using e3
      go_wp2
      go_region
      go_wp2
      go_end0
      refine ⟨rfl, ?_, HCH.out.trans (Chg.set (S := (· = g)) _ rfl _ _)⟩
      exact HW1.out.setU 7 (by decide) n
set_option maxHeartbeats 2000000 in
theorem touch_4 (g : Nat) (o : List Int) (n : Int) (b0 b1 b2 b3 b4 b5 b6 b7 : Int) (w : World) (h : WinAt w g o [b0, b1, b2, b3, b4, b5, b6, b7]) (hn : 0 ≤ n) (hn2 : n < 8) (e0 : (b0 == n) = false) (e1 : (b1 == n) = false) (e2 : (b2 == n) = false) (e3 : (b3 == n) = false) (e4 : (b4 == n) = true) :
    Calls Try.prog 59 #[.pointer (some ⟨g, 0, none⟩), .int .i64 n] w fun e w' => e = .returned (.tuple #[]) ∧ WinAt w' g o [b0, b1, b2, b3, b5, b6, b7, n] ∧ Chg (· = g) w w' := by
  have hlo := h.lo
  have hne : ∀ z : Int, 0 ≤ z → z < 4 → (([b0, b1, b2, b3, b4, b5, b6, b7].getD z.toNat 0 : Int) == n) = false := by
    intro z hz0 hz1
    have hz : z = 0 ∨ z = 1 ∨ z = 2 ∨ z = 3 := by omega
    rcases hz with rfl | rfl | rfl | rfl
    · exact e0
    · exact e1
    · exact e2
    · exact e3
  have HNE := Lib.hid hne
  have HW := Lib.hid h
  have hf := h.frozen
  have hi := is_calls n
  rw [show (decide (0 ≤ n) && decide (n < 8)) = true from by simp; omega] at hi
  obtain ⟨W1, hW1⟩ : ∃ W1, W1 = w.drew.setRow g (winCells o [b0, b1, b2, b3, b5, b6, b7, b7]).toArray := ⟨_, rfl⟩
  obtain ⟨hch, hbl⟩ := setRow_below w g _ (winCells o [b0, b1, b2, b3, b5, b6, b7, b7]).toArray _ h.blk
  rw [← hW1] at hch hbl
  have hcp : (Builtin.copy_ #[51, 51] 3 #[.slice (some ⟨g, 12, none⟩) 4 4, .slice (some ⟨g, 13, none⟩) 3 3]).run Try.prog w.drew = .ok (.int .i64 3) W1 := by
    rw [hW1]
    refine (run_copy_row _ w.drew _ _ _ 3 g 12 4 4 ⟨g, 13, none⟩ 3 3 _ _ [.int .i64 b5, .int .i64 b6, .int .i64 b7] (by kernel_rfl) (by kernel_rfl) h.blk (by rfl) (src_of h 5 (by decide)) (by simp [winCells, hlo]) (by simp [Value.oneCell'])).trans ?_
    show Result.ok _ _ = _
    congr 2
    simp [winCells, List.take_append, List.drop_append, hlo, List.take_of_length_le, List.drop_of_length_le]
  have hW1' : WinAt W1 g o [b0, b1, b2, b3, b5, b6, b7, b7] := ⟨hbl, hlo, rfl⟩
  have hc15 : W1.cell? ⟨g, 15, none⟩ = some (.int .i64 b7) := hW1'.cellU 7 (by decide)
  have hf15 : W1.frozen? ⟨g, 15, none⟩ = false := hW1'.frozen 15
  have HW1 := Lib.hid hW1'
  have HCH := Lib.hid hch
  clear h hlo hne hW1 hch hbl hW1'
  go_enter Try.func59, Try.ntmps59
  go_wp2_with (go_at_call 67; refine (hi _).mono ?_; rintro e w1 ⟨rfl, rfl⟩)
  go_loop [4] (fun i => ∃ z : Int, i = .int .i64 z ∧ 0 ≤ z ∧ z ≤ 4) (fun i => 8 - (intOf i).toNat)
  case atStart => exact ⟨0, rfl, by decide, by decide⟩
  case round =>
    obtain ⟨z, rfl, hz0, hz1⟩ := hrel
    by_cases hlt : z < 4
    · have hcz := HW.out.cellU z.toNat (by omega)
      have hnz := HNE.out z hz0 hlt
      generalize ([b0, b1, b2, b3, b4, b5, b6, b7].getD z.toNat 0 : Int) = bz at hcz hnz
      clear hcp hc15 hf15
      go_wp2
      exact ⟨⟨z + 1, by rfl, by omega, by omega⟩, by simp [intOf]; omega⟩
    · obtain rfl : z = 4 := by omega
      have hcz : w.cell? ⟨g, 12, none⟩ = some (.int .i64 b4) := HW.out.cellU 4 (by decide)
      have hnz : (b4 == n) = true := by simpa using e4
      go_wp2
      go_region
      go_wp2
      go_end0
      refine ⟨rfl, ?_, HCH.out.trans (Chg.set (S := (· = g)) _ rfl _ _)⟩
      exact HW1.out.setU 7 (by decide) n
set_option maxHeartbeats 2000000 in
theorem touch_5 (g : Nat) (o : List Int) (n : Int) (b0 b1 b2 b3 b4 b5 b6 b7 : Int) (w : World) (h : WinAt w g o [b0, b1, b2, b3, b4, b5, b6, b7]) (hn : 0 ≤ n) (hn2 : n < 8) (e0 : (b0 == n) = false) (e1 : (b1 == n) = false) (e2 : (b2 == n) = false) (e3 : (b3 == n) = false) (e4 : (b4 == n) = false) (e5 : (b5 == n) = true) :
    Calls Try.prog 59 #[.pointer (some ⟨g, 0, none⟩), .int .i64 n] w fun e w' => e = .returned (.tuple #[]) ∧ WinAt w' g o [b0, b1, b2, b3, b4, b6, b7, n] ∧ Chg (· = g) w w' := by
  have hlo := h.lo
  have hne : ∀ z : Int, 0 ≤ z → z < 5 → (([b0, b1, b2, b3, b4, b5, b6, b7].getD z.toNat 0 : Int) == n) = false := by
    intro z hz0 hz1
    have hz : z = 0 ∨ z = 1 ∨ z = 2 ∨ z = 3 ∨ z = 4 := by omega
    rcases hz with rfl | rfl | rfl | rfl | rfl
    · exact e0
    · exact e1
    · exact e2
    · exact e3
    · exact e4
  have HNE := Lib.hid hne
  have HW := Lib.hid h
  have hf := h.frozen
  have hi := is_calls n
  rw [show (decide (0 ≤ n) && decide (n < 8)) = true from by simp; omega] at hi
  obtain ⟨W1, hW1⟩ : ∃ W1, W1 = w.drew.setRow g (winCells o [b0, b1, b2, b3, b4, b6, b7, b7]).toArray := ⟨_, rfl⟩
  obtain ⟨hch, hbl⟩ := setRow_below w g _ (winCells o [b0, b1, b2, b3, b4, b6, b7, b7]).toArray _ h.blk
  rw [← hW1] at hch hbl
  have hcp : (Builtin.copy_ #[51, 51] 3 #[.slice (some ⟨g, 13, none⟩) 3 3, .slice (some ⟨g, 14, none⟩) 2 2]).run Try.prog w.drew = .ok (.int .i64 2) W1 := by
    rw [hW1]
    refine (run_copy_row _ w.drew _ _ _ 3 g 13 3 3 ⟨g, 14, none⟩ 2 2 _ _ [.int .i64 b6, .int .i64 b7] (by kernel_rfl) (by kernel_rfl) h.blk (by rfl) (src_of h 6 (by decide)) (by simp [winCells, hlo]) (by simp [Value.oneCell'])).trans ?_
    show Result.ok _ _ = _
    congr 2
    simp [winCells, List.take_append, List.drop_append, hlo, List.take_of_length_le, List.drop_of_length_le]
  have hW1' : WinAt W1 g o [b0, b1, b2, b3, b4, b6, b7, b7] := ⟨hbl, hlo, rfl⟩
  have hc15 : W1.cell? ⟨g, 15, none⟩ = some (.int .i64 b7) := hW1'.cellU 7 (by decide)
  have hf15 : W1.frozen? ⟨g, 15, none⟩ = false := hW1'.frozen 15
  have HW1 := Lib.hid hW1'
  have HCH := Lib.hid hch
  clear h hlo hne hW1 hch hbl hW1'
  go_enter Try.func59, Try.ntmps59
  go_wp2_with (go_at_call 67; refine (hi _).mono ?_; rintro e w1 ⟨rfl, rfl⟩)
  go_loop [4] (fun i => ∃ z : Int, i = .int .i64 z ∧ 0 ≤ z ∧ z ≤ 5) (fun i => 8 - (intOf i).toNat)
  case atStart => exact ⟨0, rfl, by decide, by decide⟩
  case round =>
    obtain ⟨z, rfl, hz0, hz1⟩ := hrel
    by_cases hlt : z < 5
    · have hcz := HW.out.cellU z.toNat (by omega)
      have hnz := HNE.out z hz0 hlt
      generalize ([b0, b1, b2, b3, b4, b5, b6, b7].getD z.toNat 0 : Int) = bz at hcz hnz
      clear hcp hc15 hf15
      go_wp2
      exact ⟨⟨z + 1, by rfl, by omega, by omega⟩, by simp [intOf]; omega⟩
    · obtain rfl : z = 5 := by omega
      have hcz : w.cell? ⟨g, 13, none⟩ = some (.int .i64 b5) := HW.out.cellU 5 (by decide)
      have hnz : (b5 == n) = true := by simpa using e5
      go_wp2
      go_region
      go_wp2
      go_end0
      refine ⟨rfl, ?_, HCH.out.trans (Chg.set (S := (· = g)) _ rfl _ _)⟩
      exact HW1.out.setU 7 (by decide) n
set_option maxHeartbeats 2000000 in
theorem touch_6 (g : Nat) (o : List Int) (n : Int) (b0 b1 b2 b3 b4 b5 b6 b7 : Int) (w : World) (h : WinAt w g o [b0, b1, b2, b3, b4, b5, b6, b7]) (hn : 0 ≤ n) (hn2 : n < 8) (e0 : (b0 == n) = false) (e1 : (b1 == n) = false) (e2 : (b2 == n) = false) (e3 : (b3 == n) = false) (e4 : (b4 == n) = false) (e5 : (b5 == n) = false) (e6 : (b6 == n) = true) :
    Calls Try.prog 59 #[.pointer (some ⟨g, 0, none⟩), .int .i64 n] w fun e w' => e = .returned (.tuple #[]) ∧ WinAt w' g o [b0, b1, b2, b3, b4, b5, b7, n] ∧ Chg (· = g) w w' := by
  have hlo := h.lo
  have hne : ∀ z : Int, 0 ≤ z → z < 6 → (([b0, b1, b2, b3, b4, b5, b6, b7].getD z.toNat 0 : Int) == n) = false := by
    intro z hz0 hz1
    have hz : z = 0 ∨ z = 1 ∨ z = 2 ∨ z = 3 ∨ z = 4 ∨ z = 5 := by omega
    rcases hz with rfl | rfl | rfl | rfl | rfl | rfl
    · exact e0
    · exact e1
    · exact e2
    · exact e3
    · exact e4
    · exact e5
  have HNE := Lib.hid hne
  have HW := Lib.hid h
  have hf := h.frozen
  have hi := is_calls n
  rw [show (decide (0 ≤ n) && decide (n < 8)) = true from by simp; omega] at hi
  obtain ⟨W1, hW1⟩ : ∃ W1, W1 = w.drew.setRow g (winCells o [b0, b1, b2, b3, b4, b5, b7, b7]).toArray := ⟨_, rfl⟩
  obtain ⟨hch, hbl⟩ := setRow_below w g _ (winCells o [b0, b1, b2, b3, b4, b5, b7, b7]).toArray _ h.blk
  rw [← hW1] at hch hbl
  have hcp : (Builtin.copy_ #[51, 51] 3 #[.slice (some ⟨g, 14, none⟩) 2 2, .slice (some ⟨g, 15, none⟩) 1 1]).run Try.prog w.drew = .ok (.int .i64 1) W1 := by
    rw [hW1]
    refine (run_copy_row _ w.drew _ _ _ 3 g 14 2 2 ⟨g, 15, none⟩ 1 1 _ _ [.int .i64 b7] (by kernel_rfl) (by kernel_rfl) h.blk (by rfl) (src_of h 7 (by decide)) (by simp [winCells, hlo]) (by simp [Value.oneCell'])).trans ?_
    show Result.ok _ _ = _
    congr 2
    simp [winCells, List.take_append, List.drop_append, hlo, List.take_of_length_le, List.drop_of_length_le]
  have hW1' : WinAt W1 g o [b0, b1, b2, b3, b4, b5, b7, b7] := ⟨hbl, hlo, rfl⟩
  have hc15 : W1.cell? ⟨g, 15, none⟩ = some (.int .i64 b7) := hW1'.cellU 7 (by decide)
  have hf15 : W1.frozen? ⟨g, 15, none⟩ = false := hW1'.frozen 15
  have HW1 := Lib.hid hW1'
  have HCH := Lib.hid hch
  clear h hlo hne hW1 hch hbl hW1'
  go_enter Try.func59, Try.ntmps59
  go_wp2_with (go_at_call 67; refine (hi _).mono ?_; rintro e w1 ⟨rfl, rfl⟩)
  go_loop [4] (fun i => ∃ z : Int, i = .int .i64 z ∧ 0 ≤ z ∧ z ≤ 6) (fun i => 8 - (intOf i).toNat)
  case atStart => exact ⟨0, rfl, by decide, by decide⟩
  case round =>
    obtain ⟨z, rfl, hz0, hz1⟩ := hrel
    by_cases hlt : z < 6
    · have hcz := HW.out.cellU z.toNat (by omega)
      have hnz := HNE.out z hz0 hlt
      generalize ([b0, b1, b2, b3, b4, b5, b6, b7].getD z.toNat 0 : Int) = bz at hcz hnz
      clear hcp hc15 hf15
      go_wp2
      exact ⟨⟨z + 1, by rfl, by omega, by omega⟩, by simp [intOf]; omega⟩
    · obtain rfl : z = 6 := by omega
      have hcz : w.cell? ⟨g, 14, none⟩ = some (.int .i64 b6) := HW.out.cellU 6 (by decide)
      have hnz : (b6 == n) = true := by simpa using e6
      go_wp2
      go_region
      go_wp2
      go_end0
      refine ⟨rfl, ?_, HCH.out.trans (Chg.set (S := (· = g)) _ rfl _ _)⟩
      exact HW1.out.setU 7 (by decide) n
set_option maxHeartbeats 2000000 in
theorem touch_7 (g : Nat) (o : List Int) (n : Int) (b0 b1 b2 b3 b4 b5 b6 b7 : Int) (w : World) (h : WinAt w g o [b0, b1, b2, b3, b4, b5, b6, b7]) (hn : 0 ≤ n) (hn2 : n < 8) (e0 : (b0 == n) = false) (e1 : (b1 == n) = false) (e2 : (b2 == n) = false) (e3 : (b3 == n) = false) (e4 : (b4 == n) = false) (e5 : (b5 == n) = false) (e6 : (b6 == n) = false) (e7 : (b7 == n) = true) :
    Calls Try.prog 59 #[.pointer (some ⟨g, 0, none⟩), .int .i64 n] w fun e w' => e = .returned (.tuple #[]) ∧ WinAt w' g o [b0, b1, b2, b3, b4, b5, b6, n] ∧ Chg (· = g) w w' := by
  have hlo := h.lo
  have hne : ∀ z : Int, 0 ≤ z → z < 7 → (([b0, b1, b2, b3, b4, b5, b6, b7].getD z.toNat 0 : Int) == n) = false := by
    intro z hz0 hz1
    have hz : z = 0 ∨ z = 1 ∨ z = 2 ∨ z = 3 ∨ z = 4 ∨ z = 5 ∨ z = 6 := by omega
    rcases hz with rfl | rfl | rfl | rfl | rfl | rfl | rfl
    · exact e0
    · exact e1
    · exact e2
    · exact e3
    · exact e4
    · exact e5
    · exact e6
  have HNE := Lib.hid hne
  have HW := Lib.hid h
  have hf := h.frozen
  have hi := is_calls n
  rw [show (decide (0 ≤ n) && decide (n < 8)) = true from by simp; omega] at hi
  obtain ⟨W1, hW1⟩ : ∃ W1, W1 = w.drew.setRow g (winCells o [b0, b1, b2, b3, b4, b5, b6, b7]).toArray := ⟨_, rfl⟩
  obtain ⟨hch, hbl⟩ := setRow_below w g _ (winCells o [b0, b1, b2, b3, b4, b5, b6, b7]).toArray _ h.blk
  rw [← hW1] at hch hbl
  have hcp : (Builtin.copy_ #[51, 51] 3 #[.slice (some ⟨g, 15, none⟩) 1 1, .slice (some ⟨g, 8, none⟩) 0 0]).run Try.prog w.drew = .ok (.int .i64 0) W1 := by
    rw [hW1]
    rw [setRow_self w.drew g _ _ _ h.blk]
    exact run_copy_none w.drew _ _ _ 3 _ _ _ _ _ _ (by kernel_rfl) (by kernel_rfl) (by rfl)
  have hW1' : WinAt W1 g o [b0, b1, b2, b3, b4, b5, b6, b7] := ⟨hbl, hlo, rfl⟩
  have hc15 : W1.cell? ⟨g, 15, none⟩ = some (.int .i64 b7) := hW1'.cellU 7 (by decide)
  have hf15 : W1.frozen? ⟨g, 15, none⟩ = false := hW1'.frozen 15
  have HW1 := Lib.hid hW1'
  have HCH := Lib.hid hch
  clear h hlo hne hW1 hch hbl hW1'
  go_enter Try.func59, Try.ntmps59
  go_wp2_with (go_at_call 67; refine (hi _).mono ?_; rintro e w1 ⟨rfl, rfl⟩)
  go_loop [4] (fun i => ∃ z : Int, i = .int .i64 z ∧ 0 ≤ z ∧ z ≤ 7) (fun i => 8 - (intOf i).toNat)
  case atStart => exact ⟨0, rfl, by decide, by decide⟩
  case round =>
    obtain ⟨z, rfl, hz0, hz1⟩ := hrel
    by_cases hlt : z < 7
    · have hcz := HW.out.cellU z.toNat (by omega)
      have hnz := HNE.out z hz0 hlt
      generalize ([b0, b1, b2, b3, b4, b5, b6, b7].getD z.toNat 0 : Int) = bz at hcz hnz
      clear hcp hc15 hf15
      go_wp2
      exact ⟨⟨z + 1, by rfl, by omega, by omega⟩, by simp [intOf]; omega⟩
    · obtain rfl : z = 7 := by omega
      have hcz : w.cell? ⟨g, 15, none⟩ = some (.int .i64 b7) := HW.out.cellU 7 (by decide)
      have hnz : (b7 == n) = true := by simpa using e7
      go_wp2
      go_region
      go_wp2
      go_end0
      refine ⟨rfl, ?_, HCH.out.trans (Chg.set (S := (· = g)) _ rfl _ _)⟩
      exact HW1.out.setU 7 (by decide) n
theorem touch_calls (g : Nat) (o u : List Int) (n : Int) (w : World) (h : WinAt w g o u) (hm : 0 ≤ n → n < 8 → n ∈ u) :
    Calls Try.prog 59 #[.pointer (some ⟨g, 0, none⟩), .int .i64 n] w fun e w' => e = .returned (.tuple #[]) ∧ WinAt w' g o (wTouch u n) ∧ Chg (· = g) w w' := by
  by_cases hn' : 0 ≤ n ∧ n < 8
  rotate_left
  · have he : wTouch u n = u := by unfold wTouch; rw [if_neg hn']
    rw [he]
    have hi := is_calls n
    rw [show (decide (0 ≤ n) && decide (n < 8)) = false from by simp; omega] at hi
    have HW := Lib.hid h
    clear h hn' he hm
    go_enter Try.func59, Try.ntmps59
    go_wp2_with (go_at_call 67; refine (hi _).mono ?_; rintro e w1 ⟨rfl, rfl⟩)
    exact bodyPost_ret (v := .tuple #[]) (by simp [results, Try.results59, go_sem]) rfl ⟨rfl, HW.out, Chg.refl _⟩
  obtain ⟨hn, hn2⟩ := hn'
  have hmem := hm hn hn2
  obtain ⟨b0, b1, b2, b3, b4, b5, b6, b7, rfl⟩ := list8 h.lu
  by_cases e0 : b0 = n
  · have he : wTouch [b0, b1, b2, b3, b4, b5, b6, b7] n = [b1, b2, b3, b4, b5, b6, b7, n] := by
      unfold wTouch
      rw [if_pos ⟨hn, hn2⟩]
      simp [List.erase_cons, e0]
    rw [he]
    exact touch_0 g o n b0 b1 b2 b3 b4 b5 b6 b7 w h hn hn2  (beq_iff_eq.2 e0)
  by_cases e1 : b1 = n
  · have he : wTouch [b0, b1, b2, b3, b4, b5, b6, b7] n = [b0, b2, b3, b4, b5, b6, b7, n] := by
      unfold wTouch
      rw [if_pos ⟨hn, hn2⟩]
      simp [List.erase_cons, e0, e1]
    rw [he]
    exact touch_1 g o n b0 b1 b2 b3 b4 b5 b6 b7 w h hn hn2 (beq_eq_false_iff_ne.2 e0) (beq_iff_eq.2 e1)
  by_cases e2 : b2 = n
  · have he : wTouch [b0, b1, b2, b3, b4, b5, b6, b7] n = [b0, b1, b3, b4, b5, b6, b7, n] := by
      unfold wTouch
      rw [if_pos ⟨hn, hn2⟩]
      simp [List.erase_cons, e0, e1, e2]
    rw [he]
    exact touch_2 g o n b0 b1 b2 b3 b4 b5 b6 b7 w h hn hn2 (beq_eq_false_iff_ne.2 e0) (beq_eq_false_iff_ne.2 e1) (beq_iff_eq.2 e2)
  by_cases e3 : b3 = n
  · have he : wTouch [b0, b1, b2, b3, b4, b5, b6, b7] n = [b0, b1, b2, b4, b5, b6, b7, n] := by
      unfold wTouch
      rw [if_pos ⟨hn, hn2⟩]
      simp [List.erase_cons, e0, e1, e2, e3]
    rw [he]
    exact touch_3 g o n b0 b1 b2 b3 b4 b5 b6 b7 w h hn hn2 (beq_eq_false_iff_ne.2 e0) (beq_eq_false_iff_ne.2 e1) (beq_eq_false_iff_ne.2 e2) (beq_iff_eq.2 e3)
  by_cases e4 : b4 = n
  · have he : wTouch [b0, b1, b2, b3, b4, b5, b6, b7] n = [b0, b1, b2, b3, b5, b6, b7, n] := by
      unfold wTouch
      rw [if_pos ⟨hn, hn2⟩]
      simp [List.erase_cons, e0, e1, e2, e3, e4]
    rw [he]
    exact touch_4 g o n b0 b1 b2 b3 b4 b5 b6 b7 w h hn hn2 (beq_eq_false_iff_ne.2 e0) (beq_eq_false_iff_ne.2 e1) (beq_eq_false_iff_ne.2 e2) (beq_eq_false_iff_ne.2 e3) (beq_iff_eq.2 e4)
  by_cases e5 : b5 = n
  · have he : wTouch [b0, b1, b2, b3, b4, b5, b6, b7] n = [b0, b1, b2, b3, b4, b6, b7, n] := by
      unfold wTouch
      rw [if_pos ⟨hn, hn2⟩]
      simp [List.erase_cons, e0, e1, e2, e3, e4, e5]
    rw [he]
    exact touch_5 g o n b0 b1 b2 b3 b4 b5 b6 b7 w h hn hn2 (beq_eq_false_iff_ne.2 e0) (beq_eq_false_iff_ne.2 e1) (beq_eq_false_iff_ne.2 e2) (beq_eq_false_iff_ne.2 e3) (beq_eq_false_iff_ne.2 e4) (beq_iff_eq.2 e5)
  by_cases e6 : b6 = n
  · have he : wTouch [b0, b1, b2, b3, b4, b5, b6, b7] n = [b0, b1, b2, b3, b4, b5, b7, n] := by
      unfold wTouch
      rw [if_pos ⟨hn, hn2⟩]
      simp [List.erase_cons, e0, e1, e2, e3, e4, e5, e6]
    rw [he]
    exact touch_6 g o n b0 b1 b2 b3 b4 b5 b6 b7 w h hn hn2 (beq_eq_false_iff_ne.2 e0) (beq_eq_false_iff_ne.2 e1) (beq_eq_false_iff_ne.2 e2) (beq_eq_false_iff_ne.2 e3) (beq_eq_false_iff_ne.2 e4) (beq_eq_false_iff_ne.2 e5) (beq_iff_eq.2 e6)
  by_cases e7 : b7 = n
  · have he : wTouch [b0, b1, b2, b3, b4, b5, b6, b7] n = [b0, b1, b2, b3, b4, b5, b6, n] := by
      unfold wTouch
      rw [if_pos ⟨hn, hn2⟩]
      simp [List.erase_cons, e0, e1, e2, e3, e4, e5, e6, e7]
    rw [he]
    exact touch_7 g o n b0 b1 b2 b3 b4 b5 b6 b7 w h hn hn2 (beq_eq_false_iff_ne.2 e0) (beq_eq_false_iff_ne.2 e1) (beq_eq_false_iff_ne.2 e2) (beq_eq_false_iff_ne.2 e3) (beq_eq_false_iff_ne.2 e4) (beq_eq_false_iff_ne.2 e5) (beq_eq_false_iff_ne.2 e6) (beq_iff_eq.2 e7)
  exfalso
  simp at hmem
  omega
end Go.Proofs.Ytkfiahildoljfaa.Win
