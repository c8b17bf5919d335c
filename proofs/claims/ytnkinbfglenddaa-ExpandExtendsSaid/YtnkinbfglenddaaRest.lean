/- The reference's Rest: a way that goes on to an end. -/
import Derived.Test.YtnkinbfglenddaaRun
namespace Go.Proofs.Ytnkinbfglenddaa.Rst
open Go.RowKit Go.Proofs.Ytnkinbfglenddaa.Win Go.Proofs.Ytnkinbfglenddaa.Stp Go.Proofs.Ytnkinbfglenddaa.Mach
set_option linter.unusedVariables false
set_option linter.unusedSimpArgs false
def tryT : List ByteArray := [⟨#[]⟩, ⟨#[1]⟩, ⟨#[1, 1]⟩, ⟨#[14, 220, 0]⟩, ⟨#[220, 0]⟩, ⟨#[0, 14, 220, 0]⟩, ⟨#[0, 220, 0]⟩]
theorem tryT_byt : tryT.map byt = Sim.tries := by decide +kernel
theorem tryT_size : ∀ k, (tryT.getD k default).size ≤ 4 := by
  intro k
  match k with
  | 0 | 1 | 2 | 3 | 4 | 5 | 6 => decide
  | n + 7 => simp [tryT]; decide
theorem byt_app (a b : ByteArray) : byt (a ++ b) = byt a ++ byt b := by
  unfold byt
  rw [ByteArray.data_append, Array.toList_append, List.map_append]
/-- A text that goes to its end. -/
def Fine (l : List Int) : Prop := ∃ o b, Dec.Ran l o b ∧ b.err = 0
def RestRel (w1 : World) (s : ByteArray) (i : Value) (wr : World) : Prop :=
  ∃ k : Nat, k ≤ 7 ∧ i = .int .i64 k ∧ Below w1.heap.size w1 wr ∧ ∀ j, j < k → ¬ Fine (byt s ++ byt (tryT.getD j default))
def RestPost (w : World) (s : ByteArray) (e : Ending) (w' : World) : Prop :=
  ∃ more : ByteArray, e = .returned (.string more) ∧ more.size ≤ 4 ∧ (Fine (byt s ++ byt more) ∨ ∀ x ∈ Sim.tries, ¬ Fine (byt s ++ x)) ∧ Below w.heap.size w w'
set_option maxHeartbeats 8000000 in
theorem rest_calls (s : ByteArray) (w : World) (hs : s.size ≤ 10000) : Calls Try.prog 21 #[.string s] w (RestPost w s) := by
  go_enter Try.func21, Try.ntmps21
  go_wp2_with fail
  obtain ⟨w1, hw1⟩ : ∃ w1, w1 = w.alloc (.cells (tryT.map Value.string).toArray 9) := ⟨_, rfl⟩
  have hrow : w1.heap[w.heap.size]? = some (.cells (tryT.map Value.string).toArray 9 (0, 0)) := by rw [hw1]; exact heap_alloc_new _ _
  have hb1 : Below w.heap.size w w1 := by rw [hw1]; exact (Below.refl _ _).alloc (Nat.le_refl _) _
  have hw1' : w.alloc (.cells #[.string { data := #[] }, .string { data := #[1] }, .string { data := #[1, 1] }, .string { data := #[14, 220, 0] }, .string { data := #[220, 0] }, .string { data := #[0, 14, 220, 0] }, .string { data := #[0, 220, 0] }] 9) = w1 := hw1.symm
  rw [hw1']
  have HRow := Lib.hid hrow
  have HB1 := Lib.hid hb1
  clear hrow hb1 hw1 hw1'
  go_loopw [7] (fun i wr => RestRel w1 s i wr) (fun i _ => 7 - (intOf i).toNat)
  case atStart => exact ⟨0, by decide, rfl, Below.refl _ _, fun j hj => absurd hj (Nat.not_lt_zero _)⟩
  case round =>
    obtain ⟨k, hk, rfl, hB, hF⟩ := hrel
    have HB := Lib.hid hB
    have HF := Lib.hid hF
    by_cases hlt : k < 7
    · have hblk := (hB.block w.heap.size (Array.getElem?_eq_some_iff.1 HRow.out).1).trans HRow.out
      have hcell : wr.cell? ⟨w.heap.size, k, none⟩ = some (.string (tryT.getD k default)) := by
        rw [cell_of hblk]
        have : k < tryT.length := hlt
        simp [List.getD_eq_getElem?_getD, this]
      have hsz := tryT_size k
      have hF2 : ¬ Fine (byt s ++ byt (tryT.getD k default)) → ∀ j, j < k + 1 → ¬ Fine (byt s ++ byt (tryT.getD j default)) := fun h j hj => by
        rcases Nat.lt_or_ge j k with h1 | h1
        · exact hF j h1
        · obtain rfl : j = k := by omega
          exact h
      generalize tryT.getD k default = x at hcell hsz hF2
      have HF2 := Lib.hid hF2
      have hsz2 : (s ++ x).size ≤ 100000 := by rw [ByteArray.size_append]; omega
      have hbt := byt_app s x
      have hrun := fun w => run_calls (s ++ x) w hsz2
      have HRun := Lib.hid hrun
      have HBT := Lib.hid hbt
      clear hB hF hblk hF2 hsz2 hrun hbt
      go_wp2_with fail
      refine (HRun.out _).mono ?_
      rintro e w3 ⟨g, go, rb, v, t, rfl, hR, hS, hB3, h1, h2⟩
      have q5 := hR.f5
      have HS := Lib.hid hS
      have HB3 := Lib.hid hB3
      clear hR hS hB3 h1 h2
      have hfine : t.err = 0 ↔ Fine (byt s ++ byt x) := by
        rw [← HBT.out]
        obtain ⟨b, r1, r2, _⟩ := HS.out
        constructor
        · exact fun h => ⟨_, b, r1, r2.trans h⟩
        · rintro ⟨o, b', r4, r5⟩
          have := (Sim.ran_one r1 r4).2
          rw [← r2, this, r5]
      by_cases he : t.err = 0
      · have hbe : (t.err == 0) = true := by simp [he]
        have HFn := Lib.hid (hfine.1 he)
        clear hfine he
        go_wp2_with fail
        go_ret
        exact ⟨x, rfl, hsz, .inl HFn.out, Dec.tb HB1.out (Dec.tb HB.out HB3.out)⟩
      · have hbe : (t.err == 0) = false := by simp [he]
        have HFn := Lib.hid (fun h => he (hfine.2 h))
        clear hfine he
        go_wp2_with fail
        go_roundw
        case rel => exact ⟨k + 1, hlt, by go_num, Dec.tb HB.out HB3.out, HF2.out HFn.out⟩
        case measure => simp [intOf]; omega
    · obtain rfl : k = 7 := by omega
      clear hB hF hlt
      go_wp2_with fail
      go_ret
      refine ⟨⟨#[]⟩, rfl, by decide, .inr (fun x hx => ?_), Dec.tb HB1.out HB.out⟩
      rw [← tryT_byt, List.mem_map] at hx
      obtain ⟨y, hy, rfl⟩ := hx
      obtain ⟨j, hj, rfl⟩ := List.mem_iff_getElem.1 hy
      have := HF.out j hj
      rw [List.getD_eq_getElem?_getD, List.getElem?_eq_getElem hj] at this
      exact this
end Go.Proofs.Ytnkinbfglenddaa.Rst
