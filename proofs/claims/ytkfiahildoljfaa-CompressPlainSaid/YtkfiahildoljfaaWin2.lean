/- The windows: new ones, which one holds a number, the tables. -/
import Derived.Test.YtkfiahildoljfaaWin
namespace Go.Proofs.Ytkfiahildoljfaa.Win
open Go.RowKit
set_option linter.unusedVariables false
def hld (off c : Int) : Bool := decide (off ≤ c) && decide (c - off < 128)
theorem holds_calls (off c : Int) (w : World) (h0 : 0 ≤ off) (h1 : off ≤ 4294967295) (h2 : 0 ≤ c) (h3 : c ≤ 4294967295) : Calls Try.prog 56 #[.int .u32 off, .int .u32 c] w fun e w' => e = .returned (.bool (hld off c)) ∧ w = w' := by
  by_cases ha : off ≤ c
  · have hb : 0 ≤ c - off := by omega
    go_enter Try.func56, Try.ntmps56
    go_wp2
    go_ret
    exact ⟨by unfold hld; simp [ha], rfl⟩
  · go_enter Try.func56, Try.ntmps56
    go_wp2
    go_ret
    exact ⟨by unfold hld; simp; omega, rfl⟩
def firsts : List Int := [128, 192, 1024, 1536, 2304, 12352, 12448, 65280]
def used0 : List Int := [7, 6, 5, 4, 3, 2, 1, 0]
theorem new_calls (w : World) : Calls Try.prog 22 #[] w fun e w' => e = .returned (.pointer (some ⟨w.heap.size, 0, none⟩)) ∧ WinAt w' w.heap.size firsts used0 ∧ Chg (fun _ => False) w w' ∧ w.heap.size < w'.heap.size := by
  go_enter Try.func22, Try.ntmps22
  go_wp2
  go_ret
  exact ⟨rfl, ⟨heap_alloc_new w _, rfl, rfl⟩, Chg.alloc _ _, by simp⟩
theorem list8 {l : List Int} (h : l.length = 8) : ∃ a b c d e f g i : Int, l = [a, b, c, d, e, f, g, i] := by
  match l, h with
  | [a, b, c, d, e, f, g, i], _ => exact ⟨a, b, c, d, e, f, g, i, rfl⟩
def findFrom (c : Int) : Nat → List Int → Int × Bool
  | _, [] => (0, false)
  | n, x :: l => if hld x c = true then ((n : Int), true) else findFrom c (n + 1) l
def wFind (o : List Int) (c : Int) : Int × Bool := findFrom c 0 o
def Rng (o : List Int) : Prop := ∀ x ∈ o, 0 ≤ x ∧ x ≤ 4294967295
theorem find_step (c : Int) (o : List Int) (k : Nat) (h : k < o.length) : findFrom c k (o.drop k) = if hld (o.getD k 0) c = true then ((k : Int), true) else findFrom c (k + 1) (o.drop (k + 1)) := by
  rw [List.drop_eq_getElem_cons h]
  simp only [findFrom]
  rw [List.getD_eq_getElem?_getD, List.getElem?_eq_getElem h]
  rfl
set_option maxHeartbeats 1000000 in
theorem find_calls (g : Nat) (o u : List Int) (c : Int) (w : World) (h : WinAt w g o u) (hr : Rng o) (h2 : 0 ≤ c) (h3 : c ≤ 4294967295) : Calls Try.prog 45 #[.pointer (some ⟨g, 0, none⟩), .int .u32 c] w fun e w' => e = .returned (.tuple #[.int .i64 (wFind o c).1, .bool (wFind o c).2]) ∧ w = w' := by
  obtain ⟨a0, a1, a2, a3, a4, a5, a6, a7, rfl⟩ := list8 h.lo
  have c0 := h.cellO 0 (by decide)
  have c1 := h.cellO 1 (by decide)
  have c2 := h.cellO 2 (by decide)
  have c3 := h.cellO 3 (by decide)
  have c4 := h.cellO 4 (by decide)
  have c5 := h.cellO 5 (by decide)
  have c6 := h.cellO 6 (by decide)
  have c7 := h.cellO 7 (by decide)
  simp only [List.getD_cons_zero, List.getD_cons_succ] at c0 c1 c2 c3 c4 c5 c6 c7
  have HR := Lib.hid hr
  clear h hr
  go_enter Try.func45, Try.ntmps45
  go_wp2_with fail
  go_loop [12] (fun i => ∃ (k : Nat) (z : Int), z = k ∧ k ≤ 8 ∧ i = .int .i64 z ∧ Hid (wFind [a0, a1, a2, a3, a4, a5, a6, a7] c = findFrom c k ([a0, a1, a2, a3, a4, a5, a6, a7].drop k))) (fun i => 8 - (intOf i).toNat)
  case atStart => exact ⟨0, 0, rfl, by decide, rfl, Lib.hid rfl⟩
  case round =>
    obtain ⟨k, z, hz, hk, rfl, HF⟩ := hrel
    have hk8 : k = 0 ∨ k = 1 ∨ k = 2 ∨ k = 3 ∨ k = 4 ∨ k = 5 ∨ k = 6 ∨ k = 7 ∨ k = 8 := by omega
    rcases hk8 with rfl | rfl | rfl | rfl | rfl | rfl | rfl | rfl | rfl
    · obtain rfl : z = 0 := hz
      have ix : ∀ w : World, (Instr.index 67 (.agg #[.int .u32 a0, .int .u32 a1, .int .u32 a2, .int .u32 a3, .int .u32 a4, .int .u32 a5, .int .u32 a6, .int .u32 a7]) (.int .i64 0)).run Try.prog w = .ok (.int .u32 a0) w := fun _ => by kernel_rfl
      have hst := find_step c [a0, a1, a2, a3, a4, a5, a6, a7] 0 (by simp)
      rw [← HF.out] at hst
      simp only [List.getD_cons_zero] at hst
      clear HF
      by_cases hb : hld a0 c = true
      · rw [if_pos hb] at hst
        have HS := Lib.hid hst
        clear hst
        have hx := holds_calls a0 c w (HR.out _ (by simp)).1 (HR.out _ (by simp)).2 h2 h3
        rw [hb] at hx
        clear hb
        go_wp2_with (go_at_call 56; refine hx.mono ?_; rintro e w1 ⟨rfl, rfl⟩)
        go_ret2
        exact ⟨by rw [HS.out]; rfl, rfl⟩
      · rw [if_neg hb] at hst
        have hb' : hld a0 c = false := by simpa using hb
        have HS := Lib.hid hst
        clear hst hb
        have hx := holds_calls a0 c w (HR.out _ (by simp)).1 (HR.out _ (by simp)).2 h2 h3
        rw [hb'] at hx
        clear hb'
        go_wp2_with (go_at_call 56; refine hx.mono ?_; rintro e w1 ⟨rfl, rfl⟩)
        exact ⟨⟨1, 1, rfl, by decide, by rfl, HS⟩, by simp [intOf]⟩
    · obtain rfl : z = 1 := hz
      have ix : ∀ w : World, (Instr.index 67 (.agg #[.int .u32 a0, .int .u32 a1, .int .u32 a2, .int .u32 a3, .int .u32 a4, .int .u32 a5, .int .u32 a6, .int .u32 a7]) (.int .i64 1)).run Try.prog w = .ok (.int .u32 a1) w := fun _ => by kernel_rfl
      have hst := find_step c [a0, a1, a2, a3, a4, a5, a6, a7] 1 (by simp)
      rw [← HF.out] at hst
      simp only [List.getD_cons_zero, List.getD_cons_succ] at hst
      clear HF
      by_cases hb : hld a1 c = true
      · rw [if_pos hb] at hst
        have HS := Lib.hid hst
        clear hst
        have hx := holds_calls a1 c w (HR.out _ (by simp)).1 (HR.out _ (by simp)).2 h2 h3
        rw [hb] at hx
        clear hb
        go_wp2_with (go_at_call 56; refine hx.mono ?_; rintro e w1 ⟨rfl, rfl⟩)
        go_ret2
        exact ⟨by rw [HS.out]; rfl, rfl⟩
      · rw [if_neg hb] at hst
        have hb' : hld a1 c = false := by simpa using hb
        have HS := Lib.hid hst
        clear hst hb
        have hx := holds_calls a1 c w (HR.out _ (by simp)).1 (HR.out _ (by simp)).2 h2 h3
        rw [hb'] at hx
        clear hb'
        go_wp2_with (go_at_call 56; refine hx.mono ?_; rintro e w1 ⟨rfl, rfl⟩)
        exact ⟨⟨2, 2, rfl, by decide, by rfl, HS⟩, by simp [intOf]⟩
    · obtain rfl : z = 2 := hz
      have ix : ∀ w : World, (Instr.index 67 (.agg #[.int .u32 a0, .int .u32 a1, .int .u32 a2, .int .u32 a3, .int .u32 a4, .int .u32 a5, .int .u32 a6, .int .u32 a7]) (.int .i64 2)).run Try.prog w = .ok (.int .u32 a2) w := fun _ => by kernel_rfl
      have hst := find_step c [a0, a1, a2, a3, a4, a5, a6, a7] 2 (by simp)
      rw [← HF.out] at hst
      simp only [List.getD_cons_zero, List.getD_cons_succ] at hst
      clear HF
      by_cases hb : hld a2 c = true
      · rw [if_pos hb] at hst
        have HS := Lib.hid hst
        clear hst
        have hx := holds_calls a2 c w (HR.out _ (by simp)).1 (HR.out _ (by simp)).2 h2 h3
        rw [hb] at hx
        clear hb
        go_wp2_with (go_at_call 56; refine hx.mono ?_; rintro e w1 ⟨rfl, rfl⟩)
        go_ret2
        exact ⟨by rw [HS.out]; rfl, rfl⟩
      · rw [if_neg hb] at hst
        have hb' : hld a2 c = false := by simpa using hb
        have HS := Lib.hid hst
        clear hst hb
        have hx := holds_calls a2 c w (HR.out _ (by simp)).1 (HR.out _ (by simp)).2 h2 h3
        rw [hb'] at hx
        clear hb'
        go_wp2_with (go_at_call 56; refine hx.mono ?_; rintro e w1 ⟨rfl, rfl⟩)
        exact ⟨⟨3, 3, rfl, by decide, by rfl, HS⟩, by simp [intOf]⟩
    · obtain rfl : z = 3 := hz
      have ix : ∀ w : World, (Instr.index 67 (.agg #[.int .u32 a0, .int .u32 a1, .int .u32 a2, .int .u32 a3, .int .u32 a4, .int .u32 a5, .int .u32 a6, .int .u32 a7]) (.int .i64 3)).run Try.prog w = .ok (.int .u32 a3) w := fun _ => by kernel_rfl
      have hst := find_step c [a0, a1, a2, a3, a4, a5, a6, a7] 3 (by simp)
      rw [← HF.out] at hst
      simp only [List.getD_cons_zero, List.getD_cons_succ] at hst
      clear HF
      by_cases hb : hld a3 c = true
      · rw [if_pos hb] at hst
        have HS := Lib.hid hst
        clear hst
        have hx := holds_calls a3 c w (HR.out _ (by simp)).1 (HR.out _ (by simp)).2 h2 h3
        rw [hb] at hx
        clear hb
        go_wp2_with (go_at_call 56; refine hx.mono ?_; rintro e w1 ⟨rfl, rfl⟩)
        go_ret2
        exact ⟨by rw [HS.out]; rfl, rfl⟩
      · rw [if_neg hb] at hst
        have hb' : hld a3 c = false := by simpa using hb
        have HS := Lib.hid hst
        clear hst hb
        have hx := holds_calls a3 c w (HR.out _ (by simp)).1 (HR.out _ (by simp)).2 h2 h3
        rw [hb'] at hx
        clear hb'
        go_wp2_with (go_at_call 56; refine hx.mono ?_; rintro e w1 ⟨rfl, rfl⟩)
        exact ⟨⟨4, 4, rfl, by decide, by rfl, HS⟩, by simp [intOf]⟩
    · obtain rfl : z = 4 := hz
      have ix : ∀ w : World, (Instr.index 67 (.agg #[.int .u32 a0, .int .u32 a1, .int .u32 a2, .int .u32 a3, .int .u32 a4, .int .u32 a5, .int .u32 a6, .int .u32 a7]) (.int .i64 4)).run Try.prog w = .ok (.int .u32 a4) w := fun _ => by kernel_rfl
      have hst := find_step c [a0, a1, a2, a3, a4, a5, a6, a7] 4 (by simp)
      rw [← HF.out] at hst
      simp only [List.getD_cons_zero, List.getD_cons_succ] at hst
      clear HF
      by_cases hb : hld a4 c = true
      · rw [if_pos hb] at hst
        have HS := Lib.hid hst
        clear hst
        have hx := holds_calls a4 c w (HR.out _ (by simp)).1 (HR.out _ (by simp)).2 h2 h3
        rw [hb] at hx
        clear hb
        go_wp2_with (go_at_call 56; refine hx.mono ?_; rintro e w1 ⟨rfl, rfl⟩)
        go_ret2
        exact ⟨by rw [HS.out]; rfl, rfl⟩
      · rw [if_neg hb] at hst
        have hb' : hld a4 c = false := by simpa using hb
        have HS := Lib.hid hst
        clear hst hb
        have hx := holds_calls a4 c w (HR.out _ (by simp)).1 (HR.out _ (by simp)).2 h2 h3
        rw [hb'] at hx
        clear hb'
        go_wp2_with (go_at_call 56; refine hx.mono ?_; rintro e w1 ⟨rfl, rfl⟩)
        exact ⟨⟨5, 5, rfl, by decide, by rfl, HS⟩, by simp [intOf]⟩
    · obtain rfl : z = 5 := hz
      have ix : ∀ w : World, (Instr.index 67 (.agg #[.int .u32 a0, .int .u32 a1, .int .u32 a2, .int .u32 a3, .int .u32 a4, .int .u32 a5, .int .u32 a6, .int .u32 a7]) (.int .i64 5)).run Try.prog w = .ok (.int .u32 a5) w := fun _ => by kernel_rfl
      have hst := find_step c [a0, a1, a2, a3, a4, a5, a6, a7] 5 (by simp)
      rw [← HF.out] at hst
      simp only [List.getD_cons_zero, List.getD_cons_succ] at hst
      clear HF
      by_cases hb : hld a5 c = true
      · rw [if_pos hb] at hst
        have HS := Lib.hid hst
        clear hst
        have hx := holds_calls a5 c w (HR.out _ (by simp)).1 (HR.out _ (by simp)).2 h2 h3
        rw [hb] at hx
        clear hb
        go_wp2_with (go_at_call 56; refine hx.mono ?_; rintro e w1 ⟨rfl, rfl⟩)
        go_ret2
        exact ⟨by rw [HS.out]; rfl, rfl⟩
      · rw [if_neg hb] at hst
        have hb' : hld a5 c = false := by simpa using hb
        have HS := Lib.hid hst
        clear hst hb
        have hx := holds_calls a5 c w (HR.out _ (by simp)).1 (HR.out _ (by simp)).2 h2 h3
        rw [hb'] at hx
        clear hb'
        go_wp2_with (go_at_call 56; refine hx.mono ?_; rintro e w1 ⟨rfl, rfl⟩)
        exact ⟨⟨6, 6, rfl, by decide, by rfl, HS⟩, by simp [intOf]⟩
    · obtain rfl : z = 6 := hz
      have ix : ∀ w : World, (Instr.index 67 (.agg #[.int .u32 a0, .int .u32 a1, .int .u32 a2, .int .u32 a3, .int .u32 a4, .int .u32 a5, .int .u32 a6, .int .u32 a7]) (.int .i64 6)).run Try.prog w = .ok (.int .u32 a6) w := fun _ => by kernel_rfl
      have hst := find_step c [a0, a1, a2, a3, a4, a5, a6, a7] 6 (by simp)
      rw [← HF.out] at hst
      simp only [List.getD_cons_zero, List.getD_cons_succ] at hst
      clear HF
      by_cases hb : hld a6 c = true
      · rw [if_pos hb] at hst
        have HS := Lib.hid hst
        clear hst
        have hx := holds_calls a6 c w (HR.out _ (by simp)).1 (HR.out _ (by simp)).2 h2 h3
        rw [hb] at hx
        clear hb
        go_wp2_with (go_at_call 56; refine hx.mono ?_; rintro e w1 ⟨rfl, rfl⟩)
        go_ret2
        exact ⟨by rw [HS.out]; rfl, rfl⟩
      · rw [if_neg hb] at hst
        have hb' : hld a6 c = false := by simpa using hb
        have HS := Lib.hid hst
        clear hst hb
        have hx := holds_calls a6 c w (HR.out _ (by simp)).1 (HR.out _ (by simp)).2 h2 h3
        rw [hb'] at hx
        clear hb'
        go_wp2_with (go_at_call 56; refine hx.mono ?_; rintro e w1 ⟨rfl, rfl⟩)
        exact ⟨⟨7, 7, rfl, by decide, by rfl, HS⟩, by simp [intOf]⟩
    · obtain rfl : z = 7 := hz
      have ix : ∀ w : World, (Instr.index 67 (.agg #[.int .u32 a0, .int .u32 a1, .int .u32 a2, .int .u32 a3, .int .u32 a4, .int .u32 a5, .int .u32 a6, .int .u32 a7]) (.int .i64 7)).run Try.prog w = .ok (.int .u32 a7) w := fun _ => by kernel_rfl
      have hst := find_step c [a0, a1, a2, a3, a4, a5, a6, a7] 7 (by simp)
      rw [← HF.out] at hst
      simp only [List.getD_cons_zero, List.getD_cons_succ] at hst
      clear HF
      by_cases hb : hld a7 c = true
      · rw [if_pos hb] at hst
        have HS := Lib.hid hst
        clear hst
        have hx := holds_calls a7 c w (HR.out _ (by simp)).1 (HR.out _ (by simp)).2 h2 h3
        rw [hb] at hx
        clear hb
        go_wp2_with (go_at_call 56; refine hx.mono ?_; rintro e w1 ⟨rfl, rfl⟩)
        go_ret2
        exact ⟨by rw [HS.out]; rfl, rfl⟩
      · rw [if_neg hb] at hst
        have hb' : hld a7 c = false := by simpa using hb
        have HS := Lib.hid hst
        clear hst hb
        have hx := holds_calls a7 c w (HR.out _ (by simp)).1 (HR.out _ (by simp)).2 h2 h3
        rw [hb'] at hx
        clear hb'
        go_wp2_with (go_at_call 56; refine hx.mono ?_; rintro e w1 ⟨rfl, rfl⟩)
        exact ⟨⟨8, 8, rfl, by decide, by rfl, HS⟩, by simp [intOf]⟩
    · obtain rfl : z = 8 := hz
      go_wp2
      have hf := HF.out
      clear HF
      simp only [List.drop_succ_cons, List.drop_zero, findFrom] at hf
      go_ret2
      exact ⟨by rw [hf]; rfl, rfl⟩
end Go.Proofs.Ytkfiahildoljfaa.Win
