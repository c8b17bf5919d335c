/- How far a machine has come: what each function of its base does to its four cells; every machine. -/
import Derived.Test.YtkfiahildoljfaaWin
import Derived.Test.YtkfiahildoljfaaWMore
namespace Go.Proofs.Ytkfiahildoljfaa.Stp
open Go.RowKit Go.Proofs.Ytkfiahildoljfaa.Win Go.Proofs.YtkfiahildoljfaaW.PrintMore
set_option linter.unusedVariables false
set_option linter.unusedSimpArgs false
attribute [local go_sem] max2_int min2_int max_two min_two
/-- A machine's base: how much it has eaten, what went wrong, where, and whether nothing more comes. -/
structure B4 where
  at_ : Int
  err : Int
  pl : Int
  fin : Bool
def B4.going (b : B4) : Bool := (b.err == 0) && !b.fin
/-- The base's cells, at the head of a machine's block. -/
structure BaseAt (w : World) (g : Nat) (b : B4) : Prop where
  c0 : w.cell? ⟨g, 0, none⟩ = some (.int .i64 b.at_)
  c1 : w.cell? ⟨g, 1, none⟩ = some (.int .i64 b.err)
  c2 : w.cell? ⟨g, 2, none⟩ = some (.int .i64 b.pl)
  c3 : w.cell? ⟨g, 3, none⟩ = some (.bool b.fin)
  fz : ∀ j, w.frozen? ⟨g, j, none⟩ = false
theorem fail_calls (g : Nat) (b : B4) (w : World) (h : BaseAt w g b) : Calls Try.prog 21 #[.pointer (some ⟨g, 0, none⟩)] w fun e w' => e = .returned (.agg #[.int .i64 b.err, .int .i64 b.pl]) ∧ w' = w.alloc (.cells #[.int .i64 b.err, .int .i64 b.pl] 41) := by
  have h1 := h.c1
  have h2 := h.c2
  have hlt : g < w.heap.size := World.block_lt_of_cell? w ⟨g, 1, none⟩ h1
  clear h
  go_enter Try.func21, Try.ntmps21
  go_wp2
  exact bodyPost_ret (v := .agg #[.int .i64 b.err, .int .i64 b.pl]) (by simp [results, Try.results21, go_sem]) rfl ⟨rfl, rfl⟩
theorem going_calls (g : Nat) (b : B4) (w : World) (h : BaseAt w g b) : Calls Try.prog 28 #[.pointer (some ⟨g, 0, none⟩)] w fun e w' => e = .returned (.bool b.going) ∧ w = w' := by
  have h1 := h.c1
  have h3 := h.c3
  clear h
  obtain ⟨a, e, f, d⟩ := b
  simp only at h1 h3
  unfold B4.going
  by_cases he : e = 0
  · subst he
    go_enter Try.func28, Try.ntmps28
    go_wp2
    go_ret
    exact ⟨by cases d <;> rfl, rfl⟩
  · have hb : (e == 0) = false := by simp [he]
    clear he
    go_enter Try.func28, Try.ntmps28
    go_wp2
    go_ret
    exact ⟨by simp [hb], rfl⟩
theorem eat_calls (g : Nat) (b : B4) (n : Int) (w : World) (h : BaseAt w g b) (hg : b.going = true) (h0 : 0 ≤ n) (h1 : n ≤ 1000000) (h2 : 0 ≤ b.at_) (h3 : b.at_ ≤ 1000000000) :
    Calls Try.prog 33 #[.pointer (some ⟨g, 0, none⟩), .int .i64 n] w fun e w' => e = .returned (.tuple #[]) ∧ w' = w.setCell ⟨g, 0, none⟩ (.int .i64 (b.at_ + n)) := by
  have hc0 := h.c0
  have hf := h.fz 0
  have hgo := going_calls g b w h
  rw [hg] at hgo
  have hn : decide (n < 0) = false := by simp; omega
  have hn' : (if n < 0 then 0 else n) = n := by rw [if_neg (by omega)]
  clear h hg
  go_enter Try.func33, Try.ntmps33
  go_wp2_with (go_at_call 28; refine hgo.mono ?_; rintro e w1 ⟨rfl, rfl⟩)
  go_end0
  exact ⟨rfl, rfl⟩
theorem stop_calls (g : Nat) (b : B4) (e : Int) (w : World) (h : BaseAt w g b) (hg : b.going = true) (he : e ≠ 0) :
    Calls Try.prog 31 #[.pointer (some ⟨g, 0, none⟩), .int .i64 e] w fun x w' => x = .returned (.tuple #[]) ∧ w' = (w.setCell ⟨g, 1, none⟩ (.int .i64 e)).setCell ⟨g, 2, none⟩ (.int .i64 b.at_) := by
  have hc0 := h.c0
  have hc1 := h.c1
  have hc2 := h.c2
  have hf1 := h.fz 1
  have hf2 := h.fz 2
  have hgo := going_calls g b w h
  rw [hg] at hgo
  have hb : (e != 0) = true := by simp [he]
  clear h hg he
  go_enter Try.func31, Try.ntmps31
  go_wp2_with (go_at_call 28; refine hgo.mono ?_; rintro e w1 ⟨rfl, rfl⟩)
  go_end0
  exact ⟨rfl, rfl⟩
theorem stop_not (g : Nat) (b : B4) (e : Int) (w : World) (h : BaseAt w g b) (hg : b.going = false) :
    Calls Try.prog 31 #[.pointer (some ⟨g, 0, none⟩), .int .i64 e] w fun x w' => x = .returned (.tuple #[]) ∧ w = w' := by
  have hgo := going_calls g b w h
  rw [hg] at hgo
  clear h hg
  go_enter Try.func31, Try.ntmps31
  go_wp2_with (go_at_call 28; refine hgo.mono ?_; rintro e w1 ⟨rfl, rfl⟩)
  go_end0
  exact ⟨rfl, rfl⟩
theorem bend_calls (g : Nat) (b : B4) (w : World) (h : BaseAt w g b) :
    Calls Try.prog 34 #[.pointer (some ⟨g, 0, none⟩)] w fun x w' => x = .returned (.tuple #[]) ∧ w' = if b.going = true then w.setCell ⟨g, 3, none⟩ (.bool true) else w := by
  have hc3 := h.c3
  have hf3 := h.fz 3
  have hgo := going_calls g b w h
  cases hg : b.going with
  | true =>
    rw [hg] at hgo
    clear h hg
    go_enter Try.func34, Try.ntmps34
    go_wp2_with (go_at_call 28; refine hgo.mono ?_; rintro e w1 ⟨rfl, rfl⟩)
    go_end0
    exact ⟨rfl, rfl⟩
  | false =>
    rw [hg] at hgo
    clear h hg
    go_enter Try.func34, Try.ntmps34
    go_wp2_with (go_at_call 28; refine hgo.mono ?_; rintro e w1 ⟨rfl, rfl⟩)
    go_end0
    exact ⟨rfl, rfl⟩
end Go.Proofs.Ytkfiahildoljfaa.Stp
