/- The reference's Bytes of layer 15 at FEFF alone, by hand, in the printed form. -/
import Derived.Test.YtakjkgjbjannbaaHand
namespace Go.Proofs.Ytakjkgjbjannbaa.Hand
open Go.RowKit Go.Proofs.YtakjkgjbjannbaaW.PrintWords Go.Proofs.YtakjkgjbjannbaaW.PrintLast Go.Proofs.YtakjkgjbjannbaaW.PrintMore
set_option linter.unusedVariables false
set_option linter.unusedSimpArgs false
theorem firsts_calls (w : World) : Calls Try.prog 40 #[] w fun e w' => (∃ A n c, e = .returned (.slice A n c)) ∧ Below w.heap.size w w' := by
  go_enter Try.func40, Try.ntmps40
  go_wp2
  go_ret
  exact ⟨⟨_, _, _, rfl⟩, below_alloc (Below.refl _ _) _⟩
theorem new_calls (w : World) : Calls Try.prog 28 #[] w fun e w' => (∃ a, e = .returned (.pointer (some a))) ∧ Below w.heap.size w w' := by
  go_enter Try.func28, Try.ntmps28
  go_wp2_with (go_at_call 40; refine (firsts_calls _).mono ?_; rintro e w1 ⟨⟨A, n, c, rfl⟩, hB⟩)
  go_ret
  exact ⟨⟨_, rfl⟩, below_alloc (below_alloc hB _) _⟩
theorem frozen_below {w w1 : World} {g : Nat} (hb : Below w.heap.size w w1) (hg : g < w.heap.size) (h : w.frozen? ⟨g, 0, none⟩ = false) : w1.frozen? ⟨g, 0, none⟩ = false := by
  unfold World.frozen? at h ⊢
  rw [hb.block g hg]
  exact h
theorem put_calls (g : Nat) (A : Option Addr) (c : Nat) (l : List Int) (w : World) (hl : l.length ≤ 100) (h0 : w.cell? ⟨g, 0, none⟩ = some (.slice none 0 0)) (hf : w.frozen? ⟨g, 0, none⟩ = false) (hg : g < w.heap.size) (hr : Kd.C (Kd.int .u8) w A l.length l) :
    Calls Try.prog 29 #[.pointer (some ⟨g, 0, none⟩), .slice A l.length c] w fun e w' => e = .returned (.tuple #[]) ∧ ∃ v w1, w' = w1.setCell ⟨g, 0, none⟩ v ∧ Below w.heap.size w w1 ∧ Kd.R (Kd.int .u8) 5 w1 w.heap.size (fun _ => True) v l := by
  have HR := Aside0.mk hr
  clear hr
  go_enter Try.func29, Try.ntmps29
  go_wp2_with ((with_reducible refine gate_builtin (b := .append) (xs := #[.tmp 8, .tmp 9]) rfl ?_); at_builtin; refine Kd.R_append_rows (Kd.int .u8) (w0 := w) w.heap.size rfl (.tmp 8) (.tmp 9) 40 5 (.int .u8 0) 1 rfl Try.underlying40 info5 rfl (by decide) (by omega) (.slice none 0 0) [] l _ _ _ (fun _ => True) (fun _ => False) rfl rfl (Kd.R_nil _ _ _ _ _) ?aR (fun _ _ h => h) (fun _ h => h.elim) (fun _ _ => trivial) (Below.refl _ _) (Nat.le_refl _) (by simp only [List.length_nil]; omega) ?_; (case aR => exact HR.out); intro v8 w8 ho8 hb8 hg8 hat8; clear hg8 hat8; have hc8 := pw_cell_below hb8 h0; have hf8 := frozen_below hb8 hg hf; obtain ⟨A8, c8, e8⟩ := Kd.R_slice ho8; subst e8)
  go_end0
  exact ⟨rfl, _, w8, rfl, hb8, ho8⟩
def pilcrowref15_Bytes.f (l : List Int) (plain : Bool) : Option ByteArray := if l = [65279] ∧ plain = false then some ⟨#[14, 254, 255]⟩ else none
def B15Rel (w : World) (g : Nat) (i : Value) (wr : World) : Prop := ∃ z : Int, i = .int .i64 z ∧ Below w.heap.size w wr ∧ g < wr.heap.size ∧
  ((z = 0 ∧ wr.cell? ⟨g, 0, none⟩ = some (.slice none 0 0) ∧ wr.cell? ⟨g, 5, none⟩ = some (.bool false) ∧ wr.frozen? ⟨g, 0, none⟩ = false ∧ wr.frozen? ⟨g, 5, none⟩ = false) ∨
   (z = 1 ∧ ∃ v, wr.cell? ⟨g, 0, none⟩ = some v ∧ Kd.R (Kd.int .u8) 5 wr w.heap.size (fun _ => True) v [14, 254, 255]))
set_option maxRecDepth 100000 in
set_option maxHeartbeats 1000000 in
theorem b15_walk (A0 : Option Addr) (c0 : Nat) (w : World) (hr0 : Kd.C (Kd.int .u32) w A0 1 [65279]) :
    Calls Try.prog 20 #[.slice A0 1 c0, .bool false] w fun e w' => e = .returned (.string ⟨#[14, 254, 255]⟩) ∧ Below w.heap.size w w' := by
  obtain ⟨ad, rfl, hx0⟩ := Kd.at_int hr0 0 (by decide) (by decide)
  have hx : w.cell? ad = some (.int .u32 65279) := hx0
  clear hx0 hr0
  go_enter Try.func20, Try.ntmps20
  go_wp2_with (go_at_call 28; refine (new_calls _).mono ?_; rintro e w1 ⟨⟨a1, rfl⟩, hB1⟩)
  go_loopw [6] (fun i wr => B15Rel w w1.heap.size i wr) (fun i _ => 2 - (intOf i).toNat)
  case atStart => exact ⟨0, rfl, below_alloc hB1 _, by simp, .inl ⟨rfl, by simp, by simp, by simp, by simp⟩⟩
  case round =>
    obtain ⟨z, rfl, hB, hg, hz⟩ := hrel
    have hx2 := pw_cell_below hB hx
    have hB1s := hB1.size
    rcases hz with ⟨rfl, h0, h5, hf0, hf5⟩ | ⟨rfl, v, h0, ho⟩
    · have k0 : (wr.setCell ⟨w1.heap.size, 5, none⟩ (.bool false)).cell? ⟨w1.heap.size, 0, none⟩ = some (.slice none 0 0) := by rw [World.cell?_setCell_other _ _ _ _ (by intro h; injection h with _ h2 _; exact absurd h2 (by decide))]; exact h0
      have k5 : (wr.setCell ⟨w1.heap.size, 5, none⟩ (.bool false)).cell? ⟨w1.heap.size, 5, none⟩ = some (.bool false) := World.cell?_setCell_same _ _ _ h5
      have kB : Below w.heap.size w (wr.setCell ⟨w1.heap.size, 5, none⟩ (.bool false)) := hB.setCell hB1s _
      have kx := pw_cell_below kB hx
      have kf : (wr.setCell ⟨w1.heap.size, 5, none⟩ (.bool false)).frozen? ⟨w1.heap.size, 0, none⟩ = false := by rw [World.frozen?_setCell]; exact hf0
      go_wp2_with (first | ((with_reducible refine gate_dst (N := 52) rfl ?_); refine Kd.R_lit (Kd.int .u8) _ 5 ?hg (N := 52) ?hd (xs := ([14, 254, 255] : List Int)) (inner := [.int .u8 14, .int .u8 254, .int .u8 255]) (ok := fun _ => True) (okp := fun _ => True) ?hr ?hp (fun _ hk => hk) trivial (Below.refl _ _) (Nat.le_refl _) (by simp) ?_; (case hd => rfl); (case hg => rfl); (case hr => first | (go_simp; done) | (go_simp; rfl)); (case hp => exact (Reps.one (show Kd.M (Kd.int .u8) _ _ _ 14 [.int .u8 14] from rfl) (Reps.one (show Kd.M (Kd.int .u8) _ _ _ 254 [.int .u8 254] from rfl) (Reps.one (show Kd.M (Kd.int .u8) _ _ _ 255 [.int .u8 255] from rfl) (Reps.none _ _))))); intro v7 w7 ho7 hb7 hg_ hnew_; clear hg_ hnew_; obtain ⟨A7, c7, e7⟩ := Kd.R_slice ho7; subst e7;  have h07 := pw_cell_below hb7 k0; have hf7 := frozen_below hb7 (by simpa using hg) kf; have hs7 := hb7.size) | (go_at_call 29; refine (put_calls w1.heap.size _ _ [14, 254, 255] _ (by decide) h07 hf7 (by simp at hs7; omega) ((Kd.R_reads' ho7).2.2)).mono ?_; rintro e w9 ⟨rfl, v9, w10, rfl, hb9, ho9⟩))
      have hs7' : wr.heap.size ≤ w7.heap.size := by simpa using hs7
      have hB7 := below_then kB kB.size hb7
      have hB10 := below_then hB7 hB7.size hb9
      refine ⟨⟨1, rfl, hB10.setCell hB1s _, by have := hb9.size; simp only [World.size_setCell]; omega, .inr ⟨rfl, v9, World.cell?_setCell_same _ _ _ (pw_cell_below hb9 h07), ?_⟩⟩, by simp [intOf]⟩
      refine Kd.R_lower (Kd.R_mono (Kd.R_step (Kd.R_bound ho9) (fun k hk hlt => ?_)) (fun _ _ => trivial)) hB7.size
      exact Below.heap_setCell w10 _ _ _ (by rintro rfl; have := hk.2.1; simp only at this; omega)
    · have hcv := own_string (P := Try.prog) Try.underlying40 Try.underlying5 Try.underlying9 (Kd.own_of_R ho)
      obtain ⟨A8, c8, rfl⟩ := Kd.R_slice ho
      have hcw : (convert 40 9 (.slice A8 3 c8)).run Try.prog wr = .ok (.string ⟨#[14, 254, 255]⟩) wr := hcv
      have h0' : wr.cell? ⟨w1.heap.size, 0, none⟩ = some (.slice A8 3 c8) := h0
      clear hcv h0 ho
      go_wp2
      go_ret
      exact ⟨rfl, hB⟩
theorem pilcrowref15_Bytes.calls (A0 : Option Addr) (c0 : Nat) (l0 : List Int) (a1 : Bool) (r : ByteArray) (w : World) (hr0 : Kd.C (Kd.int .u32) w A0 l0.length l0) (hc0 : l0.length ≤ c0) (h : pilcrowref15_Bytes.f l0 a1 = some r) :
    Calls Try.prog 20 #[.slice A0 l0.length c0, .bool a1] w fun e w' => e = .returned (.string r) ∧ Below w.heap.size w w' := by
  unfold pilcrowref15_Bytes.f at h
  split at h
  · rename_i hc
    obtain ⟨rfl, rfl⟩ := hc
    injection h with h
    subst h
    exact b15_walk A0 c0 w hr0
  · cases h
end Go.Proofs.Ytakjkgjbjannbaa.Hand
