/- The expander: a unit. -/
import Derived.Test.YtnkinbfglenddaaDec2
import Derived.Lib.EndianBits
import Derived.Laws.Bits64
import Derived.Laws.BitsLemmas
namespace Go.Proofs.Ytnkinbfglenddaa.Dec
open Go.RowKit Go.Proofs.Ytnkinbfglenddaa.Win Go.Proofs.Ytnkinbfglenddaa.Stp Go.Proofs.Ytnkinbfglenddaa.Mach
set_option linter.unusedVariables false
set_option linter.unusedSimpArgs false
theorem DecAt.drew {w : World} {g gw rb : Nat} {v : Value} {b : B4} {l : List Int} {m : M} (h : DecAt w g gw rb v b l m) : DecAt w.drew g gw rb v b l m := h.keep (Nat.le_refl _) rfl rfl (fun _ _ => rfl)
theorem hold_in {w : World} {g gw rb : Nat} {v : Value} {b : B4} {l : List Int} {m : M} (x : Int) (a : Nat) (h : DecAt w g gw rb v b l m) (ha : w.cell? ⟨a, 0, none⟩ = some (.int .u32 x)) (hl : l.length ≤ 1000000) :
    Calls Try.prog 49 #[.pointer (some ⟨g, 4, none⟩), .slice (some ⟨a, 0, none⟩) 1 1] w fun e w' => e = .returned (.tuple #[]) ∧ ∃ v', DecAt w' g gw rb v' b (l ++ [x]) m ∧ Chg (FS g gw v) w w' := by
  refine (hold_calls g 4 rb v l x a _ h.c4 (h.fz 4) h.row h.rbl h.row_g ha hl).mono ?_
  rintro e w' ⟨rfl, r, c, w1, rfl, hown, hg, hat, hr⟩
  obtain ⟨hd, hc⟩ := h.hold x hown hg hr
  exact ⟨rfl, _, hd, hc⟩
theorem and1023 (x : Int) (h0 : 0 ≤ x) (h1 : x < 4294967296) : bits .and .u32 x 1023 = x % 1024 := bits_mask .u32 32 (by decide) wraps_u32 10 (by decide) x h0 h1
def WholePost (w : World) (g gw rb : Nat) (v : Value) (b : B4) (l : List Int) (r : M × List Int) (e : Ending) (w' : World) : Prop := e = .returned (.bool true) ∧ ∃ v', DecAt w' g gw rb v' b (l ++ r.2) r.1 ∧ Chg (FS g gw v) w w'
set_option maxRecDepth 100000 in
set_option maxHeartbeats 1000000 in
theorem whole_calls {w : World} {g gw rb : Nat} {v : Value} {b : B4} {l : List Int} {m : M} (u : Int) (h : DecAt w g gw rb v b l m) (hG : Mach.Good m) (u0 : 0 ≤ u) (u1 : u ≤ 65535) (hl : l.length ≤ 1000000) :
    Calls Try.prog 56 #[.pointer (some ⟨g, 0, none⟩), .int .u32 u] w (WholePost w g gw rb v b l (Mach.whole m u)) := by
  have h11 := h.c11
  have f11 := h.fz 11
  have h8 := h.c8
  have f8 := h.fz 8
  have hup := hG.upper
  have h1 := h.set 8 (.int .i64 0) (b' := b) (m' := { m with beg := 0 }) rfl rfl
  have H1 := Lib.hid h1
  have H := Lib.hid h
  have HGd := Lib.hid hG
  clear h hG h1
  by_cases hu : m.upper = 0
  · have hub : (m.upper != 0) = false := by simp [hu]
    by_cases hc : 55296 ≤ u ∧ u < 56320
    · have hs : Mach.whole m u = ({ m with beg := 0, upper := u }, []) := by unfold Mach.whole; rw [if_neg (by simp [hu]), if_pos hc]
      rw [hs]
      obtain ⟨a1, a2⟩ := hc
      clear hs hu hup
      go_enter Try.func56, Try.ntmps56
      go_wp2_with fail
      go_ret
      exact ⟨rfl, v, by rw [List.append_nil]; exact H1.out.set 11 (.int .u32 u) (b' := b) (m' := { m with beg := 0, upper := u }) rfl rfl, (chg_g 8 _).trans (chg_g 11 _)⟩
    · have hs : Mach.whole m u = ({ m with beg := 0 }, [u]) := by unfold Mach.whole; rw [if_neg (by simp [hu]), if_neg hc]
      rw [hs]
      have hcs : u < 55296 ∨ (55296 ≤ u ∧ ¬ u < 56320) := by omega
      clear hs hu hup hc
      rcases hcs with hc | ⟨hc, hd⟩
      all_goals
        go_enter Try.func56, Try.ntmps56
        go_wp2_with (go_at_call 49; refine (hold_at _ _ H1.out (by simp [World.setCell]) rfl hl).mono ?_; rintro e w1 ⟨rfl, hd⟩; have HD := Lib.hid hd; clear hd)
        go_ret
        obtain ⟨v', hd, hc⟩ := HD.out
        exact ⟨rfl, v', hd, (chg_g 8 _).trans hc⟩
  · have hub : (m.upper != 0) = true := by simp [hu]
    have hs : Mach.whole m u = ({ m with beg := 0, upper := 0 }, [65536 + m.upper % 1024 * 1024 + u % 1024]) := by unfold Mach.whole; rw [if_pos hu]
    rw [hs]
    obtain ⟨y, hy⟩ : ∃ y, y = m.upper := ⟨_, rfl⟩
    have hup' : 55296 ≤ y ∧ y < 56320 := by omega
    obtain ⟨p0, p1⟩ := hup'
    rw [← hy] at h11 hub ⊢
    clear hs hu hup hy
    have m1 := and1023 y (by omega) (by omega)
    have m2 := and1023 u (by omega) (by omega)
    have e1 : IntKind.u32.wrap (IntKind.u32.wrap (65536 + IntKind.u32.wrap (bits BinOp.and IntKind.u32 y 1023 * 1024)) + bits BinOp.and IntKind.u32 u 1023) = 65536 + y % 1024 * 1024 + u % 1024 := by
      rw [m1, m2]
      simp only [IntKind.wrap_u32]
      omega
    have E1 := Lib.hid e1
    clear m1 m2 e1
    have hsz : (w.setCell ⟨g, 8, none⟩ (.int .i64 0)).heap.size = w.heap.size := by simp [World.setCell]
    have HSZ := Lib.hid hsz
    clear hsz
    go_enter Try.func56, Try.ntmps56
    go_wp2_with fail
    go_region_with (go_at_call 49; rw [E1.out]; refine (hold_in (65536 + y % 1024 * 1024 + u % 1024) _ (H1.out.alloc (.cells #[.int .u32 (65536 + y % 1024 * 1024 + u % 1024)] 25)).drew (by show World.cell? (World.alloc _ _) _ = _; rw [← HSZ.out, cell_of (heap_alloc_new _ _)]; rfl) hl).mono ?_; rintro e w1 ⟨rfl, hd⟩; obtain ⟨v', hd, hc⟩ := hd; have hh11 := hd.c11; have hf11 := hd.fz 11; have HD := Lib.hid hd; have HC := Lib.hid hc; clear hd hc)
    all_goals
      go_wp2_with fail
      go_ret
      exact ⟨rfl, _, HD.out.set 11 (.int .u32 0) (b' := b) (m' := { m with beg := 0, upper := 0 }) rfl rfl, ((chg_g 8 _).trans (chg_then (Chg.alloc _ _) ((Chg.drew _).trans HC.out) (fun i _ hi => hi))).trans (chg_g 11 _)⟩
end Go.Proofs.Ytnkinbfglenddaa.Dec
