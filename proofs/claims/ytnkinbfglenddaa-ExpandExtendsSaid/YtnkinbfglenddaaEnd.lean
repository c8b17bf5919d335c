/- The expander: ended; is it done? -/
import Derived.Test.YtnkinbfglenddaaFeed
namespace Go.Proofs.Ytnkinbfglenddaa.Dec
open Go.RowKit Go.Proofs.Ytnkinbfglenddaa.Win Go.Proofs.Ytnkinbfglenddaa.Stp Go.Proofs.Ytnkinbfglenddaa.Mach
set_option linter.unusedVariables false
set_option linter.unusedSimpArgs false
def cutB (b : B4) (m : M) : B4 := if (m.beg ≠ 0 ∨ m.upper ≠ 0) ∧ b.going = true then { b with err := 4, pl := b.at_ } else b
def finB (b : B4) : B4 := if b.going = true then { b with fin := true } else b
def endB (b : B4) (m : M) : B4 := finB (cutB b m)
theorem bend_dec {w : World} {g gw rb : Nat} {v : Value} {b : B4} {l : List Int} {m : M} (h : DecAt w g gw rb v b l m) :
    Calls Try.prog 36 #[.pointer (some ⟨g, 0, none⟩)] w fun e w' => e = .returned (.tuple #[]) ∧ DecAt w' g gw rb v (finB b) l m ∧ Chg (FS g gw v) w w' := by
  refine (bend_calls g b w h.base).mono ?_
  rintro e w' ⟨rfl, rfl⟩
  unfold finB
  cases hg : b.going with
  | true => rw [if_pos rfl, if_pos rfl]; exact ⟨rfl, h.set 3 (.bool true) rfl rfl, chg_g 3 _⟩
  | false => rw [if_neg (by decide), if_neg (by decide)]; exact ⟨rfl, h, Chg.refl _⟩
theorem end_calls {w : World} {g gw : Nat} {b : B4} {m : M} (h : DecAt w g gw 0 nilS b [] m) :
    Calls Try.prog 23 #[.pointer (some ⟨g, 0, none⟩)] w fun e w' => e = .returned (.tuple #[]) ∧ DecAt w' g gw 0 nilS (endB b m) [] m ∧ Chg (FS g gw nilS) w w' := by
  have h8 := h.c8
  have h11 := h.c11
  have H := Lib.hid h
  have hcs : (∃ x : Bool, (m.beg != 0) = x ∧ (m.upper != 0) = true ∧ (m.beg ≠ 0 ∨ m.upper ≠ 0)) ∨ ((m.beg != 0) = true ∧ (m.upper != 0) = false ∧ (m.beg ≠ 0 ∨ m.upper ≠ 0)) ∨ ((m.beg != 0) = false ∧ (m.upper != 0) = false ∧ ¬ (m.beg ≠ 0 ∨ m.upper ≠ 0)) := by
    by_cases h1 : m.beg = 0 <;> by_cases h2 : m.upper = 0
    · exact .inr (.inr ⟨by simp [h1], by simp [h2], by simp [h1, h2]⟩)
    · exact .inl ⟨false, by simp [h1], by simp [h2], .inr h2⟩
    · exact .inr (.inl ⟨by simp [h1], by simp [h2], .inl h1⟩)
    · exact .inl ⟨true, by simp [h1], by simp [h2], .inl h1⟩
  have hst : (m.beg ≠ 0 ∨ m.upper ≠ 0) → Calls Try.prog 33 #[.pointer (some ⟨g, 0, none⟩), .int .i64 4] w fun x w' => x = .returned (.tuple #[]) ∧ DecAt w' g gw 0 nilS (cutB b m) [] m ∧ Chg (FS g gw nilS) w w' := by
    intro hc
    cases hg : b.going with
    | true =>
      refine (stop_calls g b 4 w h.base hg (by decide)).mono ?_
      rintro e w' ⟨rfl, rfl⟩
      unfold cutB
      rw [if_pos ⟨hc, hg⟩]
      exact ⟨rfl, (h.set 1 (.int .i64 4) (b' := { b with err := 4 }) (m' := m) rfl rfl).set 2 (.int .i64 b.at_) rfl rfl, (chg_g 1 _).trans (chg_g 2 _)⟩
    | false =>
      refine (stop_not g b 4 w h.base hg).mono ?_
      rintro e w' ⟨rfl, rfl⟩
      unfold cutB
      rw [if_neg (by rw [hg]; simp)]
      exact ⟨rfl, h, Chg.refl _⟩
  clear h
  rcases hcs with ⟨x, e1, e2, hc⟩ | ⟨e1, e2, hc⟩ | ⟨e1, e2, hc⟩
  · have HS := Lib.hid (hst hc)
    clear hst hc
    cases x
    all_goals
      go_enter Try.func23, Try.ntmps23
      go_wp2_with fail
      refine HS.out.mono ?_
      rintro e w1 ⟨rfl, hd, hcg⟩
      have HD := Lib.hid hd
      have HC := Lib.hid hcg
      clear hd hcg
      go_wp2_with fail
      refine (bend_dec HD.out).mono ?_
      rintro e w2 ⟨rfl, hd, hcg⟩
      have HD2 := Lib.hid hd
      have HC2 := Lib.hid hcg
      clear hd hcg
      go_wp2_with fail
      go_end0
      exact ⟨rfl, HD2.out, HC.out.trans HC2.out⟩
  · have HS := Lib.hid (hst hc)
    clear hst hc
    go_enter Try.func23, Try.ntmps23
    go_wp2_with fail
    refine HS.out.mono ?_
    rintro e w1 ⟨rfl, hd, hcg⟩
    have HD := Lib.hid hd
    have HC := Lib.hid hcg
    clear hd hcg
    go_wp2_with fail
    refine (bend_dec HD.out).mono ?_
    rintro e w2 ⟨rfl, hd, hcg⟩
    have HD2 := Lib.hid hd
    have HC2 := Lib.hid hcg
    clear hd hcg
    go_wp2_with fail
    go_end0
    exact ⟨rfl, HD2.out, HC.out.trans HC2.out⟩
  · have he : endB b m = finB b := by
      unfold endB cutB
      rw [if_neg (fun h => hc h.1)]
    rw [he]
    clear hst hc he
    go_enter Try.func23, Try.ntmps23
    go_wp2_with fail
    refine (bend_dec H.out).mono ?_
    rintro e w2 ⟨rfl, hd, hcg⟩
    have HD2 := Lib.hid hd
    have HC2 := Lib.hid hcg
    clear hd hcg
    go_wp2_with fail
    go_end0
    exact ⟨rfl, HD2.out, HC2.out⟩
theorem done_calls {w : World} {g gw : Nat} {b : B4} {m : M} (h : DecAt w g gw 0 nilS b [] m) :
    Calls Try.prog 24 #[.pointer (some ⟨g, 0, none⟩)] w fun e w' => e = .returned (.bool (!b.going)) ∧ w = w' := by
  have hg := going_calls g b w h.base
  have hh := held_calls g 4 none 0 0 w h.c4
  cases hb : b.going with
  | true =>
    rw [hb] at hg
    clear h hb
    go_enter Try.func24, Try.ntmps24
    go_wp2_with (go_at_call 31; refine hg.mono ?_; rintro e w1 ⟨rfl, rfl⟩)
    go_ret
    exact ⟨rfl, rfl⟩
  | false =>
    rw [hb] at hg
    clear h hb
    go_enter Try.func24, Try.ntmps24
    go_wp2_with (first | (go_at_call 31; refine hg.mono ?_; rintro e w1 ⟨rfl, rfl⟩) | (go_at_call 30; refine hh.mono ?_; rintro e w1 ⟨rfl, rfl⟩))
    go_ret
    exact ⟨rfl, rfl⟩
end Go.Proofs.Ytnkinbfglenddaa.Dec
