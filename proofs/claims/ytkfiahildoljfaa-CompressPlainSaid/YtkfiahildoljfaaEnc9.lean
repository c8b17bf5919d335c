/- The compressor: made, flushed, ended; is it done? -/
import Derived.Test.YtkfiahildoljfaaEnc8
namespace Go.Proofs.Ytkfiahildoljfaa.Enc
open Go.RowKit Go.Proofs.Ytkfiahildoljfaa.Win Go.Proofs.Ytkfiahildoljfaa.Stp Go.Proofs.YtkfiahildoljfaaW.PrintMore
set_option linter.unusedVariables false
set_option linter.unusedSimpArgs false
def isB (c : Int) : Bool := decide (c ≤ 1114111) && (decide (c < 55296) || decide (57343 < c))
theorem sis_calls (c : Int) (w : World) : Calls Try.prog 29 #[.int .u32 c] w fun e w' => e = .returned (.bool (isB c)) ∧ w = w' := by
  unfold isB
  by_cases h1 : c ≤ 1114111
  · by_cases h2 : c < 55296
    · rw [decide_eq_true h1, decide_eq_true h2]
      go_enter Try.func29, Try.ntmps29
      go_wp2
      go_ret
      exact ⟨rfl, rfl⟩
    · rw [decide_eq_true h1, decide_eq_false h2]
      go_enter Try.func29, Try.ntmps29
      go_wp2
      go_ret
      exact ⟨rfl, rfl⟩
  · rw [decide_eq_false h1]
    go_enter Try.func29, Try.ntmps29
    go_wp2
    go_ret
    exact ⟨rfl, rfl⟩
def NONE : Int := 2147483648
def e0 (p : Bool) : E := { o := firsts, u := used0, plain := p, uni := false, act := 0, beh := false, wt := 2147483648 }
def b40 : B4 := { at_ := 0, err := 0, pl := 0, fin := false }
theorem eg0 (p : Bool) : EG (e0 p) := by
  have h2 : ∀ x ∈ firsts, 128 ≤ x ∧ x ≤ 1114000 := by decide +kernel
  have h5 : ∀ n ∈ used0, 0 ≤ n ∧ n < 8 := by decide +kernel
  refine ⟨rfl, h2, fun n h0 h8 => ?_, rfl, h5, ⟨Int.le_refl 0, by show (0 : Int) < 8; decide⟩⟩
  show n ∈ used0
  have : n = 0 ∨ n = 1 ∨ n = 2 ∨ n = 3 ∨ n = 4 ∨ n = 5 ∨ n = 6 ∨ n = 7 := by omega
  rcases this with rfl | rfl | rfl | rfl | rfl | rfl | rfl | rfl <;> decide
theorem newEncoder_calls (p : Bool) (w : World) : Calls Try.prog 12 #[.bool p] w fun e w' => e = .returned (.pointer (some ⟨w.heap.size + 1, 0, none⟩)) ∧ EncAt w' (w.heap.size + 1) w.heap.size b40 [] (e0 p) ∧ Below w.heap.size w w' ∧ w'.heap.size = w.heap.size + 2 := by
  have hn : Calls Try.prog 22 #[] w fun e w' => e = .returned (.pointer (some ⟨w.heap.size, 0, none⟩)) ∧ w' = w.alloc (.cells (winCells firsts used0).toArray 70) := by
    go_enter Try.func22, Try.ntmps22
    go_wp2
    go_ret
    exact ⟨rfl, rfl⟩
  go_enter Try.func12, Try.ntmps12
  go_wp2_with (go_at_call 22; refine hn.mono ?_; rintro e w1 ⟨rfl, rfl⟩)
  go_ret
  have e1 : (w.alloc (.cells (winCells firsts used0).toArray 70)).heap.size = w.heap.size + 1 := by simp
  refine ⟨rfl, ⟨?_, ⟨?_, rfl, rfl⟩⟩, ((Below.refl _ _).alloc (Nat.le_refl _) _).alloc (by simp) _, by simp⟩
  · rw [← e1]; exact heap_alloc_new _ _
  · rw [Below.heap_alloc _ _ _ (by simp)]; exact heap_alloc_new _ _
/-- What waits: nothing, or a scalar. -/
def Wt (m : E) : Prop := m.wt = 2147483648 ∨ 0 ≤ m.wt ∧ m.wt ≤ 1114111
def flushC (m : E) : E × List Int := if m.wt = 2147483648 then (m, []) else ({ (workC m m.wt 2147483648).1 with wt := 2147483648 }, (workC m m.wt 2147483648).2)
theorem EG.flush {m : E} (h : EG m) (hw : Wt m) : EG (flushC m).1 := by
  unfold flushC
  split
  · exact h
  · rename_i hne
    rcases hw with h1 | ⟨h1, h2⟩
    · exact absurd h1 hne
    · exact (h.work h1 h2).same rfl rfl rfl
section
variable {w : World} {g gw : Nat} {b : B4} {l : List Int} {m : E}
theorem flush_calls (h : EncAt w g gw b l m) (hG : EG m) (hw : Wt m) (hl : l.length < 999800) :
    Calls Try.prog 30 #[.pointer (some ⟨g, 0, none⟩)] w (KeepPost w g gw b (l ++ (flushC m).2) (flushC m).1) := by
  have h10 := h.c10
  unfold flushC
  by_cases hn : m.wt = 2147483648
  · rw [if_pos hn]
    have hb : (m.wt != 2147483648) = false := by simp [hn]
    have H := Lib.hid h
    clear h hG hw hn
    go_enter Try.func30, Try.ntmps30
    go_wp2_with fail
    go_end0
    refine ⟨rfl, ?_, Chg.refl _⟩
    simp only [List.append_nil]
    exact H.out
  · rw [if_neg hn]
    have hb : (m.wt != 2147483648) = true := by simp [hn]
    have hr : 0 ≤ m.wt ∧ m.wt ≤ 1114111 := by
      rcases hw with h1 | h1
      · exact absurd h1 hn
      · exact h1
    have HW := Lib.hid (work_calls m.wt 2147483648 h hG hr.1 hr.2 (by decide) (by decide) hl)
    clear h hG hw hn hr
    go_enter Try.func30, Try.ntmps30
    go_wp2_with fail
    refine HW.out.mono ?_
    rintro e w1 ⟨rfl, hd, hc⟩
    have h10b := hd.c10
    have f10b := hd.fz 10
    have HD := Lib.hid hd
    have HC := Lib.hid hc
    clear hd hc
    go_wp2_with fail
    go_end0
    exact ⟨rfl, HD.out.set 10 (.int .u32 2147483648) rfl rfl rfl, HC.out.trans (efs_g 10 _)⟩
def endM (b : B4) (m : E) : E := if b.going = true then (flushC m).1 else m
def endE (b : B4) (m : E) : List Int := if b.going = true then (flushC m).2 else []
def finB (b : B4) : B4 := if b.going = true then { b with fin := true } else b
theorem bend_enc (h : EncAt w g gw b l m) : Calls Try.prog 34 #[.pointer (some ⟨g, 0, none⟩)] w fun e w' => e = .returned (.tuple #[]) ∧ EncAt w' g gw (finB b) l m ∧ Chg (EFS g gw) w w' := by
  refine (bend_calls g b w h.base).mono ?_
  rintro e w' ⟨rfl, rfl⟩
  unfold finB
  cases hg : b.going with
  | true => rw [if_pos rfl, if_pos rfl]; exact ⟨rfl, h.set 3 (.bool true) rfl rfl rfl, efs_g 3 _⟩
  | false => rw [if_neg (by decide), if_neg (by decide)]; exact ⟨rfl, h, Chg.refl _⟩
theorem end_calls (h : EncAt w g gw b l m) (hG : EG m) (hw : Wt m) (hl : l.length < 999800) :
    Calls Try.prog 18 #[.pointer (some ⟨g, 0, none⟩)] w fun e w' => e = .returned (.tuple #[]) ∧ EncAt w' g gw (finB b) (l ++ endE b m) (endM b m) ∧ Chg (EFS g gw) w w' := by
  have hgo := going_calls g b w h.base
  unfold endE endM
  cases hg : b.going with
  | true =>
    rw [hg] at hgo
    rw [if_pos rfl, if_pos rfl]
    have HGo := Lib.hid hgo
    have HF := Lib.hid (flush_calls h hG hw hl)
    clear h hG hw hg hgo
    go_enter Try.func18, Try.ntmps18
    go_wp2_with fail
    refine HGo.out.mono ?_
    rintro e w1 ⟨rfl, rfl⟩
    go_wp2_with fail
    refine HF.out.mono ?_
    rintro e w1 ⟨rfl, hd, hc⟩
    have HB := Lib.hid (bend_enc hd)
    have HC := Lib.hid hc
    clear hd hc
    go_wp2_with fail
    refine HB.out.mono ?_
    rintro e w2 ⟨rfl, hd, hc⟩
    have HD2 := Lib.hid hd
    have HC2 := Lib.hid hc
    clear hd hc
    go_wp2_with fail
    go_end0
    exact ⟨rfl, HD2.out, HC.out.trans HC2.out⟩
  | false =>
    rw [hg] at hgo
    rw [if_neg (by simp), if_neg (by simp), List.append_nil]
    have HGo := Lib.hid hgo
    have HB := Lib.hid (bend_enc h)
    clear h hG hw hg hgo
    go_enter Try.func18, Try.ntmps18
    go_wp2_with fail
    refine HGo.out.mono ?_
    rintro e w1 ⟨rfl, rfl⟩
    go_wp2_with fail
    refine HB.out.mono ?_
    rintro e w2 ⟨rfl, hd, hc⟩
    have HD2 := Lib.hid hd
    have HC2 := Lib.hid hc
    clear hd hc
    go_wp2_with fail
    go_end0
    exact ⟨rfl, HD2.out, HC2.out⟩
theorem done_calls (h : EncAt w g gw b l m) (hl : l.length ≤ 1000000) :
    Calls Try.prog 19 #[.pointer (some ⟨g, 0, none⟩)] w fun e w' => e = .returned (.bool (!b.going && decide (l = []))) ∧ w = w' := by
  have hgo := going_calls g b w h.base
  have HK := Lib.hid (kept_calls h hl)
  cases hg : b.going with
  | true =>
    rw [hg] at hgo
    have HGo := Lib.hid hgo
    clear h hg hgo
    go_enter Try.func19, Try.ntmps19
    go_wp2_with (first | (go_at_call 28; refine HGo.out.mono ?_; rintro e w1 ⟨rfl, rfl⟩) | (go_at_call 27; refine HK.out.mono ?_; rintro e w1 ⟨rfl, rfl⟩))
    go_ret
    exact ⟨rfl, rfl⟩
  | false =>
    rw [hg] at hgo
    have HGo := Lib.hid hgo
    have hle : decide (l = []) = ((l.length : Int) == 0) := by
      rw [Bool.eq_iff_iff]
      simp
    rw [hle]
    clear h hg hgo hle
    obtain ⟨n, hn⟩ : ∃ n, n = l.length := ⟨_, rfl⟩
    rw [← hn] at HK ⊢
    clear hn
    go_enter Try.func19, Try.ntmps19
    go_wp2_with (first | (go_at_call 28; refine HGo.out.mono ?_; rintro e w1 ⟨rfl, rfl⟩) | (go_at_call 27; refine HK.out.mono ?_; rintro e w1 ⟨rfl, rfl⟩))
    go_ret
    exact ⟨rfl, rfl⟩
end
end Go.Proofs.Ytkfiahildoljfaa.Enc
