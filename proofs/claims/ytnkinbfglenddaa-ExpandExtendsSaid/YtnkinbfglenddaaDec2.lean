/- The expander: a part's first byte, in either mode. -/
import Derived.Test.YtnkinbfglenddaaDec
namespace Go.Proofs.Ytnkinbfglenddaa.Dec
open Go.RowKit Go.Proofs.Ytnkinbfglenddaa.Win Go.Proofs.Ytnkinbfglenddaa.Stp Go.Proofs.Ytnkinbfglenddaa.Mach
set_option linter.unusedVariables false
set_option linter.unusedSimpArgs false
def NextPost (w : World) (g gw rb : Nat) (v : Value) (b : B4) (l : List Int) (r : Option (M × List Int)) (e : Ending) (w' : World) : Prop :=
  match r with
  | some (m', em) => e = .returned (.bool true) ∧ ∃ v', DecAt w' g gw rb v' b (l ++ em) m' ∧ Chg (FS g gw v) w w'
  | none => e = .returned (.bool false) ∧ ∃ m', DecAt w' g gw rb v b l m' ∧ Chg (FS g gw v) w w'
section
variable {w : World} {g gw rb : Nat} {v : Value} {b : B4} {l : List Int} {m : M}
theorem np_same (h : DecAt w g gw rb v b l m) : NextPost w g gw rb v b l (some (m, [])) (.returned (.bool true)) w := ⟨rfl, v, by rw [List.append_nil]; exact h, Chg.refl _⟩
theorem np_none (h : DecAt w g gw rb v b l m) : NextPost w g gw rb v b l none (.returned (.bool false)) w := ⟨rfl, m, h, Chg.refl _⟩
theorem np_of {w' : World} {m' : M} (h : DecAt w' g gw rb v b l m') (hc : Chg (FS g gw v) w w') : NextPost w g gw rb v b l (some (m', [])) (.returned (.bool true)) w' := ⟨rfl, v, by rw [List.append_nil]; exact h, hc⟩
theorem np_nof {w' : World} {m' : M} (h : DecAt w' g gw rb v b l m') (hc : Chg (FS g gw v) w w') : NextPost w g gw rb v b l none (.returned (.bool false)) w' := ⟨rfl, m', h, hc⟩
theorem at_begin (h : DecAt w g gw rb v b l m) (k n : Int) : DecAt ((w.setCell ⟨g, 8, none⟩ (.int .i64 k)).setCell ⟨g, 9, none⟩ (.int .i64 n)) g gw rb v b l (m.begin k n) :=
  (h.set 8 (.int .i64 k) (b' := b) (m' := { m with beg := k }) rfl rfl).set 9 (.int .i64 n) rfl rfl
theorem chg_g (j : Nat) (u : Value) : Chg (FS g gw v) w (w.setCell ⟨g, j, none⟩ u) := Chg.set (S := FS g gw v) w (.inl rfl) j u
theorem at_act (h : DecAt w g gw rb v b l m) (n : Int) : DecAt (((w.setCell ⟨g, 7, none⟩ (.int .i64 n)).setCell ⟨g, 6, none⟩ (.bool false)).setCell ⟨g, 8, none⟩ (.int .i64 0)) g gw rb v b l (m.activate n) :=
  ((h.set 7 (.int .i64 n) (b' := b) (m' := { m with act := n }) rfl rfl).set 6 (.bool false) (b' := b) (m' := { m with act := n, uni := false }) rfl rfl).set 8 (.int .i64 0) rfl rfl
theorem np_begin (h : DecAt w g gw rb v b l m) (k n : Int) : NextPost w g gw rb v b l (some (m.begin k n, [])) (.returned (.bool true)) ((w.setCell ⟨g, 8, none⟩ (.int .i64 k)).setCell ⟨g, 9, none⟩ (.int .i64 n)) := np_of (at_begin h k n) ((chg_g 8 _).trans (chg_g 9 _))
theorem np_act (h : DecAt w g gw rb v b l m) (n : Int) : NextPost w g gw rb v b l (some (m.activate n, [])) (.returned (.bool true)) (((w.setCell ⟨g, 7, none⟩ (.int .i64 n)).setCell ⟨g, 6, none⟩ (.bool false)).setCell ⟨g, 8, none⟩ (.int .i64 0)) := np_of (at_act h n) (((chg_g 7 _).trans (chg_g 6 _)).trans (chg_g 8 _))
end
/-- One scalar waits, laid in a slice of its own. -/
theorem hold_at {w w0 : World} {g gw rb : Nat} {v : Value} {b : B4} {l : List Int} {m : M} (x : Int) (a : Nat) (h : DecAt w0 g gw rb v b l m) (ha : w0.heap.size = a) (hw : w = w0.alloc (.cells #[.int .u32 x] 25)) (hl : l.length ≤ 1000000) :
    Calls Try.prog 49 #[.pointer (some ⟨g, 4, none⟩), .slice (some ⟨a, 0, none⟩) 1 1] w fun e w' => e = .returned (.tuple #[]) ∧ ∃ v', DecAt w' g gw rb v' b (l ++ [x]) m ∧ Chg (FS g gw v) w0 w' := by
  subst hw
  subst ha
  have h1 := h.alloc (.cells #[.int .u32 x] 25)
  refine (hold_calls g 4 rb v l x w0.heap.size _ h1.c4 (h1.fz 4) h1.row h1.rbl h1.row_g (by rw [cell_of (heap_alloc_new w0 _)]; rfl) hl).mono ?_
  rintro e w' ⟨rfl, r, c, w1, rfl, hown, hg, hat, hr⟩
  obtain ⟨hd, hc⟩ := h1.hold x hown hg hr
  exact ⟨rfl, _, hd, chg_then (Chg.alloc w0 _) hc (fun i _ hi => hi)⟩
theorem hold_one {w w0 : World} {g gw rb : Nat} {v : Value} {b : B4} {l : List Int} {m : M} (x : Int) (h : DecAt w0 g gw rb v b l m) (hw : w = w0.alloc (.cells #[.int .u32 x] 25)) (hl : l.length ≤ 1000000) :
    Calls Try.prog 49 #[.pointer (some ⟨g, 4, none⟩), .slice (some ⟨w0.heap.size, 0, none⟩) 1 1] w fun e w' => e = .returned (.tuple #[]) ∧ ∃ v', DecAt w' g gw rb v' b (l ++ [x]) m ∧ Chg (FS g gw v) w0 w' := hold_at x _ h rfl hw hl

set_option maxRecDepth 100000 in
set_option maxHeartbeats 400000 in
theorem single_hi {w : World} {g gw rb : Nat} {v : Value} {b : B4} {l : List Int} {m : M} (x : Int) (h : DecAt w g gw rb v b l m) (hG : Mach.Good m) (x0 : 128 ≤ x) (x1 : x ≤ 255) (hl : l.length ≤ 1000000) (hu : m.upper = 0) :
    Calls Try.prog 42 #[.pointer (some ⟨g, 0, none⟩), .int .u8 x] w (NextPost w g gw rb v b l (some (m, [wAt m.o m.act + x - 128]))) := by
  have h11 := h.c11
  have H := Lib.hid h
  have HGd := Lib.hid hG
  have h5 := h.c5
  have h7 := h.c7
  clear h hG
  have hub : (m.upper != 0) = false := by simp [hu]
  have k12 : (x == 12) = false := by rw [beq_eq_false_iff_ne]; omega
  clear hu
  have hr := HGd.out.at_ HGd.out.act.1 HGd.out.act.2
  have hat : ∀ n : Nat, Calls Try.prog 48 #[.pointer (some ⟨gw, 0, none⟩), .int .i64 m.act] (w.drewN n) fun e w' => e = .returned (.int .u32 (wAt m.o m.act)) ∧ w' = w.drewN n := fun n => (at_calls gw m.o used0 m.act (w.drewN n) (H.out.win.keep rfl)).mono fun e w' h => ⟨h.1, h.2.symm⟩
  obtain ⟨y, hy⟩ : ∃ y, y = wAt m.o m.act := ⟨_, rfl⟩
  rw [← hy] at hr hat ⊢
  have HAT := Lib.hid hat
  obtain ⟨y0, y1⟩ := hr
  clear hy hat
  go_enter Try.func42, Try.ntmps42
  have w1 : IntKind.u32.wrap x = x := by rw [IntKind.wrap_u32]; omega
  have w2 : IntKind.u32.wrap (y + x) = y + x := by rw [IntKind.wrap_u32]; omega
  have w3 : IntKind.u32.wrap (y + x - 128) = y + x - 128 := by rw [IntKind.wrap_u32]; omega
  go_wp2_with fail
  go_region_with (first | (go_at_call 48; refine (HAT.out 0).mono ?_; rintro e w1 ⟨rfl, rfl⟩) | (go_at_call 48; refine (HAT.out 1).mono ?_; rintro e w1 ⟨rfl, rfl⟩) | (go_at_call 49; refine (hold_one (y + x - 128) (H.out.drewN 1) rfl hl).mono ?_; rintro e w1 ⟨rfl, hd⟩; have HD := Lib.hid hd; clear hd))
  all_goals
    go_wp2_with fail
    go_ret
    obtain ⟨v', hd, hc⟩ := HD.out
    exact ⟨rfl, v', hd, (Chg.drewN w 1).trans hc⟩

set_option maxHeartbeats 4000000 in
theorem single_calls {w : World} {g gw rb : Nat} {v : Value} {b : B4} {l : List Int} {m : M} (x : Int) (h : DecAt w g gw rb v b l m) (hG : Mach.Good m) (x0 : 0 ≤ x) (x1 : x ≤ 255) (hl : l.length ≤ 1000000) :
    Calls Try.prog 42 #[.pointer (some ⟨g, 0, none⟩), .int .u8 x] w (NextPost w g gw rb v b l (Mach.single m x)) := by
  have h11 := h.c11
  have H := Lib.hid h
  have HGd := Lib.hid hG

  have h5 := h.c5
  have h6 := h.c6
  have h7 := h.c7
  have f6 := h.fz 6
  clear h hG
  by_cases hu : m.upper = 0
  rotate_left
  · have hub : (m.upper != 0) = true := by simp [hu]
    by_cases h14 : x = 14
    · subst h14
      have hs : Mach.single m 14 = some (m.begin 5 0, []) := by unfold Mach.single; rw [if_neg (by simp), if_neg (by decide), if_neg (by decide), if_neg (by decide), if_neg (by decide), if_neg (by decide), if_pos rfl]
      rw [hs]
      clear hs
      clear hu
      go_enter Try.func42, Try.ntmps42
      go_wp2_with (go_at_call 55; refine (begin_calls _ _ H.out).mono ?_; rintro e w1 ⟨rfl, rfl⟩)
      go_ret
      exact np_begin H.out _ _
    · have hb : (x != 14) = true := by simp [h14]
      have hs : Mach.single m x = none := by unfold Mach.single; rw [if_pos (.inl ⟨hu, h14⟩)]
      rw [hs]
      clear hs
      clear hu h14
      go_enter Try.func42, Try.ntmps42
      go_wp2_with fail
      go_ret
      exact np_none H.out
  have hub : (m.upper != 0) = false := by simp [hu]
  by_cases h12 : x = 12
  · subst h12
    have hs : Mach.single m 12 = none := by unfold Mach.single; rw [if_pos (.inr rfl)]
    rw [hs]
    clear hs
    clear hu
    go_enter Try.func42, Try.ntmps42
    go_wp2_with fail
    go_ret
    exact np_none H.out
  have k12 : (x == 12) = false := by rw [beq_eq_false_iff_ne]; exact h12
  have hq : ¬ ((m.upper ≠ 0 ∧ x ≠ 14) ∨ x = 12) := by omega
  clear hu
  by_cases h128 : 128 ≤ x
  · have hs : Mach.single m x = some (m, [wAt m.o m.act + x - 128]) := by unfold Mach.single; rw [if_neg hq, if_pos h128]
    rw [hs]
    exact single_hi x H.out HGd.out h128 x1 hl (by simpa using hub)
  by_cases hp : pass x = true
  · have hs : Mach.single m x = some (m, [x]) := by unfold Mach.single; rw [if_neg hq, if_neg h128, if_pos hp]
    rw [hs]
    have hpp := hp
    simp only [pass, Bool.or_eq_true, decide_eq_true_eq] at hpp
    have hcs : 32 ≤ x ∨ x = 0 ∨ x = 9 ∨ x = 10 ∨ x = 13 := by omega
    clear hs hq h12 hp hpp
    rcases hcs with hc | rfl | rfl | rfl | rfl
    all_goals
      go_enter Try.func42, Try.ntmps42
      go_wp2_with (go_at_call 49; refine (hold_one _ H.out rfl hl).mono ?_; rintro e w1 ⟨rfl, hd⟩; have HD := Lib.hid hd; clear hd)
      go_ret
      exact ⟨rfl, HD.out⟩
  have hpp := hp
  simp only [pass, Bool.or_eq_true, decide_eq_true_eq, not_or] at hpp
  obtain ⟨⟨⟨⟨p32, p0⟩, p9⟩, p10⟩, p13⟩ := hpp
  have k0 : (x == 0) = false := by rw [beq_eq_false_iff_ne]; exact p0
  have k9 : (x == 9) = false := by rw [beq_eq_false_iff_ne]; exact p9
  have k10 : (x == 10) = false := by rw [beq_eq_false_iff_ne]; exact p10
  have k13 : (x == 13) = false := by rw [beq_eq_false_iff_ne]; exact p13
  by_cases h24 : 24 ≤ x
  · skip
    have hs : Mach.single m x = some (m.begin 2 (x - 24), []) := by unfold Mach.single; rw [if_neg hq, if_neg h128, if_neg hp, if_pos h24]
    rw [hs]
    clear hs
    clear hq hp p0 p9 p10 p13 h12
    go_enter Try.func42, Try.ntmps42
    go_wp2_with (go_at_call 55; refine (begin_calls _ _ H.out).mono ?_; rintro e w1 ⟨rfl, rfl⟩)
    go_ret
    exact np_begin H.out _ _
  by_cases h16 : 16 ≤ x
  · skip
    have hs : Mach.single m x = some (m.activate (x - 16), []) := by unfold Mach.single; rw [if_neg hq, if_neg h128, if_neg hp, if_neg h24, if_pos h16]
    rw [hs]
    clear hs
    clear hq hp p0 p9 p10 p13 h12
    go_enter Try.func42, Try.ntmps42
    go_wp2_with (go_at_call 52; refine (activate_calls _ H.out).mono ?_; rintro e w1 ⟨rfl, rfl⟩)
    go_ret
    exact np_act H.out _
  by_cases h15 : x = 15
  · skip
    have hs : Mach.single m x = some ({ m with uni := true }, []) := by unfold Mach.single; rw [if_neg hq, if_neg h128, if_neg hp, if_neg h24, if_neg h16, if_pos h15]
    rw [hs]
    clear hs
    clear hq hp p0 p9 p10 p13 h12; subst h15
    go_enter Try.func42, Try.ntmps42
    go_wp2_with fail
    go_ret
    exact np_of (H.out.set 6 (.bool true) rfl rfl) (chg_g 6 _)
  have k15 : (x == 15) = false := by rw [beq_eq_false_iff_ne]; exact h15
  by_cases h14 : x = 14
  · skip
    have hs : Mach.single m x = some (m.begin 5 0, []) := by unfold Mach.single; rw [if_neg hq, if_neg h128, if_neg hp, if_neg h24, if_neg h16, if_neg h15, if_pos h14]
    rw [hs]
    clear hs
    clear hq hp p0 p9 p10 p13 h12; subst h14
    go_enter Try.func42, Try.ntmps42
    go_wp2_with (go_at_call 55; refine (begin_calls _ _ H.out).mono ?_; rintro e w1 ⟨rfl, rfl⟩)
    go_ret
    exact np_begin H.out _ _
  have k14 : (x == 14) = false := by rw [beq_eq_false_iff_ne]; exact h14
  by_cases h11x : x = 11
  · skip
    have hs : Mach.single m x = some (m.begin 3 0, []) := by unfold Mach.single; rw [if_neg hq, if_neg h128, if_neg hp, if_neg h24, if_neg h16, if_neg h15, if_neg h14, if_pos h11x]
    rw [hs]
    clear hs
    clear hq hp p0 p9 p10 p13 h12; subst h11x
    go_enter Try.func42, Try.ntmps42
    go_wp2_with (go_at_call 55; refine (begin_calls _ _ H.out).mono ?_; rintro e w1 ⟨rfl, rfl⟩)
    go_ret
    exact np_begin H.out _ _
  have k11 : (x == 11) = false := by rw [beq_eq_false_iff_ne]; exact h11x
  have hs : Mach.single m x = some (m.begin 1 (x - 1), []) := by unfold Mach.single; rw [if_neg hq, if_neg h128, if_neg hp, if_neg h24, if_neg h16, if_neg h15, if_neg h14, if_neg h11x]
  rw [hs]
  have x1x : 1 ≤ x := by omega
  clear hs h15 h14 h11x hq hp p0 p9 p10 p13 h12
  go_enter Try.func42, Try.ntmps42
  go_wp2_with (go_at_call 55; refine (begin_calls _ _ H.out).mono ?_; rintro e w1 ⟨rfl, rfl⟩)
  go_ret
  exact np_begin H.out _ _
set_option maxHeartbeats 4000000 in
theorem double_calls {w : World} {g gw rb : Nat} {v : Value} {b : B4} {l : List Int} {m : M} (x : Int) (h : DecAt w g gw rb v b l m) (x0 : 0 ≤ x) (x1 : x ≤ 255) :
    Calls Try.prog 41 #[.pointer (some ⟨g, 0, none⟩), .int .u8 x] w (NextPost w g gw rb v b l (Mach.double m x)) := by
  have h11 := h.c11
  have H := Lib.hid h

  have h10 := h.c10
  have f10 := h.fz 10
  clear h
  by_cases hr : x < 224 ∨ 242 < x
  · have h10' := H.out.set 10 (.int .u8 x) (b' := b) (m' := { m with first := x }) rfl rfl
    have hf := fits_calls x h10'
    have H10 := Lib.hid h10'
    have e : ({ m with first := x } : M).fits x = m.fits x := rfl
    rw [e] at hf
    clear h10' e
    cases hfx : m.fits x with
    | true =>
      have hs : Mach.double m x = some (({ m with first := x } : M).begin 6 0, []) := by unfold Mach.double; rw [if_pos hr, if_pos hfx]
      rw [hs]
      rw [hfx] at hf
      clear hs hfx
      rcases hr with hr | hr
      · go_enter Try.func41, Try.ntmps41
        go_wp2_with (first | (go_at_call 54; refine hf.mono ?_; rintro e w1 ⟨rfl, rfl⟩) | (go_at_call 55; refine (begin_calls _ _ H10.out).mono ?_; rintro e w1 ⟨rfl, rfl⟩))
        go_ret
        exact np_of (at_begin H10.out 6 0) (((chg_g 10 _).trans (chg_g 8 _)).trans (chg_g 9 _))
      · have hr' : ¬ x < 224 := by omega
        go_enter Try.func41, Try.ntmps41
        go_wp2_with (first | (go_at_call 54; refine hf.mono ?_; rintro e w1 ⟨rfl, rfl⟩) | (go_at_call 55; refine (begin_calls _ _ H10.out).mono ?_; rintro e w1 ⟨rfl, rfl⟩))
        go_ret
        exact np_of (at_begin H10.out 6 0) (((chg_g 10 _).trans (chg_g 8 _)).trans (chg_g 9 _))
    | false =>
      have hs : Mach.double m x = none := by unfold Mach.double; rw [if_pos hr, if_neg (by rw [hfx]; decide)]
      rw [hs]
      rw [hfx] at hf
      clear hs hfx
      rcases hr with hr | hr
      · go_enter Try.func41, Try.ntmps41
        go_wp2_with (go_at_call 54; refine hf.mono ?_; rintro e w1 ⟨rfl, rfl⟩)
        go_ret
        exact np_nof H10.out (chg_g 10 _)
      · have hr' : ¬ x < 224 := by omega
        go_enter Try.func41, Try.ntmps41
        go_wp2_with (go_at_call 54; refine hf.mono ?_; rintro e w1 ⟨rfl, rfl⟩)
        go_ret
        exact np_nof H10.out (chg_g 10 _)
  have r1 : ¬ x < 224 := fun e => hr (.inl e)
  have r2 : ¬ 242 < x := fun e => hr (.inr e)
  by_cases h240 : x = 240
  · skip
    have hs : Mach.double m x = some (m.begin 5 0, []) := by unfold Mach.double; rw [if_neg hr, if_pos h240]
    rw [hs]
    clear hs
    clear hr; subst h240
    go_enter Try.func41, Try.ntmps41
    go_wp2_with (go_at_call 55; refine (begin_calls _ _ H.out).mono ?_; rintro e w1 ⟨rfl, rfl⟩)
    go_ret
    exact np_begin H.out _ _
  have k240 : (x == 240) = false := by rw [beq_eq_false_iff_ne]; exact h240
  by_cases hu : m.upper = 0
  rotate_left
  · have hub : (m.upper != 0) = true := by simp [hu]
    have hs : Mach.double m x = none := by unfold Mach.double; rw [if_neg hr, if_neg h240, if_pos (.inl hu)]
    rw [hs]
    clear hs
    clear hr hu h240
    go_enter Try.func41, Try.ntmps41
    go_wp2_with fail
    go_ret
    exact np_none H.out
  have hub : (m.upper != 0) = false := by simp [hu]
  by_cases h242 : x = 242
  · skip
    have hs : Mach.double m x = none := by unfold Mach.double; rw [if_neg hr, if_neg h240, if_pos (.inr h242)]
    rw [hs]
    clear hs
    clear hr hu h240; subst h242
    go_enter Try.func41, Try.ntmps41
    go_wp2_with fail
    go_ret
    exact np_none H.out
  have k242 : (x == 242) = false := by rw [beq_eq_false_iff_ne]; exact h242
  have hq : ¬ (m.upper ≠ 0 ∨ x = 242) := by omega
  by_cases h241 : x = 241
  · skip
    have hs : Mach.double m x = some (m.begin 3 0, []) := by unfold Mach.double; rw [if_neg hr, if_neg h240, if_neg hq, if_pos h241]
    rw [hs]
    clear hs
    clear hr hu h240 h242 hq; subst h241
    go_enter Try.func41, Try.ntmps41
    go_wp2_with (go_at_call 55; refine (begin_calls _ _ H.out).mono ?_; rintro e w1 ⟨rfl, rfl⟩)
    go_ret
    exact np_begin H.out _ _
  have k241 : (x == 241) = false := by rw [beq_eq_false_iff_ne]; exact h241
  by_cases h232 : 232 ≤ x
  · skip
    have hs : Mach.double m x = some (m.begin 2 (x - 232), []) := by unfold Mach.double; rw [if_neg hr, if_neg h240, if_neg hq, if_neg h241, if_pos h232]
    rw [hs]
    clear hs
    clear hr hu h240 h242 hq h241
    go_enter Try.func41, Try.ntmps41
    go_wp2_with (go_at_call 55; refine (begin_calls _ _ H.out).mono ?_; rintro e w1 ⟨rfl, rfl⟩)
    go_ret
    exact np_begin H.out _ _
  have hs : Mach.double m x = some (m.activate (x - 224), []) := by unfold Mach.double; rw [if_neg hr, if_neg h240, if_neg hq, if_neg h241, if_neg h232]
  rw [hs]
  clear hs hr hu h240 h242 hq h241
  go_enter Try.func41, Try.ntmps41
  go_wp2_with (go_at_call 52; refine (activate_calls _ H.out).mono ?_; rintro e w1 ⟨rfl, rfl⟩)
  go_ret
  exact np_act H.out _
end Go.Proofs.Ytnkinbfglenddaa.Dec
