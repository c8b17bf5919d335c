/- The expander: a part's first byte, in either mode. The expander: a unit. The windows beyond: two bytes stand for a window and an offset. The expander: a part's byte behind the first one; a byte. The expander: the other bytes behind a part's first one; any byte. The expander: made, fed, ended. The expander: ended; is it done? What Decode needs of a decoder. A machine that eats bytes and tells scalars, in memory: its base, the row that waits, and whatever else it has. The Feed of uni8.Decoder, at bytes that are right. -/
import Derived.Test.YtooiooledeblmaaGreatM1
import Derived.Lib.EndianBits
import Derived.Laws.Bits64
import Derived.Laws.BitsLemmas
import Derived.Deep.CutBlock
import Derived.Deep.DeepCutAuto
section
namespace Go.Proofs.YtooiooledeblmaaGreat.Dec
open Go.RowKit Go.Proofs.YtooiooledeblmaaGreat.Win Go.Proofs.YtooiooledeblmaaGreat.Stp Go.Proofs.YtooiooledeblmaaGreat.Mach
set_option linter.unusedVariables false
set_option linter.unusedSimpArgs false
def NextPost (w : World) (g gw rb : Nat) (v : Value) (b : B4) (l : List Int) (r : Option (M × List Int)) (e : Ending) (w' : World) : Prop :=
  match r with
  | some (m', em) => e = .returned (.bool true) ∧ ∃ v', DecAt w' g gw rb v' b (l ++ em) m' ∧ Chg (FS g gw v) w w'
  | none => e = .returned (.bool false) ∧ ∃ m', DecAt w' g gw rb v b l m' ∧ Chg (FS g gw v) w w'
section
variable {w : World} {g gw rb : Nat} {v : Value} {b : B4} {l : List Int} {m : M}
theorem np_same (h : DecAt w g gw rb v b l m) : NextPost w g gw rb v b l (some (m, [])) (.returned (.bool true)) w := ⟨rfl, v, by rw [List.append_nil]; exact h, Chg.refl _⟩
theorem np_none (h : DecAt w g gw rb v b l m) : NextPost w g gw rb v b l none (.returned (.bool false)) w := ⟨rfl, m, h, Chg.refl _⟩
theorem np_of {w' : World} {m' : M} (h : DecAt w' g gw rb v b l m') (hc : Chg (FS g gw v) w w') : NextPost w g gw rb v b l (some (m', [])) (.returned (.bool true)) w' := ⟨rfl, v, by rw [List.append_nil]; exact h, hc⟩
theorem np_nof {w' : World} {m' : M} (h : DecAt w' g gw rb v b l m') (hc : Chg (FS g gw v) w w') : NextPost w g gw rb v b l none (.returned (.bool false)) w' := ⟨rfl, m', h, hc⟩
theorem at_begin (h : DecAt w g gw rb v b l m) (k n : Int) : DecAt ((w.setCell ⟨g, 8, none⟩ (.int .i64 k)).setCell ⟨g, 9, none⟩ (.int .i64 n)) g gw rb v b l (m.begin k n) :=
  (h.set 8 (.int .i64 k) (b' := b) (m' := { m with beg := k }) rfl rfl).set 9 (.int .i64 n) rfl rfl
theorem chg_g (j : Nat) (u : Value) : Chg (FS g gw v) w (w.setCell ⟨g, j, none⟩ u) := Chg.set (S := FS g gw v) w (.inl rfl) j u
theorem at_act (h : DecAt w g gw rb v b l m) (n : Int) : DecAt (((w.setCell ⟨g, 7, none⟩ (.int .i64 n)).setCell ⟨g, 6, none⟩ (.bool false)).setCell ⟨g, 8, none⟩ (.int .i64 0)) g gw rb v b l (m.activate n) :=
  ((h.set 7 (.int .i64 n) (b' := b) (m' := { m with act := n }) rfl rfl).set 6 (.bool false) (b' := b) (m' := { m with act := n, uni := false }) rfl rfl).set 8 (.int .i64 0) rfl rfl
theorem np_begin (h : DecAt w g gw rb v b l m) (k n : Int) : NextPost w g gw rb v b l (some (m.begin k n, [])) (.returned (.bool true)) ((w.setCell ⟨g, 8, none⟩ (.int .i64 k)).setCell ⟨g, 9, none⟩ (.int .i64 n)) := np_of (at_begin h k n) ((chg_g 8 _).trans (chg_g 9 _))
theorem np_act (h : DecAt w g gw rb v b l m) (n : Int) : NextPost w g gw rb v b l (some (m.activate n, [])) (.returned (.bool true)) (((w.setCell ⟨g, 7, none⟩ (.int .i64 n)).setCell ⟨g, 6, none⟩ (.bool false)).setCell ⟨g, 8, none⟩ (.int .i64 0)) := np_of (at_act h n) (((chg_g 7 _).trans (chg_g 6 _)).trans (chg_g 8 _))
end
/-- One scalar waits, laid in a slice of its own. -/
theorem hold_at {w w0 : World} {g gw rb : Nat} {v : Value} {b : B4} {l : List Int} {m : M} (x : Int) (a : Nat) (h : DecAt w0 g gw rb v b l m) (ha : w0.heap.size = a) (hw : w = w0.alloc (.cells #[.int .u32 x] 31)) (hl : l.length ≤ 1000000) :
    Calls Tryz.prog 234 #[.pointer (some ⟨g, 4, none⟩), .slice (some ⟨a, 0, none⟩) 1 1] w fun e w' => e = .returned (.tuple #[]) ∧ ∃ v', DecAt w' g gw rb v' b (l ++ [x]) m ∧ Chg (FS g gw v) w0 w' := by
  subst hw
  subst ha
  have h1 := h.alloc (.cells #[.int .u32 x] 31)
  refine (hold_calls g 4 rb v l x w0.heap.size _ h1.c4 (h1.fz 4) h1.row h1.rbl h1.row_g (by rw [cell_of (heap_alloc_new w0 _)]; rfl) hl).mono ?_
  rintro e w' ⟨rfl, r, c, w1, rfl, hown, hg, hat, hr⟩
  obtain ⟨hd, hc⟩ := h1.hold x hown hg hr
  exact ⟨rfl, _, hd, chg_then (Chg.alloc w0 _) hc (fun i _ hi => hi)⟩
theorem hold_one {w w0 : World} {g gw rb : Nat} {v : Value} {b : B4} {l : List Int} {m : M} (x : Int) (h : DecAt w0 g gw rb v b l m) (hw : w = w0.alloc (.cells #[.int .u32 x] 31)) (hl : l.length ≤ 1000000) :
    Calls Tryz.prog 234 #[.pointer (some ⟨g, 4, none⟩), .slice (some ⟨w0.heap.size, 0, none⟩) 1 1] w fun e w' => e = .returned (.tuple #[]) ∧ ∃ v', DecAt w' g gw rb v' b (l ++ [x]) m ∧ Chg (FS g gw v) w0 w' := hold_at x _ h rfl hw hl

set_option maxRecDepth 100000 in
set_option maxHeartbeats 400000 in
theorem single_hi {w : World} {g gw rb : Nat} {v : Value} {b : B4} {l : List Int} {m : M} (x : Int) (h : DecAt w g gw rb v b l m) (hG : Mach.Good m) (x0 : 128 ≤ x) (x1 : x ≤ 255) (hl : l.length ≤ 1000000) (hu : m.upper = 0) :
    Calls Tryz.prog 275 #[.pointer (some ⟨g, 0, none⟩), .int .u8 x] w (NextPost w g gw rb v b l (some (m, [wAt m.o m.act + x - 128]))) := by
  have h11 := h.c11
  have H := Lib.hid h
  have HGd := Lib.hid hG
  have h5 := h.c5
  have h7 := h.c7
  clear h hG
  have hub : (m.upper != 0) = false := by simp [hu]
  have k12 : (x == 12) = false := by rw [beq_eq_false_iff_ne]; omega
  clear hu
  have hr := HGd.out.at_ HGd.out.act.1 HGd.out.act.2
  have hat : ∀ n : Nat, Calls Tryz.prog 215 #[.pointer (some ⟨gw, 0, none⟩), .int .i64 m.act] (w.drewN n) fun e w' => e = .returned (.int .u32 (wAt m.o m.act)) ∧ w' = w.drewN n := fun n => (at_calls gw m.o used0 m.act (w.drewN n) (H.out.win.keep rfl)).mono fun e w' h => ⟨h.1, h.2.symm⟩
  obtain ⟨y, hy⟩ : ∃ y, y = wAt m.o m.act := ⟨_, rfl⟩
  rw [← hy] at hr hat ⊢
  have HAT := Lib.hid hat
  obtain ⟨y0, y1⟩ := hr
  clear hy hat
  go_enter Tryz.func275, Tryz.ntmps275
  have w1 : IntKind.u32.wrap x = x := by rw [IntKind.wrap_u32]; omega
  have w2 : IntKind.u32.wrap (y + x) = y + x := by rw [IntKind.wrap_u32]; omega
  have w3 : IntKind.u32.wrap (y + x - 128) = y + x - 128 := by rw [IntKind.wrap_u32]; omega
  go_wp2_with fail
  go_region_with (first | (go_at_call 215; refine (HAT.out 0).mono ?_; rintro e w1 ⟨rfl, rfl⟩) | (go_at_call 215; refine (HAT.out 1).mono ?_; rintro e w1 ⟨rfl, rfl⟩) | (go_at_call 234; refine (hold_one (y + x - 128) (H.out.drewN 1) rfl hl).mono ?_; rintro e w1 ⟨rfl, hd⟩; have HD := Lib.hid hd; clear hd))
  all_goals
    go_wp2_with fail
    go_ret
    obtain ⟨v', hd, hc⟩ := HD.out
    exact ⟨rfl, v', hd, (Chg.drewN w 1).trans hc⟩

set_option maxHeartbeats 4000000 in
theorem single_calls {w : World} {g gw rb : Nat} {v : Value} {b : B4} {l : List Int} {m : M} (x : Int) (h : DecAt w g gw rb v b l m) (hG : Mach.Good m) (x0 : 0 ≤ x) (x1 : x ≤ 255) (hl : l.length ≤ 1000000) :
    Calls Tryz.prog 275 #[.pointer (some ⟨g, 0, none⟩), .int .u8 x] w (NextPost w g gw rb v b l (Mach.single m x)) := by
  have h11 := h.c11
  have H := Lib.hid h
  have HGd := Lib.hid hG

  have h5 := h.c5
  have h6 := h.c6
  have h7 := h.c7
  have f6 := h.fz 6
  clear h hG
  by_cases hu : m.upper = 0
  rotate_left
  · have hub : (m.upper != 0) = true := by simp [hu]
    by_cases h14 : x = 14
    · subst h14
      have hs : Mach.single m 14 = some (m.begin 5 0, []) := by unfold Mach.single; rw [if_neg (by simp), if_neg (by decide), if_neg (by decide), if_neg (by decide), if_neg (by decide), if_neg (by decide), if_pos rfl]
      rw [hs]
      clear hs
      clear hu
      go_enter Tryz.func275, Tryz.ntmps275
      go_wp2_with (go_at_call 279; refine (begin_calls _ _ H.out).mono ?_; rintro e w1 ⟨rfl, rfl⟩)
      go_ret
      exact np_begin H.out _ _
    · have hb : (x != 14) = true := by simp [h14]
      have hs : Mach.single m x = none := by unfold Mach.single; rw [if_pos (.inl ⟨hu, h14⟩)]
      rw [hs]
      clear hs
      clear hu h14
      go_enter Tryz.func275, Tryz.ntmps275
      go_wp2_with fail
      go_ret
      exact np_none H.out
  have hub : (m.upper != 0) = false := by simp [hu]
  by_cases h12 : x = 12
  · subst h12
    have hs : Mach.single m 12 = none := by unfold Mach.single; rw [if_pos (.inr rfl)]
    rw [hs]
    clear hs
    clear hu
    go_enter Tryz.func275, Tryz.ntmps275
    go_wp2_with fail
    go_ret
    exact np_none H.out
  have k12 : (x == 12) = false := by rw [beq_eq_false_iff_ne]; exact h12
  have hq : ¬ ((m.upper ≠ 0 ∧ x ≠ 14) ∨ x = 12) := by omega
  clear hu
  by_cases h128 : 128 ≤ x
  · have hs : Mach.single m x = some (m, [wAt m.o m.act + x - 128]) := by unfold Mach.single; rw [if_neg hq, if_pos h128]
    rw [hs]
    exact single_hi x H.out HGd.out h128 x1 hl (by simpa using hub)
  by_cases hp : pass x = true
  · have hs : Mach.single m x = some (m, [x]) := by unfold Mach.single; rw [if_neg hq, if_neg h128, if_pos hp]
    rw [hs]
    have hpp := hp
    simp only [pass, Bool.or_eq_true, decide_eq_true_eq] at hpp
    have hcs : 32 ≤ x ∨ x = 0 ∨ x = 9 ∨ x = 10 ∨ x = 13 := by omega
    clear hs hq h12 hp hpp
    rcases hcs with hc | rfl | rfl | rfl | rfl
    all_goals
      go_enter Tryz.func275, Tryz.ntmps275
      go_wp2_with (go_at_call 234; refine (hold_one _ H.out rfl hl).mono ?_; rintro e w1 ⟨rfl, hd⟩; have HD := Lib.hid hd; clear hd)
      go_ret
      exact ⟨rfl, HD.out⟩
  have hpp := hp
  simp only [pass, Bool.or_eq_true, decide_eq_true_eq, not_or] at hpp
  obtain ⟨⟨⟨⟨p32, p0⟩, p9⟩, p10⟩, p13⟩ := hpp
  have k0 : (x == 0) = false := by rw [beq_eq_false_iff_ne]; exact p0
  have k9 : (x == 9) = false := by rw [beq_eq_false_iff_ne]; exact p9
  have k10 : (x == 10) = false := by rw [beq_eq_false_iff_ne]; exact p10
  have k13 : (x == 13) = false := by rw [beq_eq_false_iff_ne]; exact p13
  by_cases h24 : 24 ≤ x
  · skip
    have hs : Mach.single m x = some (m.begin 2 (x - 24), []) := by unfold Mach.single; rw [if_neg hq, if_neg h128, if_neg hp, if_pos h24]
    rw [hs]
    clear hs
    clear hq hp p0 p9 p10 p13 h12
    go_enter Tryz.func275, Tryz.ntmps275
    go_wp2_with (go_at_call 279; refine (begin_calls _ _ H.out).mono ?_; rintro e w1 ⟨rfl, rfl⟩)
    go_ret
    exact np_begin H.out _ _
  by_cases h16 : 16 ≤ x
  · skip
    have hs : Mach.single m x = some (m.activate (x - 16), []) := by unfold Mach.single; rw [if_neg hq, if_neg h128, if_neg hp, if_neg h24, if_pos h16]
    rw [hs]
    clear hs
    clear hq hp p0 p9 p10 p13 h12
    go_enter Tryz.func275, Tryz.ntmps275
    go_wp2_with (go_at_call 276; refine (activate_calls _ H.out).mono ?_; rintro e w1 ⟨rfl, rfl⟩)
    go_ret
    exact np_act H.out _
  by_cases h15 : x = 15
  · skip
    have hs : Mach.single m x = some ({ m with uni := true }, []) := by unfold Mach.single; rw [if_neg hq, if_neg h128, if_neg hp, if_neg h24, if_neg h16, if_pos h15]
    rw [hs]
    clear hs
    clear hq hp p0 p9 p10 p13 h12; subst h15
    go_enter Tryz.func275, Tryz.ntmps275
    go_wp2_with fail
    go_ret
    exact np_of (H.out.set 6 (.bool true) rfl rfl) (chg_g 6 _)
  have k15 : (x == 15) = false := by rw [beq_eq_false_iff_ne]; exact h15
  by_cases h14 : x = 14
  · skip
    have hs : Mach.single m x = some (m.begin 5 0, []) := by unfold Mach.single; rw [if_neg hq, if_neg h128, if_neg hp, if_neg h24, if_neg h16, if_neg h15, if_pos h14]
    rw [hs]
    clear hs
    clear hq hp p0 p9 p10 p13 h12; subst h14
    go_enter Tryz.func275, Tryz.ntmps275
    go_wp2_with (go_at_call 279; refine (begin_calls _ _ H.out).mono ?_; rintro e w1 ⟨rfl, rfl⟩)
    go_ret
    exact np_begin H.out _ _
  have k14 : (x == 14) = false := by rw [beq_eq_false_iff_ne]; exact h14
  by_cases h11x : x = 11
  · skip
    have hs : Mach.single m x = some (m.begin 3 0, []) := by unfold Mach.single; rw [if_neg hq, if_neg h128, if_neg hp, if_neg h24, if_neg h16, if_neg h15, if_neg h14, if_pos h11x]
    rw [hs]
    clear hs
    clear hq hp p0 p9 p10 p13 h12; subst h11x
    go_enter Tryz.func275, Tryz.ntmps275
    go_wp2_with (go_at_call 279; refine (begin_calls _ _ H.out).mono ?_; rintro e w1 ⟨rfl, rfl⟩)
    go_ret
    exact np_begin H.out _ _
  have k11 : (x == 11) = false := by rw [beq_eq_false_iff_ne]; exact h11x
  have hs : Mach.single m x = some (m.begin 1 (x - 1), []) := by unfold Mach.single; rw [if_neg hq, if_neg h128, if_neg hp, if_neg h24, if_neg h16, if_neg h15, if_neg h14, if_neg h11x]
  rw [hs]
  have x1x : 1 ≤ x := by omega
  clear hs h15 h14 h11x hq hp p0 p9 p10 p13 h12
  go_enter Tryz.func275, Tryz.ntmps275
  go_wp2_with (go_at_call 279; refine (begin_calls _ _ H.out).mono ?_; rintro e w1 ⟨rfl, rfl⟩)
  go_ret
  exact np_begin H.out _ _
set_option maxHeartbeats 4000000 in
theorem double_calls {w : World} {g gw rb : Nat} {v : Value} {b : B4} {l : List Int} {m : M} (x : Int) (h : DecAt w g gw rb v b l m) (x0 : 0 ≤ x) (x1 : x ≤ 255) :
    Calls Tryz.prog 274 #[.pointer (some ⟨g, 0, none⟩), .int .u8 x] w (NextPost w g gw rb v b l (Mach.double m x)) := by
  have h11 := h.c11
  have H := Lib.hid h

  have h10 := h.c10
  have f10 := h.fz 10
  clear h
  by_cases hr : x < 224 ∨ 242 < x
  · have h10' := H.out.set 10 (.int .u8 x) (b' := b) (m' := { m with first := x }) rfl rfl
    have hf := fits_calls x h10'
    have H10 := Lib.hid h10'
    have e : ({ m with first := x } : M).fits x = m.fits x := rfl
    rw [e] at hf
    clear h10' e
    cases hfx : m.fits x with
    | true =>
      have hs : Mach.double m x = some (({ m with first := x } : M).begin 6 0, []) := by unfold Mach.double; rw [if_pos hr, if_pos hfx]
      rw [hs]
      rw [hfx] at hf
      clear hs hfx
      rcases hr with hr | hr
      · go_enter Tryz.func274, Tryz.ntmps274
        go_wp2_with (first | (go_at_call 278; refine hf.mono ?_; rintro e w1 ⟨rfl, rfl⟩) | (go_at_call 279; refine (begin_calls _ _ H10.out).mono ?_; rintro e w1 ⟨rfl, rfl⟩))
        go_ret
        exact np_of (at_begin H10.out 6 0) (((chg_g 10 _).trans (chg_g 8 _)).trans (chg_g 9 _))
      · have hr' : ¬ x < 224 := by omega
        go_enter Tryz.func274, Tryz.ntmps274
        go_wp2_with (first | (go_at_call 278; refine hf.mono ?_; rintro e w1 ⟨rfl, rfl⟩) | (go_at_call 279; refine (begin_calls _ _ H10.out).mono ?_; rintro e w1 ⟨rfl, rfl⟩))
        go_ret
        exact np_of (at_begin H10.out 6 0) (((chg_g 10 _).trans (chg_g 8 _)).trans (chg_g 9 _))
    | false =>
      have hs : Mach.double m x = none := by unfold Mach.double; rw [if_pos hr, if_neg (by rw [hfx]; decide)]
      rw [hs]
      rw [hfx] at hf
      clear hs hfx
      rcases hr with hr | hr
      · go_enter Tryz.func274, Tryz.ntmps274
        go_wp2_with (go_at_call 278; refine hf.mono ?_; rintro e w1 ⟨rfl, rfl⟩)
        go_ret
        exact np_nof H10.out (chg_g 10 _)
      · have hr' : ¬ x < 224 := by omega
        go_enter Tryz.func274, Tryz.ntmps274
        go_wp2_with (go_at_call 278; refine hf.mono ?_; rintro e w1 ⟨rfl, rfl⟩)
        go_ret
        exact np_nof H10.out (chg_g 10 _)
  have r1 : ¬ x < 224 := fun e => hr (.inl e)
  have r2 : ¬ 242 < x := fun e => hr (.inr e)
  by_cases h240 : x = 240
  · skip
    have hs : Mach.double m x = some (m.begin 5 0, []) := by unfold Mach.double; rw [if_neg hr, if_pos h240]
    rw [hs]
    clear hs
    clear hr; subst h240
    go_enter Tryz.func274, Tryz.ntmps274
    go_wp2_with (go_at_call 279; refine (begin_calls _ _ H.out).mono ?_; rintro e w1 ⟨rfl, rfl⟩)
    go_ret
    exact np_begin H.out _ _
  have k240 : (x == 240) = false := by rw [beq_eq_false_iff_ne]; exact h240
  by_cases hu : m.upper = 0
  rotate_left
  · have hub : (m.upper != 0) = true := by simp [hu]
    have hs : Mach.double m x = none := by unfold Mach.double; rw [if_neg hr, if_neg h240, if_pos (.inl hu)]
    rw [hs]
    clear hs
    clear hr hu h240
    go_enter Tryz.func274, Tryz.ntmps274
    go_wp2_with fail
    go_ret
    exact np_none H.out
  have hub : (m.upper != 0) = false := by simp [hu]
  by_cases h242 : x = 242
  · skip
    have hs : Mach.double m x = none := by unfold Mach.double; rw [if_neg hr, if_neg h240, if_pos (.inr h242)]
    rw [hs]
    clear hs
    clear hr hu h240; subst h242
    go_enter Tryz.func274, Tryz.ntmps274
    go_wp2_with fail
    go_ret
    exact np_none H.out
  have k242 : (x == 242) = false := by rw [beq_eq_false_iff_ne]; exact h242
  have hq : ¬ (m.upper ≠ 0 ∨ x = 242) := by omega
  by_cases h241 : x = 241
  · skip
    have hs : Mach.double m x = some (m.begin 3 0, []) := by unfold Mach.double; rw [if_neg hr, if_neg h240, if_neg hq, if_pos h241]
    rw [hs]
    clear hs
    clear hr hu h240 h242 hq; subst h241
    go_enter Tryz.func274, Tryz.ntmps274
    go_wp2_with (go_at_call 279; refine (begin_calls _ _ H.out).mono ?_; rintro e w1 ⟨rfl, rfl⟩)
    go_ret
    exact np_begin H.out _ _
  have k241 : (x == 241) = false := by rw [beq_eq_false_iff_ne]; exact h241
  by_cases h232 : 232 ≤ x
  · skip
    have hs : Mach.double m x = some (m.begin 2 (x - 232), []) := by unfold Mach.double; rw [if_neg hr, if_neg h240, if_neg hq, if_neg h241, if_pos h232]
    rw [hs]
    clear hs
    clear hr hu h240 h242 hq h241
    go_enter Tryz.func274, Tryz.ntmps274
    go_wp2_with (go_at_call 279; refine (begin_calls _ _ H.out).mono ?_; rintro e w1 ⟨rfl, rfl⟩)
    go_ret
    exact np_begin H.out _ _
  have hs : Mach.double m x = some (m.activate (x - 224), []) := by unfold Mach.double; rw [if_neg hr, if_neg h240, if_neg hq, if_neg h241, if_neg h232]
  rw [hs]
  clear hs hr hu h240 h242 hq h241
  go_enter Tryz.func274, Tryz.ntmps274
  go_wp2_with (go_at_call 276; refine (activate_calls _ H.out).mono ?_; rintro e w1 ⟨rfl, rfl⟩)
  go_ret
  exact np_act H.out _
end Go.Proofs.YtooiooledeblmaaGreat.Dec
end
section
namespace Go.Proofs.YtooiooledeblmaaGreat.Dec
open Go.RowKit Go.Proofs.YtooiooledeblmaaGreat.Win Go.Proofs.YtooiooledeblmaaGreat.Stp Go.Proofs.YtooiooledeblmaaGreat.Mach
set_option linter.unusedVariables false
set_option linter.unusedSimpArgs false
theorem DecAt.drew {w : World} {g gw rb : Nat} {v : Value} {b : B4} {l : List Int} {m : M} (h : DecAt w g gw rb v b l m) : DecAt w.drew g gw rb v b l m := h.keep (Nat.le_refl _) rfl rfl (fun _ _ => rfl)
theorem hold_in {w : World} {g gw rb : Nat} {v : Value} {b : B4} {l : List Int} {m : M} (x : Int) (a : Nat) (h : DecAt w g gw rb v b l m) (ha : w.cell? ⟨a, 0, none⟩ = some (.int .u32 x)) (hl : l.length ≤ 1000000) :
    Calls Tryz.prog 234 #[.pointer (some ⟨g, 4, none⟩), .slice (some ⟨a, 0, none⟩) 1 1] w fun e w' => e = .returned (.tuple #[]) ∧ ∃ v', DecAt w' g gw rb v' b (l ++ [x]) m ∧ Chg (FS g gw v) w w' := by
  refine (hold_calls g 4 rb v l x a _ h.c4 (h.fz 4) h.row h.rbl h.row_g ha hl).mono ?_
  rintro e w' ⟨rfl, r, c, w1, rfl, hown, hg, hat, hr⟩
  obtain ⟨hd, hc⟩ := h.hold x hown hg hr
  exact ⟨rfl, _, hd, hc⟩
theorem and1023 (x : Int) (h0 : 0 ≤ x) (h1 : x < 4294967296) : bits .and .u32 x 1023 = x % 1024 := bits_mask .u32 32 (by decide) wraps_u32 10 (by decide) x h0 h1
def WholePost (w : World) (g gw rb : Nat) (v : Value) (b : B4) (l : List Int) (r : M × List Int) (e : Ending) (w' : World) : Prop := e = .returned (.bool true) ∧ ∃ v', DecAt w' g gw rb v' b (l ++ r.2) r.1 ∧ Chg (FS g gw v) w w'
set_option maxRecDepth 100000 in
set_option maxHeartbeats 1000000 in
theorem whole_calls {w : World} {g gw rb : Nat} {v : Value} {b : B4} {l : List Int} {m : M} (u : Int) (h : DecAt w g gw rb v b l m) (hG : Mach.Good m) (u0 : 0 ≤ u) (u1 : u ≤ 65535) (hl : l.length ≤ 1000000) :
    Calls Tryz.prog 280 #[.pointer (some ⟨g, 0, none⟩), .int .u32 u] w (WholePost w g gw rb v b l (Mach.whole m u)) := by
  have h11 := h.c11
  have f11 := h.fz 11
  have h8 := h.c8
  have f8 := h.fz 8
  have hup := hG.upper
  have h1 := h.set 8 (.int .i64 0) (b' := b) (m' := { m with beg := 0 }) rfl rfl
  have H1 := Lib.hid h1
  have H := Lib.hid h
  have HGd := Lib.hid hG
  clear h hG h1
  by_cases hu : m.upper = 0
  · have hub : (m.upper != 0) = false := by simp [hu]
    by_cases hc : 55296 ≤ u ∧ u < 56320
    · have hs : Mach.whole m u = ({ m with beg := 0, upper := u }, []) := by unfold Mach.whole; rw [if_neg (by simp [hu]), if_pos hc]
      rw [hs]
      obtain ⟨a1, a2⟩ := hc
      clear hs hu hup
      go_enter Tryz.func280, Tryz.ntmps280
      go_wp2_with fail
      go_ret
      exact ⟨rfl, v, by rw [List.append_nil]; exact H1.out.set 11 (.int .u32 u) (b' := b) (m' := { m with beg := 0, upper := u }) rfl rfl, (chg_g 8 _).trans (chg_g 11 _)⟩
    · have hs : Mach.whole m u = ({ m with beg := 0 }, [u]) := by unfold Mach.whole; rw [if_neg (by simp [hu]), if_neg hc]
      rw [hs]
      have hcs : u < 55296 ∨ (55296 ≤ u ∧ ¬ u < 56320) := by omega
      clear hs hu hup hc
      rcases hcs with hc | ⟨hc, hd⟩
      all_goals
        go_enter Tryz.func280, Tryz.ntmps280
        go_wp2_with (go_at_call 234; refine (hold_at _ _ H1.out (by simp [World.setCell]) rfl hl).mono ?_; rintro e w1 ⟨rfl, hd⟩; have HD := Lib.hid hd; clear hd)
        go_ret
        obtain ⟨v', hd, hc⟩ := HD.out
        exact ⟨rfl, v', hd, (chg_g 8 _).trans hc⟩
  · have hub : (m.upper != 0) = true := by simp [hu]
    have hs : Mach.whole m u = ({ m with beg := 0, upper := 0 }, [65536 + m.upper % 1024 * 1024 + u % 1024]) := by unfold Mach.whole; rw [if_pos hu]
    rw [hs]
    obtain ⟨y, hy⟩ : ∃ y, y = m.upper := ⟨_, rfl⟩
    have hup' : 55296 ≤ y ∧ y < 56320 := by omega
    obtain ⟨p0, p1⟩ := hup'
    rw [← hy] at h11 hub ⊢
    clear hs hu hup hy
    have m1 := and1023 y (by omega) (by omega)
    have m2 := and1023 u (by omega) (by omega)
    have e1 : IntKind.u32.wrap (IntKind.u32.wrap (65536 + IntKind.u32.wrap (bits BinOp.and IntKind.u32 y 1023 * 1024)) + bits BinOp.and IntKind.u32 u 1023) = 65536 + y % 1024 * 1024 + u % 1024 := by
      rw [m1, m2]
      simp only [IntKind.wrap_u32]
      omega
    have E1 := Lib.hid e1
    clear m1 m2 e1
    have hsz : (w.setCell ⟨g, 8, none⟩ (.int .i64 0)).heap.size = w.heap.size := by simp [World.setCell]
    have HSZ := Lib.hid hsz
    clear hsz
    go_enter Tryz.func280, Tryz.ntmps280
    go_wp2_with fail
    go_region_with (go_at_call 234; rw [E1.out]; refine (hold_in (65536 + y % 1024 * 1024 + u % 1024) _ (H1.out.alloc (.cells #[.int .u32 (65536 + y % 1024 * 1024 + u % 1024)] 31)).drew (by show World.cell? (World.alloc _ _) _ = _; rw [← HSZ.out, cell_of (heap_alloc_new _ _)]; rfl) hl).mono ?_; rintro e w1 ⟨rfl, hd⟩; obtain ⟨v', hd, hc⟩ := hd; have hh11 := hd.c11; have hf11 := hd.fz 11; have HD := Lib.hid hd; have HC := Lib.hid hc; clear hd hc)
    all_goals
      go_wp2_with fail
      go_ret
      exact ⟨rfl, _, HD.out.set 11 (.int .u32 0) (b' := b) (m' := { m with beg := 0, upper := 0 }) rfl rfl, ((chg_g 8 _).trans (chg_then (Chg.alloc _ _) ((Chg.drew _).trans HC.out) (fun i _ hi => hi))).trans (chg_g 11 _)⟩
end Go.Proofs.YtooiooledeblmaaGreat.Dec
end
section
namespace Go.Proofs.YtooiooledeblmaaGreat.Win
open Go.RowKit
set_option linter.unusedVariables false
set_option linter.unusedSimpArgs false
theorem extended_calls (h l : Int) (w : World) (h0 : 0 ≤ h) (h1 : h ≤ 255) (l0 : 0 ≤ l) (l1 : l ≤ 255) : Calls Tryz.prog 277 #[.int .u8 h, .int .u8 l] w fun e w' => e = .returned (.tuple #[.int .i64 (h / 32), .int .u32 (65536 + 128 * (h % 32 * 256 + l))]) ∧ w = w' := by
  have or1 : bits .or .u32 (h % 32 * 256) l = h % 32 * 256 + l := bits_join .u32 32 (by decide) wraps_u32 8 (h % 32 * 256) l (by omega) (by omega) (by omega) (by omega) (by omega) (by omega)
  have HO := Lib.hid or1
  clear or1
  go_enter Tryz.func277, Tryz.ntmps277
  go_wp2
  go_ret2
  exact ⟨by simp only [HO.out]; simp; omega, rfl⟩
def wPair (n c : Int) : Int × Int × Bool := if 0 ≤ n ∧ n < 8 ∧ 65536 ≤ c ∧ c ≤ 1114111 then (n * 32 + (c - 65536) / 128 / 256, (c - 65536) / 128 % 256, true) else (0, 0, false)
theorem pair_calls (n c : Int) (w : World) (h0 : 0 ≤ c) (h1 : c ≤ 4294967295) : Calls Tryz.prog 221 #[.int .i64 n, .int .u32 c] w fun e w' => e = .returned (.tuple #[.int .u8 (wPair n c).1, .int .u8 (wPair n c).2.1, .bool (wPair n c).2.2]) ∧ w = w' := by
  by_cases ha : 0 ≤ n ∧ n < 8 ∧ 65536 ≤ c ∧ c ≤ 1114111
  · have he : wPair n c = (n * 32 + (c - 65536) / 128 / 256, (c - 65536) / 128 % 256, true) := by unfold wPair; rw [if_pos ha]
    rw [he]
    obtain ⟨a1, a2, a3, a4⟩ := ha
    have a5 : 0 ≤ c - 65536 := by omega
    have or1 : bits .or .u8 (n * 32) ((c - 65536) / 128 / 256) = n * 32 + (c - 65536) / 128 / 256 := bits_join .u8 8 (by decide) wraps_u8 5 (n * 32) _ (by omega) (by omega) (by omega) (by omega) (by omega) (by omega)
    have HO := Lib.hid or1
    clear or1 he
    go_enter Tryz.func221, Tryz.ntmps221
    go_wp2
    go_ret3
    exact ⟨by simp only [HO.out]; simp, rfl⟩
  · have he : wPair n c = (0, 0, false) := by unfold wPair; rw [if_neg ha]
    rw [he]
    clear he
    by_cases b1 : 0 ≤ n
    · by_cases b2 : n < 8
      · by_cases b3 : 65536 ≤ c
        · have b4 : ¬ c ≤ 1114111 := by omega
          clear ha
          go_enter Tryz.func221, Tryz.ntmps221
          go_wp2
          go_ret3
          exact ⟨rfl, rfl⟩
        · clear ha
          go_enter Tryz.func221, Tryz.ntmps221
          go_wp2
          go_ret3
          exact ⟨rfl, rfl⟩
      · clear ha
        go_enter Tryz.func221, Tryz.ntmps221
        go_wp2
        go_ret3
        exact ⟨rfl, rfl⟩
    · clear ha
      go_enter Tryz.func221, Tryz.ntmps221
      go_wp2
      go_ret3
      exact ⟨rfl, rfl⟩
end Go.Proofs.YtooiooledeblmaaGreat.Win
end
section
namespace Go.Proofs.YtooiooledeblmaaGreat.Dec
open Go.RowKit Go.Proofs.YtooiooledeblmaaGreat.Win Go.Proofs.YtooiooledeblmaaGreat.Stp Go.Proofs.YtooiooledeblmaaGreat.Mach
set_option linter.unusedVariables false
set_option linter.unusedSimpArgs false
section
variable {w w' : World} {g gw rb : Nat} {v : Value} {b : B4} {l : List Int} {m : M}
theorem DecAt.below (h : DecAt w g gw rb v b l m) (hb : Below w.heap.size w w') : DecAt w' g gw rb v b l m := h.keep hb.size (hb.block g h.lt) (hb.block gw h.win.lt) (fun k hk => hb.block k (h.row.lt k hk).2)
theorem DecAt.wins {o : List Int} (h : DecAt w g gw rb v b l m) (hw : WinAt w' gw o used0) (hc : Chg (· = gw) w w') : DecAt w' g gw rb v b l { m with o := o } := by
  have hne := h.ne_gw
  have h1 := h.row_gw
  have h2 : ∀ k, v.ownBlock = some k → w'.heap[k]? = w.heap[k]? := fun k hk => hc.block k (h.row.lt k hk).2 (fun e => h1 (by rw [hk, e]))
  obtain ⟨a1, a2⟩ := h.row
  refine ⟨(hc.block g h.lt (fun e => hne e.symm)).trans h.blk, hw, ⟨a1, ?_⟩, h.nil, Nat.le_trans h.rbl hc.size⟩
  rcases a2 with a2 | ⟨g', cap, cur, hv, hb, hh, r⟩
  · exact .inl a2
  · exact .inr ⟨g', cap, cur, hv, hb, (h2 g' (by rw [hv]; rfl)).trans hh, r⟩
theorem chg_gw (hc : Chg (· = gw) w w') : Chg (FS g gw v) w w' := hc.mono (fun i hi => .inr (.inl hi))
end
set_option maxRecDepth 100000 in
set_option maxHeartbeats 4000000 in
theorem more_1 {w : World} {g gw rb : Nat} {v : Value} {b : B4} {l : List Int} {m : M} (x : Int) (h : DecAt w g gw rb v b l m) (hG : Mach.Good m) (x0 : 0 ≤ x) (x1 : x ≤ 255) (hl : l.length ≤ 1000000) (hbeg : m.beg = 1) :
    Calls Tryz.prog 273 #[.pointer (some ⟨g, 0, none⟩), .int .u8 x] w (NextPost w g gw rb v b l (Mach.more m x)) := by
  have h5 := h.c5
  have h8 := h.c8
  have h9 := h.c9
  rw [hbeg] at h8
  have hn := hG.n
  have hst := static_rng hn.1 hn.2
  have hat := hG.at_ hn.1 hn.2
  have hs := fun w => static_calls m.n w
  have hwat : ∀ k : Nat, Calls Tryz.prog 215 #[.pointer (some ⟨gw, 0, none⟩), .int .i64 m.n] (w.drewN k) fun e w' => e = .returned (.int .u32 (wAt m.o m.n)) ∧ w' = w.drewN k := fun k => (at_calls gw m.o used0 m.n (w.drewN k) (h.win.keep rfl)).mono fun e w' h => ⟨h.1, h.2.symm⟩
  have H := Lib.hid h
  obtain ⟨z, hz⟩ : ∃ z, z = (wStatic m.n).1 := ⟨_, rfl⟩
  obtain ⟨y, hy⟩ : ∃ y, y = wAt m.o m.n := ⟨_, rfl⟩
  have hr : Mach.more m x = some ({ m with beg := 0 }, [if 128 ≤ x then y - 128 + x else z + x]) := by unfold Mach.more; rw [if_pos hbeg, hz, hy]
  rw [hr]
  rw [← hz] at hst hs
  rw [← hy] at hat hwat
  have HS := Lib.hid hs
  have HWAT := Lib.hid hwat
  obtain ⟨z0, z1⟩ := hst
  obtain ⟨y0, y1⟩ := hat
  have w1 : IntKind.u32.wrap (y - 128) = y - 128 := by rw [IntKind.wrap_u32]; omega
  clear h hG hn hs hwat hr hz hy hbeg
  by_cases hx : 128 ≤ x
  · rw [if_pos hx]
    go_enter Tryz.func273, Tryz.ntmps273
    go_wp2_with fail
    refine (HS.out _).mono ?_
    rintro e w2 ⟨rfl, rfl⟩
    go_wp2_with fail
    go_quiet ((go_at_call 215; exact Calls.quiet_of_same (HWAT.out _)))
    go_wp2_with (go_at_call 234; refine (hold_in (y - 128 + x) _ ((H.out.drewN nq).alloc (.cells #[.int .u32 (y - 128 + x)] 31)) ((cell_of (show ((w.drewN nq).alloc (.cells #[.int .u32 (y - 128 + x)] 31)).heap[w.heap.size]? = _ from heap_alloc_new (w.drewN nq) _) 0).trans rfl) hl).mono ?_; rintro e w3 ⟨rfl, hd⟩; obtain ⟨v', hd, hc⟩ := hd; have hh8 := hd.c8; have hf8 := hd.fz 8; have HD := Lib.hid hd; have HC := Lib.hid hc; clear hd hc)
    go_ret
    exact ⟨rfl, _, HD.out.set 8 (.int .i64 0) rfl rfl, ((Chg.drewN _ _).trans (chg_then (Chg.alloc _ _) HC.out (fun i _ hi => hi))).trans (chg_g 8 _)⟩
  · rw [if_neg hx]
    go_enter Tryz.func273, Tryz.ntmps273
    go_wp2_with fail
    refine (HS.out _).mono ?_
    rintro e w2 ⟨rfl, rfl⟩
    go_wp2_with (go_at_call 234; refine (hold_in (z + x) _ (H.out.alloc (.cells #[.int .u32 (z + x)] 31)) (by rw [cell_of (heap_alloc_new _ _)]; rfl) hl).mono ?_; rintro e w3 ⟨rfl, hd⟩; obtain ⟨v', hd, hc⟩ := hd; have hh8 := hd.c8; have hf8 := hd.fz 8; have HD := Lib.hid hd; have HC := Lib.hid hc; clear hd hc)
    go_ret
    exact ⟨rfl, _, HD.out.set 8 (.int .i64 0) rfl rfl, ((chg_then (Chg.alloc _ _) HC.out (fun i _ hi => hi))).trans (chg_g 8 _)⟩
set_option maxRecDepth 100000 in
set_option maxHeartbeats 4000000 in
theorem more_2 {w : World} {g gw rb : Nat} {v : Value} {b : B4} {l : List Int} {m : M} (x : Int) (h : DecAt w g gw rb v b l m) (hG : Mach.Good m) (x0 : 0 ≤ x) (x1 : x ≤ 255) (hl : l.length ≤ 1000000) (hbeg : m.beg = 2) :
    Calls Tryz.prog 273 #[.pointer (some ⟨g, 0, none⟩), .int .u8 x] w (NextPost w g gw rb v b l (Mach.more m x)) := by
  have h8 := h.c8
  rw [hbeg] at h8
  have hn := hG.n
  have hs := fun w => offset_calls x w x0 x1
  have H := Lib.hid h
  obtain ⟨o, ok, hok⟩ : ∃ o ok, wOffset x = (o, ok) := ⟨_, _, rfl⟩
  rw [hok] at hs
  have HS := Lib.hid hs
  cases ok with
  | false =>
    have hr : Mach.more m x = none := by unfold Mach.more; rw [if_neg (by rw [hbeg]; decide), if_pos hbeg, hok]; rfl
    rw [hr]
    clear h hG hn hs hr hok hbeg
    go_enter Tryz.func273, Tryz.ntmps273
    go_wp2_with fail
    refine (HS.out _).mono ?_
    rintro e w2 ⟨rfl, hb⟩
    have HB := Lib.hid hb
    clear hb
    go_wp2_with fail
    go_ret
    exact np_nof (H.out.below HB.out) (Chg.of_below HB.out)
  | true =>
    have hr : Mach.more m x = some (({ m with o := m.o.set m.n.toNat o } : M).activate m.n, []) := by unfold Mach.more; rw [if_neg (by rw [hbeg]; decide), if_pos hbeg, hok, if_pos rfl]
    rw [hr]
    obtain ⟨n, hnn⟩ : ∃ n, n = m.n := ⟨_, rfl⟩
    rw [← hnn] at hn ⊢
    have HNN := Lib.hid hnn
    obtain ⟨n0, n1⟩ := hn
    clear h hG hs hr hok hbeg hnn
    go_enter Tryz.func273, Tryz.ntmps273
    go_wp2_with fail
    refine (HS.out _).mono ?_
    rintro e w2 ⟨rfl, hb⟩
    have hd2 := H.out.below hb
    have HB := Lib.hid hb
    have q5 := hd2.c5
    have q9 := hd2.c9
    rw [← HNN.out] at q9
    have HD2 := Lib.hid hd2
    clear hb hd2
    go_wp2_with fail
    have hset : ∀ w3 : World, WinAt w3 gw m.o used0 → Calls Tryz.prog 223 #[.pointer (some ⟨gw, 0, none⟩), .int .i64 n, .int .u32 o] w3 fun e w' => e = .returned (.tuple #[]) ∧ WinAt w' gw (m.o.set n.toNat o) used0 ∧ Chg (· = gw) w3 w' := by
      intro w3 hw3
      have := set_calls gw m.o used0 n o w3 hw3
      rw [if_pos ⟨n0, n1⟩] at this
      exact this
    have HSET := Lib.hid hset
    clear hset
    go_region_with (go_at_call 223; refine (HSET.out _ (HD2.out.drewN 1).win).mono ?_; rintro e w3 ⟨rfl, hw3, hc3⟩; have hd3 := (HD2.out.drewN 1).wins hw3 hc3; have r9 := hd3.c9; simp only [← HNN.out] at r9; have HD3 := Lib.hid hd3; have HC3 := Lib.hid hc3; clear hw3 hc3 hd3)
    all_goals
      go_wp2_with (go_at_call 276; refine (activate_calls _ HD3.out).mono ?_; rintro e w4 ⟨rfl, rfl⟩)
      go_ret
      obtain rfl := HNN.out
      exact np_of (at_act HD3.out _) ((((Chg.of_below HB.out).trans (Chg.drewN _ _)).trans (chg_gw HC3.out)).trans (((chg_g 7 _).trans (chg_g 6 _)).trans (chg_g 8 _)))
end Go.Proofs.YtooiooledeblmaaGreat.Dec
end
section
namespace Go.Proofs.YtooiooledeblmaaGreat.Dec
open Go.RowKit Go.Proofs.YtooiooledeblmaaGreat.Win Go.Proofs.YtooiooledeblmaaGreat.Stp Go.Proofs.YtooiooledeblmaaGreat.Mach
set_option linter.unusedVariables false
set_option linter.unusedSimpArgs false
set_option maxRecDepth 100000 in
set_option maxHeartbeats 4000000 in
theorem more_3 {w : World} {g gw rb : Nat} {v : Value} {b : B4} {l : List Int} {m : M} (x : Int) (h : DecAt w g gw rb v b l m) (hbeg : m.beg = 3) :
    Calls Tryz.prog 273 #[.pointer (some ⟨g, 0, none⟩), .int .u8 x] w (NextPost w g gw rb v b l (Mach.more m x)) := by
  have h8 := h.c8
  have f8 := h.fz 8
  have h10 := h.c10
  have f10 := h.fz 10
  rw [hbeg] at h8
  have hr : Mach.more m x = some ({ m with first := x, beg := 4 }, []) := by unfold Mach.more; rw [if_neg (by rw [hbeg]; decide), if_neg (by rw [hbeg]; decide), if_pos hbeg]
  rw [hr]
  have H := Lib.hid h
  clear h hr hbeg
  go_enter Tryz.func273, Tryz.ntmps273
  go_wp2_with fail
  go_ret
  exact np_of ((H.out.set 10 (.int .u8 x) (b' := b) (m' := { m with first := x }) rfl rfl).set 8 (.int .i64 4) rfl rfl) ((chg_g 10 _).trans (chg_g 8 _))
set_option maxRecDepth 100000 in
set_option maxHeartbeats 4000000 in
theorem more_4 {w : World} {g gw rb : Nat} {v : Value} {b : B4} {l : List Int} {m : M} (x : Int) (h : DecAt w g gw rb v b l m) (hG : Mach.Good m) (x0 : 0 ≤ x) (x1 : x ≤ 255) (hbeg : m.beg = 4) :
    Calls Tryz.prog 273 #[.pointer (some ⟨g, 0, none⟩), .int .u8 x] w (NextPost w g gw rb v b l (Mach.more m x)) := by
  have h5 := h.c5
  have h8 := h.c8
  have h10 := h.c10
  rw [hbeg] at h8
  have hf := hG.first
  have hr : Mach.more m x = some (({ m with o := m.o.set (m.first / 32).toNat (65536 + 128 * (m.first % 32 * 256 + x)) } : M).activate (m.first / 32), []) := by unfold Mach.more; rw [if_neg (by rw [hbeg]; decide), if_neg (by rw [hbeg]; decide), if_neg (by rw [hbeg]; decide), if_pos hbeg]
  rw [hr]
  have hx := fun w => extended_calls m.first x w hf.1 hf.2 x0 x1
  obtain ⟨n, hn⟩ : ∃ n, n = m.first / 32 := ⟨_, rfl⟩
  obtain ⟨o, ho⟩ : ∃ o, o = 65536 + 128 * (m.first % 32 * 256 + x) := ⟨_, rfl⟩
  rw [← hn, ← ho] at hx ⊢
  have hn01 : 0 ≤ n ∧ n < 8 := by omega
  obtain ⟨n0, n1⟩ := hn01
  have HX := Lib.hid hx
  have H := Lib.hid h
  have hset : ∀ w3 : World, WinAt w3 gw m.o used0 → Calls Tryz.prog 223 #[.pointer (some ⟨gw, 0, none⟩), .int .i64 n, .int .u32 o] w3 fun e w' => e = .returned (.tuple #[]) ∧ WinAt w' gw (m.o.set n.toNat o) used0 ∧ Chg (· = gw) w3 w' := by
    intro w3 hw3
    have := set_calls gw m.o used0 n o w3 hw3
    rw [if_pos ⟨n0, n1⟩] at this
    exact this
  have HSET := Lib.hid hset
  clear h hG hf hr hx hn ho hset hbeg
  go_enter Tryz.func273, Tryz.ntmps273
  go_wp2_with fail
  refine (HX.out _).mono ?_
  rintro e w2 ⟨rfl, rfl⟩
  go_wp2_with fail
  refine (HSET.out _ H.out.win).mono ?_
  rintro e w3 ⟨rfl, hw3, hc3⟩
  have hd3 := H.out.wins hw3 hc3
  have HD3 := Lib.hid hd3
  have HC3 := Lib.hid hc3
  clear hw3 hc3 hd3
  go_wp2_with (go_at_call 276; refine (activate_calls _ HD3.out).mono ?_; rintro e w4 ⟨rfl, rfl⟩)
  go_ret
  exact np_of (at_act HD3.out n) ((chg_gw HC3.out).trans (((chg_g 7 _).trans (chg_g 6 _)).trans (chg_g 8 _)))
set_option maxRecDepth 100000 in
set_option maxHeartbeats 4000000 in
theorem more_5 {w : World} {g gw rb : Nat} {v : Value} {b : B4} {l : List Int} {m : M} (x : Int) (h : DecAt w g gw rb v b l m) (hbeg : m.beg = 5) :
    Calls Tryz.prog 273 #[.pointer (some ⟨g, 0, none⟩), .int .u8 x] w (NextPost w g gw rb v b l (Mach.more m x)) := by
  have h8 := h.c8
  have h10 := h.c10
  have f10 := h.fz 10
  rw [hbeg] at h8
  have H := Lib.hid h
  have h10' := h.set 10 (.int .u8 x) (b' := b) (m' := { m with first := x }) rfl rfl
  have hf := fits_calls x h10'
  have H10 := Lib.hid h10'
  have e : ({ m with first := x } : M).fits x = m.fits x := rfl
  rw [e] at hf
  have hr : Mach.more m x = if m.fits x = true then some (({ m with first := x } : M).begin 6 0, []) else none := by unfold Mach.more; rw [if_neg (by rw [hbeg]; decide), if_neg (by rw [hbeg]; decide), if_neg (by rw [hbeg]; decide), if_neg (by rw [hbeg]; decide), if_pos hbeg]
  rw [hr]
  clear h h10' e hr hbeg
  cases hfx : m.fits x with
  | true =>
    rw [if_pos rfl]
    rw [hfx] at hf
    clear hfx
    go_enter Tryz.func273, Tryz.ntmps273
    go_wp2_with (first | (go_at_call 278; refine hf.mono ?_; rintro e w1 ⟨rfl, rfl⟩) | (go_at_call 279; refine (begin_calls _ _ H10.out).mono ?_; rintro e w1 ⟨rfl, rfl⟩))
    go_ret
    exact np_of (at_begin H10.out 6 0) (((chg_g 10 _).trans (chg_g 8 _)).trans (chg_g 9 _))
  | false =>
    rw [if_neg (by decide)]
    rw [hfx] at hf
    clear hfx
    go_enter Tryz.func273, Tryz.ntmps273
    go_wp2_with (go_at_call 278; refine hf.mono ?_; rintro e w1 ⟨rfl, rfl⟩)
    go_ret
    exact np_nof H10.out (chg_g 10 _)
set_option maxRecDepth 100000 in
set_option maxHeartbeats 4000000 in
theorem more_6 {w : World} {g gw rb : Nat} {v : Value} {b : B4} {l : List Int} {m : M} (x : Int) (h : DecAt w g gw rb v b l m) (hG : Mach.Good m) (x0 : 0 ≤ x) (x1 : x ≤ 255) (hl : l.length ≤ 1000000) (hbeg : m.beg = 6) :
    Calls Tryz.prog 273 #[.pointer (some ⟨g, 0, none⟩), .int .u8 x] w (NextPost w g gw rb v b l (Mach.more m x)) := by
  have h8 := h.c8
  have h10 := h.c10
  rw [hbeg] at h8
  have hf := hG.first
  have hr : Mach.more m x = some (Mach.whole m (m.first * 256 + x)) := by unfold Mach.more; rw [if_neg (by rw [hbeg]; decide), if_neg (by rw [hbeg]; decide), if_neg (by rw [hbeg]; decide), if_neg (by rw [hbeg]; decide), if_neg (by rw [hbeg]; decide)]
  rw [hr]
  have hw := whole_calls (m.first * 256 + x) h hG (by omega) (by omega) hl
  have HW := Lib.hid hw
  have or1 : bits .or .u32 (m.first * 256) x = m.first * 256 + x := bits_join .u32 32 (by decide) wraps_u32 8 (m.first * 256) x (by omega) (by omega) (by omega) (by omega) (by omega) (by omega)
  have HO := Lib.hid or1
  obtain ⟨p0, p1⟩ := hf
  clear h hG hr hw or1 hbeg
  go_enter Tryz.func273, Tryz.ntmps273
  go_wp2_with fail
  rw [HO.out]
  refine HW.out.mono ?_
  rintro e w1 ⟨rfl, hd⟩
  have HD := Lib.hid hd
  clear hd
  go_wp2_with fail
  go_ret
  exact ⟨rfl, HD.out⟩
theorem more_calls {w : World} {g gw rb : Nat} {v : Value} {b : B4} {l : List Int} {m : M} (x : Int) (h : DecAt w g gw rb v b l m) (hG : Mach.Good m) (x0 : 0 ≤ x) (x1 : x ≤ 255) (hl : l.length ≤ 1000000) (hbeg : m.beg ≠ 0) :
    Calls Tryz.prog 273 #[.pointer (some ⟨g, 0, none⟩), .int .u8 x] w (NextPost w g gw rb v b l (Mach.more m x)) := by
  have hb := hG.beg
  have hcs : m.beg = 1 ∨ m.beg = 2 ∨ m.beg = 3 ∨ m.beg = 4 ∨ m.beg = 5 ∨ m.beg = 6 := by omega
  rcases hcs with e | e | e | e | e | e
  · exact more_1 x h hG x0 x1 hl e
  · exact more_2 x h hG x0 x1 hl e
  · exact more_3 x h e
  · exact more_4 x h hG x0 x1 e
  · exact more_5 x h e
  · exact more_6 x h hG x0 x1 hl e
set_option maxHeartbeats 1000000 in
theorem next_calls {w : World} {g gw rb : Nat} {v : Value} {b : B4} {l : List Int} {m : M} (x : Int) (h : DecAt w g gw rb v b l m) (hG : Mach.Good m) (x0 : 0 ≤ x) (x1 : x ≤ 255) (hl : l.length ≤ 1000000) :
    Calls Tryz.prog 272 #[.pointer (some ⟨g, 0, none⟩), .int .u8 x] w (NextPost w g gw rb v b l (Mach.step m x)) := by
  have h8 := h.c8
  have h6 := h.c6
  by_cases hbeg : m.beg = 0
  · have hb : (m.beg != 0) = false := by simp [hbeg]
    have hr : Mach.step m x = if m.uni = true then Mach.double m x else Mach.single m x := by unfold Mach.step; rw [if_neg (by simp [hbeg])]
    rw [hr]
    cases hu : m.uni with
    | true =>
      rw [if_pos rfl]
      have HD := Lib.hid (double_calls x h x0 x1)
      rw [hu] at h6
      clear h hG hbeg hr hu
      go_enter Tryz.func272, Tryz.ntmps272
      go_wp2_with fail
      refine HD.out.mono ?_
      intro e w' hp
      cases hm : Mach.double m x with
      | none =>
        rw [hm] at hp
        obtain ⟨rfl, hq⟩ := hp
        have HQ := Lib.hid hq
        have HM := Lib.hid hm
        clear hq hm
        go_wp2_with fail
        go_ret
        rw [HM.out]
        exact ⟨rfl, HQ.out⟩
      | some r =>
        obtain ⟨m', em⟩ := r
        rw [hm] at hp
        obtain ⟨rfl, hq⟩ := hp
        have HQ := Lib.hid hq
        have HM := Lib.hid hm
        clear hq hm
        go_wp2_with fail
        go_ret
        rw [HM.out]
        exact ⟨rfl, HQ.out⟩
    | false =>
      rw [if_neg (by decide)]
      have HD := Lib.hid (single_calls x h hG x0 x1 hl)
      rw [hu] at h6
      clear h hG hbeg hr hu
      go_enter Tryz.func272, Tryz.ntmps272
      go_wp2_with fail
      refine HD.out.mono ?_
      intro e w' hp
      cases hm : Mach.single m x with
      | none =>
        rw [hm] at hp
        obtain ⟨rfl, hq⟩ := hp
        have HQ := Lib.hid hq
        have HM := Lib.hid hm
        clear hq hm
        go_wp2_with fail
        go_ret
        rw [HM.out]
        exact ⟨rfl, HQ.out⟩
      | some r =>
        obtain ⟨m', em⟩ := r
        rw [hm] at hp
        obtain ⟨rfl, hq⟩ := hp
        have HQ := Lib.hid hq
        have HM := Lib.hid hm
        clear hq hm
        go_wp2_with fail
        go_ret
        rw [HM.out]
        exact ⟨rfl, HQ.out⟩
  · have hb : (m.beg != 0) = true := by simp [hbeg]
    have hr : Mach.step m x = Mach.more m x := by unfold Mach.step; rw [if_pos hbeg]
    rw [hr]
    have HD := Lib.hid (more_calls x h hG x0 x1 hl hbeg)
    clear h hG hbeg hr
    go_enter Tryz.func272, Tryz.ntmps272
    go_wp2_with fail
    refine HD.out.mono ?_
    intro e w' hp
    cases hm : Mach.more m x with
    | none =>
      rw [hm] at hp
      obtain ⟨rfl, hq⟩ := hp
      have HQ := Lib.hid hq
      have HM := Lib.hid hm
      clear hq hm
      go_wp2_with fail
      go_ret
      rw [HM.out]
      exact ⟨rfl, HQ.out⟩
    | some r =>
      obtain ⟨m', em⟩ := r
      rw [hm] at hp
      obtain ⟨rfl, hq⟩ := hp
      have HQ := Lib.hid hq
      have HM := Lib.hid hm
      clear hq hm
      go_wp2_with fail
      go_ret
      rw [HM.out]
      exact ⟨rfl, HQ.out⟩
end Go.Proofs.YtooiooledeblmaaGreat.Dec
end
section
namespace Go.Proofs.YtooiooledeblmaaGreat.Dec
open Go.RowKit Go.Proofs.YtooiooledeblmaaGreat.Win Go.Proofs.YtooiooledeblmaaGreat.Stp Go.Proofs.YtooiooledeblmaaGreat.Mach
set_option linter.unusedVariables false
set_option linter.unusedSimpArgs false
abbrev nilS : Value := .slice none 0 0
def b40 : B4 := { at_ := 0, err := 0, pl := 0, fin := false }
def m0 : M := { o := firsts, uni := false, act := 0, beg := 0, n := 0, first := 0, upper := 0 }
theorem good0 : Mach.Good m0 := ⟨rfl, by unfold m0; decide +kernel, by decide, by decide, by decide, .inl rfl, by decide⟩
theorem newDecoder_calls (w : World) : Calls Tryz.prog 76 #[] w fun e w' => e = .returned (.pointer (some ⟨w.heap.size + 1, 0, none⟩)) ∧ DecAt w' (w.heap.size + 1) w.heap.size 0 nilS b40 [] m0 ∧ Below w.heap.size w w' ∧ w'.heap.size = w.heap.size + 2 := by
  have hn : Calls Tryz.prog 107 #[] w fun e w' => e = .returned (.pointer (some ⟨w.heap.size, 0, none⟩)) ∧ w' = w.alloc (.cells (winCells firsts used0).toArray 229) := by
    go_enter Tryz.func107, Tryz.ntmps107
    go_wp2
    go_ret
    exact ⟨rfl, rfl⟩
  go_enter Tryz.func76, Tryz.ntmps76
  go_wp2_with (go_at_call 107; refine hn.mono ?_; rintro e w1 ⟨rfl, rfl⟩)
  go_ret
  have e1 : (w.alloc (.cells (winCells firsts used0).toArray 229)).heap.size = w.heap.size + 1 := by simp
  refine ⟨rfl, ⟨?_, ⟨?_, rfl, rfl⟩, World.ownsRow_nil _ _ _ _, fun _ => rfl, Nat.zero_le _⟩, ((Below.refl _ _).alloc (Nat.le_refl _) _).alloc (by simp) _, by simp⟩
  · rw [← e1]; exact heap_alloc_new _ _
  · rw [Below.heap_alloc _ _ _ (by simp)]; exact heap_alloc_new _ _
/-- Bytes, one by one. -/
def steps (m : M) : List Int → Option (M × List Int)
  | [] => some (m, [])
  | x :: xs => match Mach.step m x with
    | none => none
    | some (m1, e) => match steps m1 xs with
      | none => none
      | some (m2, e2) => some (m2, e ++ e2)
theorem steps_snoc {m m1 m2 : M} {e e2 : List Int} {x : Int} : ∀ {xs : List Int}, steps m xs = some (m1, e) → Mach.step m1 x = some (m2, e2) → steps m (xs ++ [x]) = some (m2, e ++ e2) := by
  intro xs
  induction xs generalizing m e with
  | nil =>
    intro h h2
    simp [steps] at h
    obtain ⟨rfl, rfl⟩ := h
    simp [steps, h2]
  | cons y ys ih =>
    intro h h2
    simp only [steps, List.cons_append] at h ⊢
    cases hy : Mach.step m y with
    | none => rw [hy] at h; cases h
    | some r =>
      obtain ⟨m3, e3⟩ := r
      rw [hy] at h
      simp only at h ⊢
      cases hs : steps m3 ys with
      | none => rw [hs] at h; cases h
      | some r =>
        obtain ⟨m4, e4⟩ := r
        rw [hs] at h
        simp only [Option.some.injEq, Prod.mk.injEq] at h
        obtain ⟨rfl, rfl⟩ := h
        rw [ih hs h2]
        simp
theorem step_one {m m' : M} {x : Int} {e : List Int} (h : Mach.step m x = some (m', e)) : e.length ≤ 1 := by
  unfold Mach.step at h
  split at h
  · unfold more whole at h
    repeat' split at h
    all_goals first
      | (cases h; done)
      | (simp only [Option.some.injEq, Prod.mk.injEq] at h; rw [← h.2]; simp)
  · split at h
    · unfold double at h
      repeat' split at h
      all_goals first
        | (cases h; done)
        | (simp only [Option.some.injEq, Prod.mk.injEq] at h; rw [← h.2]; simp)
    · unfold single at h
      repeat' split at h
      all_goals first
        | (cases h; done)
        | (simp only [Option.some.injEq, Prod.mk.injEq] at h; rw [← h.2]; simp)
def byt (s : ByteArray) : List Int := s.data.toList.map fun x => (x.toNat : Int)
theorem byt_length (s : ByteArray) : (byt s).length = s.size := by unfold byt; rw [List.length_map, Array.length_toList]; rfl
theorem byt_at (s : ByteArray) (k : Nat) (h : k < s.size) : (byt s).getD k 0 = (s[k].toNat : Int) := by
  unfold byt
  rw [List.getD_eq_getElem?_getD, List.getElem?_map, List.getElem?_eq_getElem (by rw [Array.length_toList]; exact h)]
  rfl
theorem byt_take (s : ByteArray) (k : Nat) (h : k < s.size) : (byt s).take (k + 1) = (byt s).take k ++ [(s[k].toNat : Int)] := by
  rw [List.take_succ_eq_append_getElem (by rw [byt_length]; exact h)]
  have := byt_at s k h
  rw [List.getD_eq_getElem?_getD, List.getElem?_eq_getElem (by rw [byt_length]; exact h)] at this
  rw [← this]; rfl
/-- What a feeding has done: so many bytes were eaten, so many scalars came out, and why it has stopped. -/
structure Fed (b : B4) (m : M) (l : List Int) (room : Int) (k : Nat) (out : List Int) (b' : B4) (m' : M) : Prop where
  le : k ≤ l.length
  fits : (out.length : Int) ≤ room ∨ out = []
  go : k ≠ 0 → b.going = true
  way : (∃ m1, steps m (l.take k) = some (m1, out) ∧ b.going = true ∧ k < l.length ∧ (out.length : Int) < room ∧ Mach.step m1 (l.getD k 0) = none ∧ b' = { b with at_ := b.at_ + k, err := 3, pl := b.at_ + k }) ∨
    (steps m (l.take k) = some (m', out) ∧ Mach.Good m' ∧ b' = { b with at_ := b.at_ + k } ∧ (k = l.length ∨ room ≤ (out.length : Int) ∨ b.going = false))
theorem DecAt.told {w w1 : World} {g gw rb : Nat} {v : Value} {b : B4} {l : List Int} {m : M} (h : DecAt w g gw rb v b l m) (hb : Below w.heap.size w w1) (v1 : Value) : DecAt ((w1.setCell ⟨g, 4, none⟩ v1).setCell ⟨g, 4, none⟩ nilS) g gw 0 nilS b [] m := by
  have hgb : w1.heap[g]? = some (.cells (decCells b v gw m) 208 (0, 0)) := (hb.block g h.lt).trans h.blk
  refine ⟨?_, ?_, World.ownsRow_nil _ _ _ _, fun _ => rfl, Nat.zero_le _⟩
  · have h1 := heap_setCell_same w1 g 4 _ _ v1 hgb
    rw [heap_setCell_same _ g 4 _ _ nilS h1]; rfl
  · exact ((h.win.keep (hb.block gw h.win.lt)).keep (Below.heap_setCell w1 _ _ gw h.ne_gw)).keep (Below.heap_setCell _ _ _ gw h.ne_gw)
/-- An idle machine's row lies from wherever on. -/
theorem DecAt.rebase {w : World} {g gw rb : Nat} {b : B4} {m : M} (h : DecAt w g gw rb nilS b [] m) (rb' : Nat) (hr : rb' ≤ w.heap.size) : DecAt w g gw rb' nilS b [] m := ⟨h.blk, h.win, World.ownsRow_nil _ _ _ _, fun _ => rfl, hr⟩
theorem own_weaken {w : World} {base base' : Nat} {e : TypeId} {size n : Nat} {v : Value} {xs : List Value} (h : w.ownsRow base e size v n xs) (hb : base' ≤ base) : w.ownsRow base' e size v n xs := by
  refine ⟨h.1, ?_⟩
  rcases h.2 with h2 | ⟨g', cap, cur, hv, hg, r⟩
  · exact .inl h2
  · exact .inr ⟨g', cap, cur, hv, Nat.le_trans hb hg, r⟩
theorem fs_new {w w0 : World} {g gw : Nat} {v : Value} {n : Nat} {xs : List Value} {e : TypeId} {size : Nat} (h : w.ownsRow w0.heap.size e size v n xs) {i : Nat} (hi : i < w0.heap.size) (hh : FS g gw v i) : FS g gw nilS i := by
  rcases hh with hh | hh | hh
  · exact .inl hh
  · exact .inr (.inl hh)
  · have := (h.lt i hh).1; omega
def FedMid (w : World) (g gw : Nat) (b : B4) (m : M) (s : ByteArray) (room : Int) (i : Value) (wx : World) : Prop :=
  ∃ (k : Nat) (v : Value) (out : List Int) (b' : B4) (m' : M), i = .int .i64 k ∧ DecAt wx g gw w.heap.size v b' out m' ∧ Chg (FS g gw nilS) w wx ∧ out.length ≤ 100000 ∧ Fed b m (byt s) room k out b' m'
def FeedRel (w : World) (g gw : Nat) (b : B4) (m : M) (s : ByteArray) (room : Int) (i : Value) (wx : World) : Prop :=
  ∃ (k : Nat) (v : Value) (out : List Int) (m' : M), k ≤ s.size ∧ i = .int .i64 k ∧ DecAt wx g gw w.heap.size v { b with at_ := b.at_ + k } out m' ∧ Mach.Good m' ∧ Chg (FS g gw nilS) w wx ∧ steps m ((byt s).take k) = some (m', out) ∧ ((out.length : Int) ≤ room ∨ out = []) ∧ out.length ≤ k ∧ (k ≠ 0 → b.going = true)
def FeedPost (w : World) (g gw : Nat) (b : B4) (m : M) (s : ByteArray) (room : Int) (e : Ending) (w' : World) : Prop :=
  ∃ (k : Nat) (A : Option Addr) (c : Nat) (out : List Int) (b' : B4) (m' : M), e = .returned (.tuple #[.int .i64 k, .slice A out.length c]) ∧ DecAt w' g gw 0 nilS b' [] m' ∧ Chg (FS g gw nilS) w w' ∧ w'.ownsRow w.heap.size 31 1 (.slice A out.length c) out.length (u32s out) ∧ Fed b m (byt s) room k out b' m'
set_option maxRecDepth 100000 in
set_option maxHeartbeats 4000000 in
theorem feed_calls {w : World} {g gw : Nat} {b : B4} {m : M} (s : ByteArray) (room : Int) (h : DecAt w g gw 0 nilS b [] m) (hG : Mach.Good m) (hs : s.size ≤ 100000) (hb0 : 0 ≤ b.at_) (hb1 : b.at_ ≤ 1000000) :
    Calls Tryz.prog 271 #[.pointer (some ⟨g, 0, none⟩), .string s, .int .i64 room] w (FeedPost w g gw b m s room) := by
  have H := Lib.hid h
  have HGd := Lib.hid hG
  clear h hG
  go_enter Tryz.func271, Tryz.ntmps271
  go_upto_block 0 with fail
  go_cut [8] (fun i wx => FedMid w g gw b m s room i wx)
  case first =>
    go_wp2_with fail
    go_loopw [8] (fun i wr => FeedRel w g gw b m s room i wr) (fun i _ => s.size - (intOf i).toNat)
    case atStart =>
      exact ⟨0, nilS, [], m, Nat.zero_le _, rfl, (by have := H.out.rebase w.heap.size (Nat.le_refl _); simpa using this), HGd.out, Chg.refl _, rfl, .inr rfl, Nat.zero_le _, fun h => absurd rfl h⟩
    case round =>
      obtain ⟨k, v, out, m', hk, rfl, hd, hg, hc, hst, hroom, hol, hgo⟩ := hrel
      have HD := Lib.hid hd
      have HG' := Lib.hid hg
      have HC := Lib.hid hc
      have HST := Lib.hid hst
      have HRm := Lib.hid hroom
      have HGo := Lib.hid hgo
      obtain ⟨A, c0, hv⟩ : ∃ A c, v = .slice A out.length c := by
        rcases hd.row.2 with ⟨h1, h2⟩ | ⟨g', cap, cur, h1, _⟩
        · exact ⟨none, 0, by rw [h1, h2]⟩
        · exact ⟨_, _, h1⟩
      have h4 := hd.c4
      rw [hv] at h4
      have HV := Lib.hid hv
      have hheld := held_calls g 4 A out.length c0 wr h4
      have HH := Lib.hid hheld
      have hgoing := going_calls g _ wr hd.base
      have hge : (({ b with at_ := b.at_ + k } : B4)).going = b.going := rfl
      rw [hge] at hgoing
      clear hd hg hc hst hroom hgo hv h4 hheld hge
      by_cases hlt : k < s.size
      · by_cases hrm : (out.length : Int) < room
        · cases hbg : b.going with
          | true =>
            rw [hbg] at hgoing
            have HGg := Lib.hid hgoing
            have HBG := Lib.hid hbg
            have hnext := next_calls (s[k].toNat : Int) HD.out HG'.out (by omega) (by have := s[k].toNat_lt; omega) (by omega)
            have HN := Lib.hid hnext
            clear hgoing hbg hnext
            go_wp2_with fail
            refine HH.out.mono ?_
            rintro e w1 ⟨rfl, rfl⟩
            go_wp2_with fail
            refine HGg.out.mono ?_
            rintro e w1 ⟨rfl, rfl⟩
            go_wp2_with fail
            refine HN.out.mono ?_
            intro e w2 hp
            cases hm : Mach.step m' (s[k].toNat : Int) with
            | none =>
              rw [hm] at hp
              obtain ⟨rfl, m2, hd2, hc2⟩ := hp
              have HM := Lib.hid hm
              have hstop := stop_calls g _ 3 w2 hd2.base (show (({ b with at_ := b.at_ + k } : B4)).going = true from HBG.out) (by decide)
              have HSt := Lib.hid hstop
              have HD2 := Lib.hid hd2
              have HC2 := Lib.hid hc2
              clear hm hstop hd2 hc2
              go_wp2_with fail
              refine HSt.out.mono ?_
              rintro e w3 ⟨rfl, rfl⟩
              go_wp2_with fail
              go_meet
              refine ⟨k, v, out, { b with at_ := b.at_ + k, err := 3, pl := b.at_ + k }, m2, rfl, ?_, ?_, by omega, ?_⟩
              · exact (HD2.out.set 1 (.int .i64 3) (b' := { b with at_ := b.at_ + k, err := 3 }) (m' := m2) rfl rfl).set 2 (.int .i64 (b.at_ + k)) rfl rfl
              · exact chg_then HC.out ((HC2.out.trans (chg_g 1 _)).trans (chg_g 2 _)) (fun i hi hh => fs_new HD.out.row hi hh)
              · refine ⟨by rw [byt_length]; exact hk, HRm.out, fun h => HBG.out, .inl ⟨m', HST.out, HBG.out, by rw [byt_length]; exact hlt, hrm, ?_, rfl⟩⟩
                rw [byt_at s k hlt]
                exact HM.out
            | some r =>
              obtain ⟨m2, em⟩ := r
              rw [hm] at hp
              obtain ⟨rfl, v2, hd2, hc2⟩ := hp
              have HM := Lib.hid hm
              have heat := eat_calls g _ 1 w2 hd2.base (show (({ b with at_ := b.at_ + k } : B4)).going = true from HBG.out) (by decide) (by decide) (show 0 ≤ b.at_ + k by omega) (show b.at_ + k ≤ 1000000000 by omega)
              have HEt := Lib.hid heat
              have HD2 := Lib.hid hd2
              have HC2 := Lib.hid hc2
              clear hm heat hd2 hc2
              go_wp2_with fail
              refine HEt.out.mono ?_
              rintro e w3 ⟨rfl, rfl⟩
              go_wp2_with fail
              go_roundw
              case rel =>
                have h1 := step_one HM.out
                refine ⟨k + 1, v2, out ++ em, m2, by omega, by go_num, ?_, good_step HG'.out (by omega) (by have := s[k].toNat_lt; omega) HM.out, ?_, ?_, ?_, ?_, fun _ => HBG.out⟩
                · have := HD2.out.set 0 (.int .i64 (b.at_ + k + 1)) (b' := { b with at_ := b.at_ + k + 1 }) (m' := m2) rfl rfl
                  have e2 : b.at_ + ((k + 1 : Nat) : Int) = b.at_ + k + 1 := by omega
                  rw [e2]
                  exact this
                · exact chg_then HC.out (HC2.out.trans (chg_g 0 _)) (fun i hi hh => fs_new HD.out.row hi hh)
                · rw [byt_take s k hlt]
                  exact steps_snoc HST.out HM.out
                · left
                  rw [List.length_append]
                  omega
                · rw [List.length_append]; omega
              case measure => simp [intOf]; omega
          | false =>
            rw [hbg] at hgoing
            have HGg := Lib.hid hgoing
            have HBG := Lib.hid hbg
            clear hgoing hbg
            go_wp2_with fail
            refine HH.out.mono ?_
            rintro e w1 ⟨rfl, rfl⟩
            go_wp2_with fail
            refine HGg.out.mono ?_
            rintro e w1 ⟨rfl, rfl⟩
            go_wp2_with fail
            go_meet
            exact ⟨k, v, out, _, m', rfl, HD.out, HC.out, by omega, by rw [byt_length]; exact hk, HRm.out, HGo.out, .inr ⟨HST.out, HG'.out, rfl, .inr (.inr HBG.out)⟩⟩
        · clear hgoing
          go_wp2_with fail
          refine HH.out.mono ?_
          rintro e w1 ⟨rfl, rfl⟩
          go_wp2_with fail
          go_meet
          exact ⟨k, v, out, _, m', rfl, HD.out, HC.out, by omega, by rw [byt_length]; exact hk, HRm.out, HGo.out, .inr ⟨HST.out, HG'.out, rfl, .inr (.inl (by omega))⟩⟩
      · obtain rfl : k = s.size := by omega
        clear hgoing hlt
        go_wp2_with fail
        go_meet
        exact ⟨s.size, v, out, _, m', rfl, HD.out, HC.out, by omega, by rw [byt_length]; exact Nat.le_refl _, HRm.out, HGo.out, .inr ⟨HST.out, HG'.out, rfl, .inl (by rw [byt_length])⟩⟩
  case rest =>
    obtain ⟨k, v, out, b', m', rfl, hd, hc, hol, hf⟩ := hcut
    have HD := Lib.hid hd
    have HC := Lib.hid hc
    have HF := Lib.hid hf
    have h4 := hd.c4
    have f4 := hd.fz 4
    have hnil := hd.nil
    by_cases ho : out = []
    · have hvn := hnil ho
      rw [hvn] at h4
      have ht := tell_none g 4 room wc h4 f4
      have HT := Lib.hid ht
      have HO := Lib.hid ho
      clear hd hc hf h4 f4 hnil ho hvn ht
      go_wp2_with fail
      refine HT.out.mono ?_
      rintro e w1 ⟨rfl, rfl⟩
      go_wp2_with fail
      go_ret2
      obtain rfl := HO.out
      exact ⟨k, none, 0, [], b', m', rfl, HD.out.told (Below.refl _ _) nilS, chg_then HC.out ((chg_g (gw := gw) (v := nilS) 4 _).trans (chg_g 4 _)) (fun i _ hi => hi), World.ownsRow_nil _ _ _ _, HF.out⟩
    · have hpos : 0 < out.length := by
        rcases Nat.eq_zero_or_pos out.length with h | h
        · exact absurd (List.eq_nil_of_length_eq_zero h) ho
        · exact h
      obtain ⟨r, c, hv, _, _⟩ := hd.row.form hpos
      have hrow := hd.row
      have hrg := hd.row_g
      rw [hv] at h4 hrow hrg
      have hne : r ≠ g := fun e => hrg (by rw [e]; rfl)
      have hrm : (out.length : Int) ≤ room := by
        rcases hf.fits with h | h
        · exact h
        · exact absurd h ho
      have ht := tell_all g 4 r w.heap.size c out room wc h4 f4 hrow hne hpos (by omega) hrm
      have HT := Lib.hid ht
      clear hd hc hf h4 f4 hnil ho hv ht hrow hrg hne
      go_wp2_with fail
      refine HT.out.mono ?_
      rintro e w1 ⟨r1, c1, w2, v1, rfl, rfl, hown, hb⟩
      have HOW := Lib.hid hown
      have HB := Lib.hid hb
      clear hown hb
      go_wp2_with fail
      go_ret2
      have hlt := HOW.out.lt r1 rfl
      have hgl := HD.out.lt
      refine ⟨k, some ⟨r1, 0, none⟩, c1, out, b', m', rfl, HD.out.told HB.out v1, ?_, ?_, HF.out⟩
      · exact chg_then HC.out (((Chg.of_below HB.out).trans (chg_g (gw := gw) (v := nilS) 4 _)).trans (chg_g 4 _)) (fun i _ hi => hi)
      · have h1 := own_weaken HOW.out HC.out.size
        refine h1.kept (w' := _) (row := some g) ⟨rfl, rfl, rfl, by simp [World.setCell], fun q hq hn => ?_⟩ (.inr (by simp [Value.ownBlock]; omega))
        exact (Below.heap_setCell _ _ _ q (fun e => hn (by rw [e]))).trans (Below.heap_setCell _ _ _ q (fun e => hn (by rw [e])))
end Go.Proofs.YtooiooledeblmaaGreat.Dec
end
section
namespace Go.Proofs.YtooiooledeblmaaGreat.Dec
open Go.RowKit Go.Proofs.YtooiooledeblmaaGreat.Win Go.Proofs.YtooiooledeblmaaGreat.Stp Go.Proofs.YtooiooledeblmaaGreat.Mach
set_option linter.unusedVariables false
set_option linter.unusedSimpArgs false
def cutB (b : B4) (m : M) : B4 := if (m.beg ≠ 0 ∨ m.upper ≠ 0) ∧ b.going = true then { b with err := 4, pl := b.at_ } else b
def finB (b : B4) : B4 := if b.going = true then { b with fin := true } else b
def endB (b : B4) (m : M) : B4 := finB (cutB b m)
theorem bend_dec {w : World} {g gw rb : Nat} {v : Value} {b : B4} {l : List Int} {m : M} (h : DecAt w g gw rb v b l m) :
    Calls Tryz.prog 139 #[.pointer (some ⟨g, 0, none⟩)] w fun e w' => e = .returned (.tuple #[]) ∧ DecAt w' g gw rb v (finB b) l m ∧ Chg (FS g gw v) w w' := by
  refine (bend_calls g b w h.base).mono ?_
  rintro e w' ⟨rfl, rfl⟩
  unfold finB
  cases hg : b.going with
  | true => rw [if_pos rfl, if_pos rfl]; exact ⟨rfl, h.set 3 (.bool true) rfl rfl, chg_g 3 _⟩
  | false => rw [if_neg (by decide), if_neg (by decide)]; exact ⟨rfl, h, Chg.refl _⟩
theorem end_calls {w : World} {g gw : Nat} {b : B4} {m : M} (h : DecAt w g gw 0 nilS b [] m) :
    Calls Tryz.prog 270 #[.pointer (some ⟨g, 0, none⟩)] w fun e w' => e = .returned (.tuple #[]) ∧ DecAt w' g gw 0 nilS (endB b m) [] m ∧ Chg (FS g gw nilS) w w' := by
  have h8 := h.c8
  have h11 := h.c11
  have H := Lib.hid h
  have hcs : (∃ x : Bool, (m.beg != 0) = x ∧ (m.upper != 0) = true ∧ (m.beg ≠ 0 ∨ m.upper ≠ 0)) ∨ ((m.beg != 0) = true ∧ (m.upper != 0) = false ∧ (m.beg ≠ 0 ∨ m.upper ≠ 0)) ∨ ((m.beg != 0) = false ∧ (m.upper != 0) = false ∧ ¬ (m.beg ≠ 0 ∨ m.upper ≠ 0)) := by
    by_cases h1 : m.beg = 0 <;> by_cases h2 : m.upper = 0
    · exact .inr (.inr ⟨by simp [h1], by simp [h2], by simp [h1, h2]⟩)
    · exact .inl ⟨false, by simp [h1], by simp [h2], .inr h2⟩
    · exact .inr (.inl ⟨by simp [h1], by simp [h2], .inl h1⟩)
    · exact .inl ⟨true, by simp [h1], by simp [h2], .inl h1⟩
  have hst : (m.beg ≠ 0 ∨ m.upper ≠ 0) → Calls Tryz.prog 145 #[.pointer (some ⟨g, 0, none⟩), .int .i64 4] w fun x w' => x = .returned (.tuple #[]) ∧ DecAt w' g gw 0 nilS (cutB b m) [] m ∧ Chg (FS g gw nilS) w w' := by
    intro hc
    cases hg : b.going with
    | true =>
      refine (stop_calls g b 4 w h.base hg (by decide)).mono ?_
      rintro e w' ⟨rfl, rfl⟩
      unfold cutB
      rw [if_pos ⟨hc, hg⟩]
      exact ⟨rfl, (h.set 1 (.int .i64 4) (b' := { b with err := 4 }) (m' := m) rfl rfl).set 2 (.int .i64 b.at_) rfl rfl, (chg_g 1 _).trans (chg_g 2 _)⟩
    | false =>
      refine (stop_not g b 4 w h.base hg).mono ?_
      rintro e w' ⟨rfl, rfl⟩
      unfold cutB
      rw [if_neg (by rw [hg]; simp)]
      exact ⟨rfl, h, Chg.refl _⟩
  clear h
  rcases hcs with ⟨x, e1, e2, hc⟩ | ⟨e1, e2, hc⟩ | ⟨e1, e2, hc⟩
  · have HS := Lib.hid (hst hc)
    clear hst hc
    cases x
    all_goals
      go_enter Tryz.func270, Tryz.ntmps270
      go_wp2_with fail
      refine HS.out.mono ?_
      rintro e w1 ⟨rfl, hd, hcg⟩
      have HD := Lib.hid hd
      have HC := Lib.hid hcg
      clear hd hcg
      go_wp2_with fail
      refine (bend_dec HD.out).mono ?_
      rintro e w2 ⟨rfl, hd, hcg⟩
      have HD2 := Lib.hid hd
      have HC2 := Lib.hid hcg
      clear hd hcg
      go_wp2_with fail
      go_end0
      exact ⟨rfl, HD2.out, HC.out.trans HC2.out⟩
  · have HS := Lib.hid (hst hc)
    clear hst hc
    go_enter Tryz.func270, Tryz.ntmps270
    go_wp2_with fail
    refine HS.out.mono ?_
    rintro e w1 ⟨rfl, hd, hcg⟩
    have HD := Lib.hid hd
    have HC := Lib.hid hcg
    clear hd hcg
    go_wp2_with fail
    refine (bend_dec HD.out).mono ?_
    rintro e w2 ⟨rfl, hd, hcg⟩
    have HD2 := Lib.hid hd
    have HC2 := Lib.hid hcg
    clear hd hcg
    go_wp2_with fail
    go_end0
    exact ⟨rfl, HD2.out, HC.out.trans HC2.out⟩
  · have he : endB b m = finB b := by
      unfold endB cutB
      rw [if_neg (fun h => hc h.1)]
    rw [he]
    clear hst hc he
    go_enter Tryz.func270, Tryz.ntmps270
    go_wp2_with fail
    refine (bend_dec H.out).mono ?_
    rintro e w2 ⟨rfl, hd, hcg⟩
    have HD2 := Lib.hid hd
    have HC2 := Lib.hid hcg
    clear hd hcg
    go_wp2_with fail
    go_end0
    exact ⟨rfl, HD2.out, HC2.out⟩
theorem done_calls {w : World} {g gw : Nat} {b : B4} {m : M} (h : DecAt w g gw 0 nilS b [] m) :
    Calls Tryz.prog 228 #[.pointer (some ⟨g, 0, none⟩)] w fun e w' => e = .returned (.bool (!b.going)) ∧ w = w' := by
  have hg := going_calls g b w h.base
  have hh := held_calls g 4 none 0 0 w h.c4
  cases hb : b.going with
  | true =>
    rw [hb] at hg
    clear h hb
    go_enter Tryz.func228, Tryz.ntmps228
    go_wp2_with (go_at_call 143; refine hg.mono ?_; rintro e w1 ⟨rfl, rfl⟩)
    go_ret
    exact ⟨rfl, rfl⟩
  | false =>
    rw [hb] at hg
    clear h hb
    go_enter Tryz.func228, Tryz.ntmps228
    go_wp2_with (first | (go_at_call 143; refine hg.mono ?_; rintro e w1 ⟨rfl, rfl⟩) | (go_at_call 231; refine hh.mono ?_; rintro e w1 ⟨rfl, rfl⟩))
    go_ret
    exact ⟨rfl, rfl⟩
end Go.Proofs.YtooiooledeblmaaGreat.Dec
end
section
namespace Go.Proofs.YtooiooledeblmaaGreat.Dcd
open Go.RowKit Go.Proofs.YtooiooledeblmaaGreat.Win Go.Proofs.YtooiooledeblmaaGreat.Stp Go.Proofs.YtooiooledeblmaaGreat.Mach Go.Proofs.YtooiooledeblmaaGreat.Dec Go.Proofs.YtooiooledeblmaaGreatW.PrintMore
set_option linter.unusedVariables false
set_option linter.unusedSimpArgs false
def DoneD (g : Nat) (w : World) : Prop := Calls Tryz.prog 228 #[.pointer (some ⟨g, 0, none⟩)] w (fun e w' => e = .returned (.bool true) ∧ w = w') ∧ ∃ b, BaseAt w g b ∧ b.err = 0 ∧ b.pl = 0
def FedD (E : Nat) (own : Nat → Prop) (g : Nat) (w2 : World) : Prop := ∀ w3, Below w2.heap.size w2 w3 → Calls Tryz.prog E #[.pointer (some ⟨g, 0, none⟩)] w3 (fun e w4 => e = .returned (.tuple #[]) ∧ Chg own w3 w4 ∧ DoneD g w4)
def RdyD (F E : Nat) (own : Nat → Prop) (g : Nat) (s : ByteArray) (out : List Int) (w1 : World) : Prop := ∀ wy, Below w1.heap.size w1 wy → Calls Tryz.prog F #[.pointer (some ⟨g, 0, none⟩), .string s, .int .i64 4096] wy
  (fun e w2 => ∃ A c, e = .returned (.tuple #[.int .i64 s.size, .slice A out.length c]) ∧ Chg own wy w2 ∧ w2.ownsRow wy.heap.size 31 1 (.slice A out.length c) out.length (u32s out) ∧ FedD E own g w2)
def NewDPost (PT : TypeId) (F E : Nat) (s : ByteArray) (out : List Int) (w : World) (e : Ending) (w' : World) : Prop :=
  ∃ g own, (∀ i, own i → w.heap.size ≤ i ∧ i < w'.heap.size) ∧ w.heap.size ≤ g ∧ e = .returned (.tuple #[.iface PT (.pointer (some ⟨g, 0, none⟩)), .int .i64 0]) ∧ Below w.heap.size w w' ∧ RdyD F E own g s out w'
def DecPost (w : World) (out : List Int) (e : Ending) (w' : World) : Prop :=
  ∃ r c, e = .returned (.tuple #[.slice (some ⟨r, 0, none⟩) out.length c, .agg #[.int .i64 0, .int .i64 0]]) ∧ w'.ownsRow w.heap.size 31 1 (.slice (some ⟨r, 0, none⟩) out.length c) out.length (u32s out) ∧ Below w.heap.size w w'
theorem own_chg {S : Nat → Prop} {w w' : World} {base : Nat} {e : TypeId} {size n : Nat} {v : Value} {xs : List Value} (h : w.ownsRow base e size v n xs) (hc : Chg S w w') (hs : ∀ i, S i → i < base) : w'.ownsRow base e size v n xs := by
  refine ⟨h.1, ?_⟩
  rcases h.2 with h2 | ⟨g', cap, cur, hv, hg, hb, r⟩
  · exact .inl h2
  · exact .inr ⟨g', cap, cur, hv, hg, (hc.block g' (Array.getElem?_eq_some_iff.1 hb).1 (fun hh => by have := hs _ hh; omega)).trans hb, r⟩
end Go.Proofs.YtooiooledeblmaaGreat.Dcd
end
section
namespace Go.Proofs.YtooiooledeblmaaGreat.Dcd
open Go.RowKit Go.Proofs.YtooiooledeblmaaGreat.Win Go.Proofs.YtooiooledeblmaaGreat.Stp Go.Proofs.YtooiooledeblmaaGreat.Mach Go.Proofs.YtooiooledeblmaaGreat.Dec Go.Proofs.YtooiooledeblmaaGreatW.PrintMore
set_option linter.unusedVariables false
set_option linter.unusedSimpArgs false
def inCells (b : B4) (v : Value) (rs : List Value) : Array Value := (.int .i64 b.at_ :: .int .i64 b.err :: .int .i64 b.pl :: .bool b.fin :: v :: rs).toArray
structure InAt (T : TypeId) (w : World) (g rb : Nat) (v : Value) (b : B4) (l : List Int) (rs : List Value) : Prop where
  blk : w.heap[g]? = some (.cells (inCells b v rs) T (0, 0))
  row : w.ownsRow rb 31 1 v l.length (u32s l)
  nil : l = [] → v = .slice none 0 0
  rbl : rb ≤ w.heap.size
  ne : 31 ≠ T
section
variable {T : TypeId} {w : World} {g rb : Nat} {v : Value} {b : B4} {l : List Int} {rs : List Value}
theorem InAt.base (h : InAt T w g rb v b l rs) : BaseAt w g b := ⟨by rw [cell_of h.blk]; rfl, by rw [cell_of h.blk]; rfl, by rw [cell_of h.blk]; rfl, by rw [cell_of h.blk]; rfl, frozen_of h.blk⟩
theorem InAt.fz (h : InAt T w g rb v b l rs) : ∀ j, w.frozen? ⟨g, j, none⟩ = false := frozen_of h.blk
theorem InAt.c4 (h : InAt T w g rb v b l rs) : w.cell? ⟨g, 4, none⟩ = some v := by rw [cell_of h.blk]; rfl
theorem InAt.cell (h : InAt T w g rb v b l rs) (j : Nat) : w.cell? ⟨g, 5 + j, none⟩ = rs[j]? := by
  rw [cell_of h.blk]
  simp only [inCells]
  rw [show 5 + j = j + 5 by omega]
  simp
theorem InAt.lt (h : InAt T w g rb v b l rs) : g < w.heap.size := (Array.getElem?_eq_some_iff.1 h.blk).1
theorem InAt.row_g (h : InAt T w g rb v b l rs) : v.ownBlock ≠ some g := own_ne_blk h.row h.blk h.ne
theorem InAt.set (h : InAt T w g rb v b l rs) (j : Nat) (u : Value) {b' : B4} {rs' : List Value} (he : (inCells b v rs).setIfInBounds j u = inCells b' v rs') : InAt T (w.setCell ⟨g, j, none⟩ u) g rb v b' l rs' := by
  refine ⟨?_, ?_, h.nil, ?_, h.ne⟩
  · rw [heap_setCell_same w g j _ _ _ h.blk, he]
  · refine h.row.kept (w' := w.setCell ⟨g, j, none⟩ u) (row := some g) ⟨rfl, rfl, rfl, by simp [World.setCell], fun k hk hn => Below.heap_setCell w _ _ k (fun e => hn (by rw [e]))⟩ (.inr h.row_g)
  · have := h.rbl; simpa [World.setCell] using this
theorem InAt.keep {w' : World} (h : InAt T w g rb v b l rs) (hs : w.heap.size ≤ w'.heap.size) (h0 : w'.heap[g]? = w.heap[g]?) (h2 : ∀ k, v.ownBlock = some k → w'.heap[k]? = w.heap[k]?) : InAt T w' g rb v b l rs := by
  refine ⟨h0.trans h.blk, ?_, h.nil, Nat.le_trans h.rbl hs, h.ne⟩
  obtain ⟨a1, a2⟩ := h.row
  refine ⟨a1, ?_⟩
  rcases a2 with a2 | ⟨g', cap, cur, hv, hb, hh, r⟩
  · exact .inl a2
  · exact .inr ⟨g', cap, cur, hv, hb, (h2 g' (by rw [hv]; rfl)).trans hh, r⟩
theorem InAt.alloc (h : InAt T w g rb v b l rs) (o : Obj) : InAt T (w.alloc o) g rb v b l rs :=
  h.keep (by simp) (Below.heap_alloc w o g h.lt) (fun k hk => Below.heap_alloc w o k (h.row.lt k hk).2)
theorem InAt.drewN (h : InAt T w g rb v b l rs) (n : Nat) : InAt T (w.drewN n) g rb v b l rs := h.keep (Nat.le_refl _) rfl (fun _ _ => rfl)
theorem InAt.rebase (h : InAt T w g rb nilS b [] rs) (rb' : Nat) (hr : rb' ≤ w.heap.size) : InAt T w g rb' nilS b [] rs := ⟨h.blk, World.ownsRow_nil _ _ _ _, fun _ => rfl, hr, h.ne⟩
theorem InAt.told {w1 : World} (h : InAt T w g rb v b l rs) (hb : Below w.heap.size w w1) (v1 : Value) : InAt T ((w1.setCell ⟨g, 4, none⟩ v1).setCell ⟨g, 4, none⟩ nilS) g 0 nilS b [] rs := by
  have hgb : w1.heap[g]? = some (.cells (inCells b v rs) T (0, 0)) := (hb.block g h.lt).trans h.blk
  refine ⟨?_, World.ownsRow_nil _ _ _ _, fun _ => rfl, Nat.zero_le _, h.ne⟩
  have h1 := heap_setCell_same w1 g 4 _ _ v1 hgb
  rw [heap_setCell_same _ g 4 _ _ nilS h1]; rfl
end
def IS (g : Nat) (v : Value) : Nat → Prop := fun i => i = g ∨ v.ownBlock = some i
theorem is_g {g : Nat} {v : Value} {w : World} (j : Nat) (u : Value) : Chg (IS g v) w (w.setCell ⟨g, j, none⟩ u) := Chg.set (S := IS g v) w (.inl rfl) j u
theorem is_new {w w0 : World} {g : Nat} {v : Value} {n : Nat} {xs : List Value} {e : TypeId} {size : Nat} (h : w.ownsRow w0.heap.size e size v n xs) {i : Nat} (hi : i < w0.heap.size) (hh : IS g v i) : IS g nilS i := by
  rcases hh with hh | hh
  · exact .inl hh
  · have := (h.lt i hh).1; omega
theorem InAt.hold {T : TypeId} {w w1 : World} {g rb : Nat} {v : Value} {b : B4} {l : List Int} {rs : List Value} (h : InAt T w g rb v b l rs) (x : Int) {r c : Nat} (hown : w1.ownsRow rb 31 1 (.slice (some ⟨r, 0, none⟩) (l.length + 1) c) (l ++ [x]).length (u32s (l ++ [x]))) (hg : w.grownBy w1 v.ownBlock) (hr : r ≠ g) :
    InAt T (w1.setCell ⟨g, 4, none⟩ (.slice (some ⟨r, 0, none⟩) (l.length + 1) c)) g rb (.slice (some ⟨r, 0, none⟩) (l.length + 1) c) b (l ++ [x]) rs ∧ Chg (IS g v) w (w1.setCell ⟨g, 4, none⟩ (.slice (some ⟨r, 0, none⟩) (l.length + 1) c)) := by
  have hgb : w1.heap[g]? = some (.cells (inCells b v rs) T (0, 0)) := (hg.block g h.lt (fun e => h.row_g e.symm)).trans h.blk
  refine ⟨⟨?_, ?_, fun e => by simp at e, ?_, h.ne⟩, ?_⟩
  · rw [heap_setCell_same w1 g 4 _ _ _ hgb]; rfl
  · exact hown.kept (w' := w1.setCell ⟨g, 4, none⟩ _) (row := some g) ⟨rfl, rfl, rfl, by simp [World.setCell], fun k hk hn => Below.heap_setCell w1 _ _ k (fun e => hn (by rw [e]))⟩ (.inr (by simp [Value.ownBlock]; exact hr))
  · have := Nat.le_trans h.rbl hg.size; simpa [World.setCell] using this
  · exact chg_then (Chg.mono (chg_grown hg) (fun i hi => .inr hi)) (Chg.set (S := IS g v) w1 (.inl rfl) 4 _) (fun i _ hi => hi)
def stepsR {R : Type} (N : R → Int → Option (R × List Int)) (r : R) : List Int → Option (R × List Int)
  | [] => some (r, [])
  | x :: xs => match N r x with
    | none => none
    | some (r1, e) => match stepsR N r1 xs with
      | none => none
      | some (r2, e2) => some (r2, e ++ e2)
theorem stepsR_cons {R : Type} {N : R → Int → Option (R × List Int)} {r rE : R} {x : Int} {xs oE : List Int} (h : stepsR N r (x :: xs) = some (rE, oE)) : ∃ r1 e e2, N r x = some (r1, e) ∧ stepsR N r1 xs = some (rE, e2) ∧ oE = e ++ e2 := by
  simp only [stepsR] at h
  cases hs : N r x with
  | none => rw [hs] at h; cases h
  | some q =>
    obtain ⟨r1, e⟩ := q
    rw [hs] at h
    simp only at h
    cases ht : stepsR N r1 xs with
    | none => rw [ht] at h; cases h
    | some q =>
      obtain ⟨r2, e2⟩ := q
      rw [ht] at h
      simp only [Option.some.injEq, Prod.mk.injEq] at h
      obtain ⟨rfl, rfl⟩ := h
      exact ⟨r1, e, e2, rfl, ht, rfl⟩
theorem bend_in {T : TypeId} {w : World} {g rb : Nat} {v : Value} {b : B4} {l : List Int} {rs : List Value} (h : InAt T w g rb v b l rs) (hg : b.going = true) :
    Calls Tryz.prog 139 #[.pointer (some ⟨g, 0, none⟩)] w fun e w' => e = .returned (.tuple #[]) ∧ InAt T w' g rb v { b with fin := true } l rs ∧ Chg (IS g v) w w' := by
  refine (bend_calls g b w h.base).mono ?_
  rintro e w' ⟨rfl, rfl⟩
  rw [if_pos hg]
  exact ⟨rfl, h.set 3 (.bool true) rfl, is_g 3 _⟩
theorem done_in {T : TypeId} {w : World} {g : Nat} {b : B4} {rs : List Value} (h : InAt T w g 0 nilS b [] rs) (hb : b.going = false) :
    Calls Tryz.prog 228 #[.pointer (some ⟨g, 0, none⟩)] w fun e w' => e = .returned (.bool true) ∧ w = w' := by
  have hg := going_calls g b w h.base
  have hh := held_calls g 4 none 0 0 w h.c4
  rw [hb] at hg
  clear h hb
  go_enter Tryz.func228, Tryz.ntmps228
  go_wp2_with (first | (go_at_call 143; refine hg.mono ?_; rintro e w1 ⟨rfl, rfl⟩) | (go_at_call 231; refine hh.mono ?_; rintro e w1 ⟨rfl, rfl⟩))
  go_ret
  exact ⟨rfl, rfl⟩
/-- One byte is right. -/
def NextPost {R : Type} (T : TypeId) (rest : R → List Value) (g rb : Nat) (v : Value) (b : B4) (l : List Int) (w : World) (r2 : R) (em : List Int) (e : Ending) (w2 : World) : Prop :=
  e = .returned (.bool true) ∧ ∃ v2, InAt T w2 g rb v2 b (l ++ em) (rest r2) ∧ Chg (IS g v) w w2
def InFed {R : Type} (T : TypeId) (rest : R → List Value) (g : Nat) (n : Nat) (rE : R) (oE : List Int) (w : World) (e : Ending) (w' : World) : Prop :=
  ∃ A c, e = .returned (.tuple #[.int .i64 n, .slice A oE.length c]) ∧ InAt T w' g 0 nilS { b40 with at_ := (n : Int) } [] (rest rE) ∧ Chg (IS g nilS) w w' ∧ w'.ownsRow w.heap.size 31 1 (.slice A oE.length c) oE.length (u32s oE)
def InRel {R : Type} (T : TypeId) (rest : R → List Value) (N : R → Int → Option (R × List Int)) (I : R → Prop) (g : Nat) (s : ByteArray) (rE : R) (oE : List Int) (w : World) (i : Value) (wx : World) : Prop :=
  ∃ (k : Nat) (v : Value) (r : R) (o o2 : List Int), k ≤ s.size ∧ i = .int .i64 k ∧ InAt T wx g w.heap.size v { b40 with at_ := (k : Int) } o (rest r) ∧ I r ∧ Chg (IS g nilS) w wx ∧ stepsR N r ((byt s).drop k) = some (rE, o2) ∧ oE = o ++ o2 ∧ o.length ≤ k
def InMid {R : Type} (T : TypeId) (rest : R → List Value) (g : Nat) (n : Nat) (rE : R) (oE : List Int) (w : World) (i : Value) (wx : World) : Prop :=
  ∃ v, i = .int .i64 n ∧ InAt T wx g w.heap.size v { b40 with at_ := (n : Int) } oE (rest rE) ∧ Chg (IS g nilS) w wx
end Go.Proofs.YtooiooledeblmaaGreat.Dcd
end
section
namespace Go.Proofs.YtooiooledeblmaaGreat.Dcd
open Go.RowKit Go.Proofs.YtooiooledeblmaaGreat.Win Go.Proofs.YtooiooledeblmaaGreat.Stp Go.Proofs.YtooiooledeblmaaGreat.Mach Go.Proofs.YtooiooledeblmaaGreat.Dec Go.Proofs.YtooiooledeblmaaGreatW.PrintMore
set_option linter.unusedVariables false
set_option linter.unusedSimpArgs false
set_option maxRecDepth 100000 in
set_option maxHeartbeats 8000000 in
theorem dfeed_uni8 {T : TypeId} {R : Type} {rest : R → List Value} {N : R → Int → Option (R × List Int)} {I : R → Prop} {r0 rE : R} {oE : List Int} {w : World} {g : Nat} (s : ByteArray) (room : Int) (h : InAt T w g 0 nilS b40 [] (rest r0)) (hI : I r0)
    (hnx : ∀ (r r2 : R) (x : Int) (em : List Int) (w : World) (rb : Nat) (v : Value) (b : B4) (l : List Int), I r → InAt T w g rb v b l (rest r) → 0 ≤ x → x ≤ 255 → l.length ≤ 100000 → N r x = some (r2, em) →
      Calls Tryz.prog 232 #[.pointer (some ⟨g, 0, none⟩), .int .u8 x] w (NextPost T rest g rb v b l w r2 em))
    (hIN : ∀ (r r2 : R) (x : Int) (em : List Int), I r → 0 ≤ x → x ≤ 255 → N r x = some (r2, em) → I r2 ∧ em.length ≤ 1)
    (hst : stepsR N r0 (byt s) = some (rE, oE)) (hs : s.size ≤ 4000) (hr : room = 4096) :
    Calls Tryz.prog 230 #[.pointer (some ⟨g, 0, none⟩), .string s, .int .i64 room] w (InFed T rest g s.size rE oE w) := by
  have hrm : 4096 ≤ room := by omega
  clear hr
  have H := Lib.hid h
  have HI := Lib.hid hI
  have HNx := Lib.hid hnx
  have HIN := Lib.hid hIN
  have HST := Lib.hid hst
  clear h hI hnx hIN hst
  go_enter Tryz.func230, Tryz.ntmps230
  go_upto_block 0 with fail
  go_cut [8] (fun i wx => InMid T rest g s.size rE oE w i wx ∧ oE.length ≤ 4000)
  case first =>
    go_wp2_with fail
    go_loopw [8] (fun i wr => InRel T rest N I g s rE oE w i wr) (fun i _ => s.size - (intOf i).toNat)
    case atStart =>
      exact ⟨0, nilS, r0, [], oE, Nat.zero_le _, rfl, H.out.rebase w.heap.size (Nat.le_refl _), HI.out, Chg.refl _, HST.out, rfl, Nat.zero_le _⟩
    case round =>
      obtain ⟨k, v, r, o, o2, hk, rfl, hd, hi, hc, hst, hoe, hol⟩ := hrel
      have HD := Lib.hid hd
      have HI' := Lib.hid hi
      have HC := Lib.hid hc
      have HST' := Lib.hid hst
      have HOe := Lib.hid hoe
      obtain ⟨A, c0, hv⟩ : ∃ A c, v = .slice A o.length c := by
        rcases hd.row.2 with ⟨h1, h2⟩ | ⟨g', cap, cur, h1, _⟩
        · exact ⟨none, 0, by rw [h1, h2]⟩
        · exact ⟨_, _, h1⟩
      have h4 := hd.c4
      rw [hv] at h4
      have HV := Lib.hid hv
      have hheld := held_calls g 4 A o.length c0 wr h4
      have HH := Lib.hid hheld
      have hgoing := going_calls g _ wr hd.base
      have hge : ({ b40 with at_ := (k : Int) } : B4).going = true := rfl
      rw [hge] at hgoing
      have HGg := Lib.hid hgoing
      clear hd hi hc hst hoe hv h4 hheld hge hgoing
      by_cases hlt : k < s.size
      · have hdc : (byt s).drop k = (s[k].toNat : Int) :: (byt s).drop (k + 1) := by
          rw [List.drop_eq_getElem_cons (by rw [byt_length]; exact hlt)]
          have := byt_at s k hlt
          rw [List.getD_eq_getElem?_getD, List.getElem?_eq_getElem (by rw [byt_length]; exact hlt)] at this
          rw [← this]; rfl
        have hst2 := HST'.out
        rw [hdc] at hst2
        obtain ⟨r2, em, e2, q1, q2, q3⟩ := stepsR_cons hst2
        obtain ⟨hi2, hem⟩ := HIN.out r r2 _ em HI'.out (by omega) (by have := s[k].toNat_lt; omega) q1
        have HN := Lib.hid (HNx.out r r2 (s[k].toNat : Int) em wr w.heap.size v _ o HI'.out HD.out (by omega) (by have := s[k].toNat_lt; omega) (by omega) q1)
        have HQ := Lib.hid (And.intro q2 q3)
        have HI2 := Lib.hid hi2
        clear hdc hst2 q1 q2 q3 hi2
        have hrm2 : (o.length : Int) < room := by omega
        go_wp2_with fail
        refine HH.out.mono ?_
        rintro e w1 ⟨rfl, rfl⟩
        go_wp2_with fail
        refine HGg.out.mono ?_
        rintro e w1 ⟨rfl, rfl⟩
        go_wp2_with fail
        refine HN.out.mono ?_
        rintro e w2 ⟨rfl, v2, hd2, hc2⟩
        have heat := eat_calls g _ 1 w2 hd2.base rfl (by decide) (by decide) (show (0 : Int) ≤ (k : Int) by omega) (show (k : Int) ≤ 1000000000 by omega)
        have HEt := Lib.hid heat
        have HD2 := Lib.hid hd2
        have HC2 := Lib.hid hc2
        clear heat hd2 hc2
        go_wp2_with fail
        refine HEt.out.mono ?_
        rintro e w3 ⟨rfl, rfl⟩
        go_wp2_with fail
        go_roundw
        case rel =>
          refine ⟨k + 1, v2, r2, o ++ em, e2, by omega, by go_num, ?_, HI2.out, ?_, HQ.out.1, ?_, ?_⟩
          · have := HD2.out.set 0 (.int .i64 ((k : Int) + 1)) (b' := { b40 with at_ := ((k + 1 : Nat) : Int) }) (rs' := rest r2) (by simp [inCells])
            exact this
          · exact chg_then HC.out (HC2.out.trans (is_g 0 _)) (fun i hi hh => is_new HD.out.row hi hh)
          · rw [HOe.out, HQ.out.2, List.append_assoc]
          · rw [List.length_append]; omega
        case measure => simp [intOf]; omega
      · obtain rfl : k = s.size := by omega
        clear hlt
        have hdn : (byt s).drop s.size = [] := by rw [← byt_length, List.drop_length]
        have hst2 := HST'.out
        rw [hdn] at hst2
        simp only [stepsR, Option.some.injEq, Prod.mk.injEq] at hst2
        obtain ⟨rfl, rfl⟩ := hst2
        have ho := HOe.out
        rw [List.append_nil] at ho
        subst ho
        clear hdn
        go_wp2_with fail
        go_meet
        exact ⟨⟨v, rfl, HD.out, HC.out⟩, by omega⟩
  case rest =>
    obtain ⟨⟨v, rfl, hd, hc⟩, hol⟩ := hcut
    have HD := Lib.hid hd
    have HC := Lib.hid hc
    have h4 := hd.c4
    have f4 := hd.fz 4
    have hnil := hd.nil
    by_cases ho : oE = []
    · have hvn := hnil ho
      rw [hvn] at h4
      have ht := tell_none g 4 room wc h4 f4
      have HT := Lib.hid ht
      have HO := Lib.hid ho
      clear hd hc h4 f4 hnil ho hvn ht
      go_wp2_with fail
      refine HT.out.mono ?_
      rintro e w1 ⟨rfl, rfl⟩
      go_wp2_with fail
      go_ret2
      obtain rfl := HO.out
      exact ⟨none, 0, rfl, HD.out.told (Below.refl _ _) nilS, chg_then HC.out ((is_g (v := nilS) 4 _).trans (is_g 4 _)) (fun i _ hi => hi), World.ownsRow_nil _ _ _ _⟩
    · have hpos : 0 < oE.length := by
        rcases Nat.eq_zero_or_pos oE.length with h | h
        · exact absurd (List.eq_nil_of_length_eq_zero h) ho
        · exact h
      obtain ⟨r, c, hv, _, _⟩ := hd.row.form hpos
      have hrow := hd.row
      have hrg := hd.row_g
      rw [hv] at h4 hrow hrg
      have hne : r ≠ g := fun e => hrg (by rw [e]; rfl)
      have ht := tell_all g 4 r w.heap.size c oE room wc h4 f4 hrow hne hpos (by omega) (by omega)
      have HT := Lib.hid ht
      clear hd hc h4 f4 hnil ho hv ht hrow hrg hne
      go_wp2_with fail
      refine HT.out.mono ?_
      rintro e w1 ⟨r1, c1, w2, v1, rfl, rfl, hown, hb⟩
      have HOW := Lib.hid hown
      have HB := Lib.hid hb
      clear hown hb
      go_wp2_with fail
      go_ret2
      have hlt := HOW.out.lt r1 rfl
      have hgl := HD.out.lt
      refine ⟨some ⟨r1, 0, none⟩, c1, rfl, HD.out.told HB.out v1, ?_, ?_⟩
      · exact chg_then HC.out (((Chg.of_below HB.out).trans (is_g (v := nilS) 4 _)).trans (is_g 4 _)) (fun i _ hi => hi)
      · have h1 := own_weaken HOW.out HC.out.size
        refine h1.kept (w' := _) (row := some g) ⟨rfl, rfl, rfl, by simp [World.setCell], fun q hq hn => ?_⟩ (.inr (by simp [Value.ownBlock]; omega))
        exact (Below.heap_setCell _ _ _ q (fun e => hn (by rw [e]))).trans (Below.heap_setCell _ _ _ q (fun e => hn (by rw [e])))
end Go.Proofs.YtooiooledeblmaaGreat.Dcd
end
