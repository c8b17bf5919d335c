/- The expander: the other bytes behind a part's first one; any byte. -/
import Derived.Test.YtnkinbfglenddaaDec4
namespace Go.Proofs.Ytnkinbfglenddaa.Dec
open Go.RowKit Go.Proofs.Ytnkinbfglenddaa.Win Go.Proofs.Ytnkinbfglenddaa.Stp Go.Proofs.Ytnkinbfglenddaa.Mach
set_option linter.unusedVariables false
set_option linter.unusedSimpArgs false
set_option maxRecDepth 100000 in
set_option maxHeartbeats 4000000 in
theorem more_3 {w : World} {g gw rb : Nat} {v : Value} {b : B4} {l : List Int} {m : M} (x : Int) (h : DecAt w g gw rb v b l m) (hbeg : m.beg = 3) :
    Calls Try.prog 40 #[.pointer (some ⟨g, 0, none⟩), .int .u8 x] w (NextPost w g gw rb v b l (Mach.more m x)) := by
  have h8 := h.c8
  have f8 := h.fz 8
  have h10 := h.c10
  have f10 := h.fz 10
  rw [hbeg] at h8
  have hr : Mach.more m x = some ({ m with first := x, beg := 4 }, []) := by unfold Mach.more; rw [if_neg (by rw [hbeg]; decide), if_neg (by rw [hbeg]; decide), if_pos hbeg]
  rw [hr]
  have H := Lib.hid h
  clear h hr hbeg
  go_enter Try.func40, Try.ntmps40
  go_wp2_with fail
  go_ret
  exact np_of ((H.out.set 10 (.int .u8 x) (b' := b) (m' := { m with first := x }) rfl rfl).set 8 (.int .i64 4) rfl rfl) ((chg_g 10 _).trans (chg_g 8 _))
set_option maxRecDepth 100000 in
set_option maxHeartbeats 4000000 in
theorem more_4 {w : World} {g gw rb : Nat} {v : Value} {b : B4} {l : List Int} {m : M} (x : Int) (h : DecAt w g gw rb v b l m) (hG : Mach.Good m) (x0 : 0 ≤ x) (x1 : x ≤ 255) (hbeg : m.beg = 4) :
    Calls Try.prog 40 #[.pointer (some ⟨g, 0, none⟩), .int .u8 x] w (NextPost w g gw rb v b l (Mach.more m x)) := by
  have h5 := h.c5
  have h8 := h.c8
  have h10 := h.c10
  rw [hbeg] at h8
  have hf := hG.first
  have hr : Mach.more m x = some (({ m with o := m.o.set (m.first / 32).toNat (65536 + 128 * (m.first % 32 * 256 + x)) } : M).activate (m.first / 32), []) := by unfold Mach.more; rw [if_neg (by rw [hbeg]; decide), if_neg (by rw [hbeg]; decide), if_neg (by rw [hbeg]; decide), if_pos hbeg]
  rw [hr]
  have hx := fun w => extended_calls m.first x w hf.1 hf.2 x0 x1
  obtain ⟨n, hn⟩ : ∃ n, n = m.first / 32 := ⟨_, rfl⟩
  obtain ⟨o, ho⟩ : ∃ o, o = 65536 + 128 * (m.first % 32 * 256 + x) := ⟨_, rfl⟩
  rw [← hn, ← ho] at hx ⊢
  have hn01 : 0 ≤ n ∧ n < 8 := by omega
  obtain ⟨n0, n1⟩ := hn01
  have HX := Lib.hid hx
  have H := Lib.hid h
  have hset : ∀ w3 : World, WinAt w3 gw m.o used0 → Calls Try.prog 51 #[.pointer (some ⟨gw, 0, none⟩), .int .i64 n, .int .u32 o] w3 fun e w' => e = .returned (.tuple #[]) ∧ WinAt w' gw (m.o.set n.toNat o) used0 ∧ Chg (· = gw) w3 w' := by
    intro w3 hw3
    have := set_calls gw m.o used0 n o w3 hw3
    rw [if_pos ⟨n0, n1⟩] at this
    exact this
  have HSET := Lib.hid hset
  clear h hG hf hr hx hn ho hset hbeg
  go_enter Try.func40, Try.ntmps40
  go_wp2_with fail
  refine (HX.out _).mono ?_
  rintro e w2 ⟨rfl, rfl⟩
  go_wp2_with fail
  refine (HSET.out _ H.out.win).mono ?_
  rintro e w3 ⟨rfl, hw3, hc3⟩
  have hd3 := H.out.wins hw3 hc3
  have HD3 := Lib.hid hd3
  have HC3 := Lib.hid hc3
  clear hw3 hc3 hd3
  go_wp2_with (go_at_call 52; refine (activate_calls _ HD3.out).mono ?_; rintro e w4 ⟨rfl, rfl⟩)
  go_ret
  exact np_of (at_act HD3.out n) ((chg_gw HC3.out).trans (((chg_g 7 _).trans (chg_g 6 _)).trans (chg_g 8 _)))
set_option maxRecDepth 100000 in
set_option maxHeartbeats 4000000 in
theorem more_5 {w : World} {g gw rb : Nat} {v : Value} {b : B4} {l : List Int} {m : M} (x : Int) (h : DecAt w g gw rb v b l m) (hbeg : m.beg = 5) :
    Calls Try.prog 40 #[.pointer (some ⟨g, 0, none⟩), .int .u8 x] w (NextPost w g gw rb v b l (Mach.more m x)) := by
  have h8 := h.c8
  have h10 := h.c10
  have f10 := h.fz 10
  rw [hbeg] at h8
  have H := Lib.hid h
  have h10' := h.set 10 (.int .u8 x) (b' := b) (m' := { m with first := x }) rfl rfl
  have hf := fits_calls x h10'
  have H10 := Lib.hid h10'
  have e : ({ m with first := x } : M).fits x = m.fits x := rfl
  rw [e] at hf
  have hr : Mach.more m x = if m.fits x = true then some (({ m with first := x } : M).begin 6 0, []) else none := by unfold Mach.more; rw [if_neg (by rw [hbeg]; decide), if_neg (by rw [hbeg]; decide), if_neg (by rw [hbeg]; decide), if_neg (by rw [hbeg]; decide), if_pos hbeg]
  rw [hr]
  clear h h10' e hr hbeg
  cases hfx : m.fits x with
  | true =>
    rw [if_pos rfl]
    rw [hfx] at hf
    clear hfx
    go_enter Try.func40, Try.ntmps40
    go_wp2_with (first | (go_at_call 54; refine hf.mono ?_; rintro e w1 ⟨rfl, rfl⟩) | (go_at_call 55; refine (begin_calls _ _ H10.out).mono ?_; rintro e w1 ⟨rfl, rfl⟩))
    go_ret
    exact np_of (at_begin H10.out 6 0) (((chg_g 10 _).trans (chg_g 8 _)).trans (chg_g 9 _))
  | false =>
    rw [if_neg (by decide)]
    rw [hfx] at hf
    clear hfx
    go_enter Try.func40, Try.ntmps40
    go_wp2_with (go_at_call 54; refine hf.mono ?_; rintro e w1 ⟨rfl, rfl⟩)
    go_ret
    exact np_nof H10.out (chg_g 10 _)
set_option maxRecDepth 100000 in
set_option maxHeartbeats 4000000 in
theorem more_6 {w : World} {g gw rb : Nat} {v : Value} {b : B4} {l : List Int} {m : M} (x : Int) (h : DecAt w g gw rb v b l m) (hG : Mach.Good m) (x0 : 0 ≤ x) (x1 : x ≤ 255) (hl : l.length ≤ 1000000) (hbeg : m.beg = 6) :
    Calls Try.prog 40 #[.pointer (some ⟨g, 0, none⟩), .int .u8 x] w (NextPost w g gw rb v b l (Mach.more m x)) := by
  have h8 := h.c8
  have h10 := h.c10
  rw [hbeg] at h8
  have hf := hG.first
  have hr : Mach.more m x = some (Mach.whole m (m.first * 256 + x)) := by unfold Mach.more; rw [if_neg (by rw [hbeg]; decide), if_neg (by rw [hbeg]; decide), if_neg (by rw [hbeg]; decide), if_neg (by rw [hbeg]; decide), if_neg (by rw [hbeg]; decide)]
  rw [hr]
  have hw := whole_calls (m.first * 256 + x) h hG (by omega) (by omega) hl
  have HW := Lib.hid hw
  have or1 : bits .or .u32 (m.first * 256) x = m.first * 256 + x := bits_join .u32 32 (by decide) wraps_u32 8 (m.first * 256) x (by omega) (by omega) (by omega) (by omega) (by omega) (by omega)
  have HO := Lib.hid or1
  obtain ⟨p0, p1⟩ := hf
  clear h hG hr hw or1 hbeg
  go_enter Try.func40, Try.ntmps40
  go_wp2_with fail
  rw [HO.out]
  refine HW.out.mono ?_
  rintro e w1 ⟨rfl, hd⟩
  have HD := Lib.hid hd
  clear hd
  go_wp2_with fail
  go_ret
  exact ⟨rfl, HD.out⟩
theorem more_calls {w : World} {g gw rb : Nat} {v : Value} {b : B4} {l : List Int} {m : M} (x : Int) (h : DecAt w g gw rb v b l m) (hG : Mach.Good m) (x0 : 0 ≤ x) (x1 : x ≤ 255) (hl : l.length ≤ 1000000) (hbeg : m.beg ≠ 0) :
    Calls Try.prog 40 #[.pointer (some ⟨g, 0, none⟩), .int .u8 x] w (NextPost w g gw rb v b l (Mach.more m x)) := by
  have hb := hG.beg
  have hcs : m.beg = 1 ∨ m.beg = 2 ∨ m.beg = 3 ∨ m.beg = 4 ∨ m.beg = 5 ∨ m.beg = 6 := by omega
  rcases hcs with e | e | e | e | e | e
  · exact more_1 x h hG x0 x1 hl e
  · exact more_2 x h hG x0 x1 hl e
  · exact more_3 x h e
  · exact more_4 x h hG x0 x1 e
  · exact more_5 x h e
  · exact more_6 x h hG x0 x1 hl e
set_option maxHeartbeats 1000000 in
theorem next_calls {w : World} {g gw rb : Nat} {v : Value} {b : B4} {l : List Int} {m : M} (x : Int) (h : DecAt w g gw rb v b l m) (hG : Mach.Good m) (x0 : 0 ≤ x) (x1 : x ≤ 255) (hl : l.length ≤ 1000000) :
    Calls Try.prog 32 #[.pointer (some ⟨g, 0, none⟩), .int .u8 x] w (NextPost w g gw rb v b l (Mach.step m x)) := by
  have h8 := h.c8
  have h6 := h.c6
  by_cases hbeg : m.beg = 0
  · have hb : (m.beg != 0) = false := by simp [hbeg]
    have hr : Mach.step m x = if m.uni = true then Mach.double m x else Mach.single m x := by unfold Mach.step; rw [if_neg (by simp [hbeg])]
    rw [hr]
    cases hu : m.uni with
    | true =>
      rw [if_pos rfl]
      have HD := Lib.hid (double_calls x h x0 x1)
      rw [hu] at h6
      clear h hG hbeg hr hu
      go_enter Try.func32, Try.ntmps32
      go_wp2_with fail
      refine HD.out.mono ?_
      intro e w' hp
      cases hm : Mach.double m x with
      | none =>
        rw [hm] at hp
        obtain ⟨rfl, hq⟩ := hp
        have HQ := Lib.hid hq
        have HM := Lib.hid hm
        clear hq hm
        go_wp2_with fail
        go_ret
        rw [HM.out]
        exact ⟨rfl, HQ.out⟩
      | some r =>
        obtain ⟨m', em⟩ := r
        rw [hm] at hp
        obtain ⟨rfl, hq⟩ := hp
        have HQ := Lib.hid hq
        have HM := Lib.hid hm
        clear hq hm
        go_wp2_with fail
        go_ret
        rw [HM.out]
        exact ⟨rfl, HQ.out⟩
    | false =>
      rw [if_neg (by decide)]
      have HD := Lib.hid (single_calls x h hG x0 x1 hl)
      rw [hu] at h6
      clear h hG hbeg hr hu
      go_enter Try.func32, Try.ntmps32
      go_wp2_with fail
      refine HD.out.mono ?_
      intro e w' hp
      cases hm : Mach.single m x with
      | none =>
        rw [hm] at hp
        obtain ⟨rfl, hq⟩ := hp
        have HQ := Lib.hid hq
        have HM := Lib.hid hm
        clear hq hm
        go_wp2_with fail
        go_ret
        rw [HM.out]
        exact ⟨rfl, HQ.out⟩
      | some r =>
        obtain ⟨m', em⟩ := r
        rw [hm] at hp
        obtain ⟨rfl, hq⟩ := hp
        have HQ := Lib.hid hq
        have HM := Lib.hid hm
        clear hq hm
        go_wp2_with fail
        go_ret
        rw [HM.out]
        exact ⟨rfl, HQ.out⟩
  · have hb : (m.beg != 0) = true := by simp [hbeg]
    have hr : Mach.step m x = Mach.more m x := by unfold Mach.step; rw [if_pos hbeg]
    rw [hr]
    have HD := Lib.hid (more_calls x h hG x0 x1 hl hbeg)
    clear h hG hbeg hr
    go_enter Try.func32, Try.ntmps32
    go_wp2_with fail
    refine HD.out.mono ?_
    intro e w' hp
    cases hm : Mach.more m x with
    | none =>
      rw [hm] at hp
      obtain ⟨rfl, hq⟩ := hp
      have HQ := Lib.hid hq
      have HM := Lib.hid hm
      clear hq hm
      go_wp2_with fail
      go_ret
      rw [HM.out]
      exact ⟨rfl, HQ.out⟩
    | some r =>
      obtain ⟨m', em⟩ := r
      rw [hm] at hp
      obtain ⟨rfl, hq⟩ := hp
      have HQ := Lib.hid hq
      have HM := Lib.hid hm
      clear hq hm
      go_wp2_with fail
      go_ret
      rw [HM.out]
      exact ⟨rfl, HQ.out⟩
end Go.Proofs.Ytnkinbfglenddaa.Dec
