/- The reference's parts are some bytes of the machine; plain. -/
import Derived.Test.YtkfiahildoljfaaRdef
import Derived.Test.YtkfiahildoljfaaSteps
namespace Go.Proofs.Ytkfiahildoljfaa.Sim
open Go.RowKit Go.Proofs.Ytkfiahildoljfaa.Win Go.Proofs.Ytkfiahildoljfaa.Stp Go.Proofs.Ytkfiahildoljfaa.Mach Go.Proofs.Ytkfiahildoljfaa.Dec
open Go.Proofs.Ytkfiahildoljfaa.Rst (R rwrong rcut runit rlay rpartU rpartS rpart rpush)
set_option linter.unusedVariables false
set_option linter.unusedSimpArgs false
structure Sm (m : M) (t : R) : Prop where
  o : m.o = t.o
  uni : m.uni = t.uni
  act : m.act = t.act
  beg : m.beg = 0
  up : m.upper = t.high
/-- What a part has done. -/
def Did (m : M) (t : R) (l : List Int) (k : Nat) (r : R × Nat) : Prop :=
  (r.1.err = t.err ∧ k < r.2 ∧ r.2 ≤ l.length ∧ ∃ m' e, steps m ((l.drop k).take (r.2 - k)) = some (m', e) ∧ Sm m' r.1 ∧ r.1.out = t.out ++ e) ∨
  (r.1.err = 3 ∧ r.1.pl = (r.2 : Int) ∧ k ≤ r.2 ∧ r.2 < l.length ∧ r.1.out = t.out ∧ ∃ m', steps m ((l.drop k).take (r.2 - k)) = some (m', []) ∧ Mach.step m' (l.getD r.2 0) = none) ∨
  (r.1.err = 4 ∧ r.1.pl = (r.2 : Int) ∧ r.2 = l.length ∧ r.1.out = t.out ∧ ∃ m', steps m (l.drop k) = some (m', []) ∧ m'.beg ≠ 0)
theorem drop_at {l : List Int} {k : Nat} (h : k < l.length) : l.drop k = l.getD k 0 :: l.drop (k + 1) := Lst.drop_cons h
/-- One byte more ahead. -/
theorem did_cons {m m1 : M} {t : R} {l : List Int} {k : Nat} {r : R × Nat} (hk : k < l.length) (h1 : Mach.step m (l.getD k 0) = some (m1, [])) (h : Did m1 t l (k + 1) r) : Did m t l k r := by
  have hd := drop_at hk
  have hst : ∀ n m' e, steps m1 ((l.drop (k + 1)).take n) = some (m', e) → steps m ((l.drop k).take (n + 1)) = some (m', e) := by
    intro n m' e h2
    rw [hd, List.take_succ_cons]
    simp only [steps, h1, h2]
    rfl
  rcases h with ⟨a1, a2, a3, m', e, a4, a5, a6⟩ | ⟨a1, a2, a3, a4, a5, m', a6, a7⟩ | ⟨a1, a2, a3, a4, m', a5, a6⟩
  · refine .inl ⟨a1, by omega, a3, m', e, ?_, a5, a6⟩
    have := hst _ _ _ a4
    rw [show r.2 - (k + 1) + 1 = r.2 - k by omega] at this
    exact this
  · refine .inr (.inl ⟨a1, a2, by omega, a4, a5, m', ?_, a7⟩)
    have := hst _ _ _ a6
    rw [show r.2 - (k + 1) + 1 = r.2 - k by omega] at this
    exact this
  · refine .inr (.inr ⟨a1, a2, a3, a4, m', ?_, a6⟩)
    rw [hd]
    simp only [steps, h1, a5]
    rfl
/-- One byte does it. -/
theorem did_one {m m1 : M} {t t1 : R} {l : List Int} {k : Nat} {e : List Int} (hk : k < l.length) (h1 : Mach.step m (l.getD k 0) = some (m1, e)) (hs : Sm m1 t1) (he : t1.err = t.err) (ho : t1.out = t.out ++ e) : Did m t l k (t1, k + 1) := by
  refine .inl ⟨he, Nat.lt_succ_self k, hk, m1, e, ?_, hs, ho⟩
  show steps m ((l.drop k).take (k + 1 - k)) = some (m1, e)
  rw [drop_at hk, show k + 1 - k = 1 by omega, List.take_succ_cons, List.take_zero]
  simp only [steps, h1]
  simp
theorem did_wrong {m : M} {t : R} {l : List Int} {k : Nat} (hk : k < l.length) (h1 : Mach.step m (l.getD k 0) = none) : Did m t l k (rwrong t k) := by
  refine .inr (.inl ⟨rfl, rfl, Nat.le_refl k, hk, rfl, m, ?_, h1⟩)
  show steps m ((l.drop k).take (k - k)) = some (m, [])
  rw [Nat.sub_self]; rfl
theorem did_cut {m : M} {t : R} {l : List Int} {k : Nat} (hk : l.length ≤ k) (h1 : m.beg ≠ 0) : Did m t l k (rcut t l.length) := by
  refine .inr (.inr ⟨rfl, rfl, rfl, rfl, m, ?_, h1⟩)
  rw [List.drop_eq_nil_of_le hk]; rfl
/-- A unit's second byte, or none. -/
theorem did_second {m : M} {t : R} {l : List Int} {k : Nat} (hb : m.beg = 6) (hf : m.first = l.getD k 0) (hs : m.uni = t.uni) (ho : m.o = t.o) (ha : m.act = t.act) (hu : m.upper = t.high) (hhi : t.high = 0 ∨ 55296 ≤ t.high ∧ t.high < 56320)
    (hlow : low8 (l.getD k 0) = decide (t.high > 0)) (hr : ∀ x ∈ l, 0 ≤ x ∧ x ≤ 255) (hk : k < l.length) :
    Did m t l (k + 1) (if l.length ≤ k + 1 then rcut t l.length
      else if low8 (l.getD k 0) = true then ({ t with out := t.out ++ [65536 + (t.high - 55296) * 1024 + (l.getD k 0 * 256 + l.getD (k + 1) 0) - 56320], high := 0 }, k + 2)
      else if 55296 ≤ l.getD k 0 * 256 + l.getD (k + 1) 0 ∧ l.getD k 0 * 256 + l.getD (k + 1) 0 ≤ 56319 then ({ t with high := l.getD k 0 * 256 + l.getD (k + 1) 0 }, k + 2)
      else ({ t with out := t.out ++ [l.getD k 0 * 256 + l.getD (k + 1) 0] }, k + 2)) := by
  by_cases hl : l.length ≤ k + 1
  · rw [if_pos hl]
    exact did_cut hl (by rw [hb]; decide)
  · rw [if_neg hl]
    have hk1 : k + 1 < l.length := by omega
    have hx := hr (l.getD k 0) (by rw [List.getD_eq_getElem?_getD, List.getElem?_eq_getElem hk]; exact List.getElem_mem _)
    have hy := hr (l.getD (k + 1) 0) (by rw [List.getD_eq_getElem?_getD, List.getElem?_eq_getElem hk1]; exact List.getElem_mem _)
    have hstep : Mach.step m (l.getD (k + 1) 0) = some (whole m (l.getD k 0 * 256 + l.getD (k + 1) 0)) := by
      rw [mor (by rw [hb]; decide)]
      unfold more
      rw [hb, if_neg (by decide), if_neg (by decide), if_neg (by decide), if_neg (by decide), if_neg (by decide), hf]
    generalize l.getD k 0 = x at hf hlow hstep hx ⊢
    obtain ⟨y, hy2⟩ : ∃ y, l.getD (k + 1) 0 = y := ⟨_, rfl⟩
    rw [hy2] at hstep hy ⊢
    by_cases hlo : low8 x = true
    · rw [if_pos hlo]
      have hh : 0 < t.high := by
        rw [hlo] at hlow
        simpa using hlow.symm
      have hxx : 220 ≤ x ∧ x ≤ 223 := by unfold low8 at hlo; simpa using hlo
      have e1 : whole m (x * 256 + y) = ({ m with beg := 0, upper := 0 }, [65536 + (t.high - 55296) * 1024 + (x * 256 + y) - 56320]) := by
        unfold whole
        rw [hu, if_pos (by omega)]
        congr 2
        omega
      rw [e1] at hstep
      subst hy2
      exact did_one hk1 hstep ⟨ho, hs, ha, rfl, rfl⟩ rfl rfl
    · rw [if_neg hlo]
      have hh : t.high = 0 := by
        have : low8 x = false := by simpa using hlo
        rw [this] at hlow
        have : ¬ t.high > 0 := by simpa using hlow.symm
        omega
      by_cases hs1 : 55296 ≤ x * 256 + y ∧ x * 256 + y ≤ 56319
      · rw [if_pos hs1]
        have e1 : whole m (x * 256 + y) = ({ m with beg := 0, upper := x * 256 + y }, []) := by
          unfold whole
          rw [hu, if_neg (by omega), if_pos (by omega)]
        rw [e1] at hstep
        subst hy2
        exact did_one hk1 hstep ⟨ho, hs, ha, rfl, rfl⟩ rfl (by simp)
      · rw [if_neg hs1]
        have e1 : whole m (x * 256 + y) = ({ m with beg := 0 }, [x * 256 + y]) := by
          unfold whole
          rw [hu, if_neg (by omega), if_neg (by omega)]
        rw [e1] at hstep
        subst hy2
        exact did_one hk1 hstep ⟨ho, hs, ha, rfl, hu⟩ rfl rfl
theorem m_low {m : M} {b : Int} (h : m.beg = 1) (hb : ¬ 128 ≤ b) : more m b = some ({ m with beg := 0 }, [(wStatic m.n).1 + b]) := by
  unfold more
  rw [if_pos h, if_neg hb]
theorem more5 {m : M} {b : Int} (h : m.beg = 5) : more m b = if m.fits b = true then some (({ m with first := b } : M).begin 6 0, []) else none := by
  unfold more
  rw [if_neg (by rw [h]; decide), if_neg (by rw [h]; decide), if_neg (by rw [h]; decide), if_neg (by rw [h]; decide), if_pos h]
theorem fits_eq {m : M} {t : R} (hu : m.upper = t.high) (hhi : t.high = 0 ∨ 55296 ≤ t.high ∧ t.high < 56320) (b : Int) : m.fits b = (low8 b == decide (t.high > 0)) := by
  unfold M.fits
  rw [hu]
  congr 1
  rw [Bool.eq_iff_iff]
  simp
  omega
/-- A state behind which a unit comes; how its first byte is taken. -/
theorem did_unit {m : M} {t : R} {l : List Int} {k : Nat} (hs : m.uni = t.uni) (ho : m.o = t.o) (ha : m.act = t.act) (hu : m.upper = t.high) (hhi : t.high = 0 ∨ 55296 ≤ t.high ∧ t.high < 56320) (hr : ∀ x ∈ l, 0 ≤ x ∧ x ≤ 255)
    (hend : l.length ≤ k → m.beg ≠ 0) (hst : k < l.length → Mach.step m (l.getD k 0) = if m.fits (l.getD k 0) = true then some (({ m with first := l.getD k 0 } : M).begin 6 0, []) else none) : Did m t l k (runit t l k) := by
  unfold runit
  by_cases hl : l.length ≤ k
  · rw [if_pos hl]
    exact did_cut hl (hend hl)
  · rw [if_neg hl]
    have hk : k < l.length := by omega
    have h1 := hst hk
    rw [fits_eq hu hhi] at h1
    by_cases hlow : low8 (l.getD k 0) = decide (t.high > 0)
    · rw [if_neg (fun h => h hlow)]
      rw [if_pos (by rw [hlow]; simp)] at h1
      exact did_cons hk h1 (did_second (m := ({ m with first := l.getD k 0 } : M).begin 6 0) rfl rfl hs ho ha hu hhi hlow hr hk)
    · rw [if_pos hlow]
      rw [if_neg (by simpa using hlow)] at h1
      exact did_wrong hk h1
theorem did_lay2 {m : M} {t : R} {l : List Int} {k : Nat} {n : Int} (hn : 0 ≤ n) (hb : m.beg = 2) (hmn : m.n = n) (ho : m.o = t.o) (hu : m.upper = t.high) : Did m t l k (rlay t l k n) := by
  unfold rlay
  by_cases hl : l.length ≤ k
  · rw [if_pos hl]
    exact did_cut hl (by rw [hb]; decide)
  · rw [if_neg hl, if_neg (by omega)]
    have hk : k < l.length := by omega
    have h1 : Mach.step m (l.getD k 0) = _ := (mor (by rw [hb]; decide)).trans (m_lay hb)
    by_cases ho2 : (wOffset (l.getD k 0)).2 = true
    · rw [if_pos ho2]
      rw [if_pos ho2, hmn, ho] at h1
      exact did_one hk h1 ⟨rfl, rfl, rfl, rfl, hu⟩ rfl (by simp)
    · rw [if_neg ho2]
      rw [if_neg ho2] at h1
      exact did_wrong hk h1
theorem did_lay3 {m : M} {t : R} {l : List Int} {k : Nat} (hb : m.beg = 3) (ho : m.o = t.o) (hu : m.upper = t.high) : Did m t l k (rlay t l k (-1)) := by
  unfold rlay
  by_cases hl : l.length ≤ k
  · rw [if_pos hl]
    exact did_cut hl (by rw [hb]; decide)
  · rw [if_neg hl, if_pos (by decide)]
    have hk : k < l.length := by omega
    have h1 : Mach.step m (l.getD k 0) = some ({ m with first := l.getD k 0, beg := 4 }, []) := by
      rw [mor (by rw [hb]; decide)]
      unfold more
      rw [hb, if_neg (by decide), if_neg (by decide), if_pos rfl]
    by_cases hl2 : l.length ≤ k + 1
    · rw [if_pos hl2]
      exact did_cons hk h1 (did_cut hl2 (by show (4 : Int) ≠ 0; decide))
    · rw [if_neg hl2]
      have hk1 : k + 1 < l.length := by omega
      have h2 : Mach.step ({ m with first := l.getD k 0, beg := 4 } : M) (l.getD (k + 1) 0) = some (({ m with first := l.getD k 0, beg := 4, o := m.o.set (l.getD k 0 / 32).toNat (65536 + 128 * (l.getD k 0 % 32 * 256 + l.getD (k + 1) 0)) } : M).activate (l.getD k 0 / 32), []) := by
        rw [mor (show (4 : Int) ≠ 0 by decide)]
        unfold more
        rw [if_neg (show ¬ (4 : Int) = 1 by decide), if_neg (show ¬ (4 : Int) = 2 by decide), if_neg (show ¬ (4 : Int) = 3 by decide), if_pos rfl]
      exact did_cons hk h1 (did_one hk1 h2 ⟨congrArg (fun o => o.set (l.getD k 0 / 32).toNat (65536 + 128 * (l.getD k 0 % 32 * 256 + l.getD (k + 1) 0))) ho, rfl, rfl, rfl, hu⟩ rfl (by simp))
/-- A part, in either mode. -/
theorem did_part {m : M} {t : R} {l : List Int} {k : Nat} (h : Sm m t) (hhi : t.high = 0 ∨ 55296 ≤ t.high ∧ t.high < 56320) (hr : ∀ x ∈ l, 0 ≤ x ∧ x ≤ 255) (hk : k < l.length) : Did m t l k (rpart t l k) := by
  have hx := hr (l.getD k 0) (by rw [List.getD_eq_getElem?_getD, List.getElem?_eq_getElem hk]; exact List.getElem_mem _)
  have hupp : (m.upper ≠ 0) ↔ 0 < t.high := by rw [h.up]; omega
  unfold rpart
  cases hu : t.uni with
  | true =>
    rw [if_pos rfl]
    have hmu : m.uni = true := h.uni.trans hu
    have hd : ∀ b, Mach.step m b = double m b := fun b => dbl h.beg hmu
    unfold rpartU
    split
    · rename_i hb
      refine did_unit h.uni h.o h.act h.up hhi hr (fun hl => absurd hl (by omega)) (fun _ => ?_)
      rw [hd]
      unfold double
      rw [if_pos hb]
    · rename_i hb
      split
      · rename_i hq
        refine did_cons (m1 := m.begin 5 0) hk ?_ (did_unit (m := m.begin 5 0) h.uni h.o h.act h.up hhi hr (fun _ => by unfold M.begin; simp) (fun _ => ?_))
        · rw [hd]
          unfold double
          rw [if_neg hb, if_pos hq]
        · rw [mor (by unfold M.begin; simp), more5 rfl]
      · rename_i hq
        split
        · rename_i hw
          refine did_wrong hk ?_
          rw [hd]
          unfold double
          rw [if_neg hb, if_neg hq, if_pos (by rw [hupp]; exact hw)]
        · rename_i hw
          split
          · rename_i h241
            refine did_cons (m1 := m.begin 3 0) hk ?_ (did_lay3 (m := m.begin 3 0) rfl h.o h.up)
            rw [hd]
            unfold double
            rw [if_neg hb, if_neg hq, if_neg (by rw [hupp]; exact hw), if_pos h241]
          · rename_i h241
            split
            · rename_i h232
              refine did_cons (m1 := m.begin 2 (l.getD k 0 - 232)) hk ?_ (did_lay2 (m := m.begin 2 (l.getD k 0 - 232)) (by omega) rfl rfl h.o h.up)
              rw [hd]
              unfold double
              rw [if_neg hb, if_neg hq, if_neg (by rw [hupp]; exact hw), if_neg h241, if_pos h232]
            · rename_i h232
              refine did_one (m1 := m.activate (l.getD k 0 - 224)) (e := []) hk ?_ ⟨h.o, rfl, rfl, rfl, h.up⟩ rfl (by simp)
              rw [hd]
              unfold double
              rw [if_neg hb, if_neg hq, if_neg (by rw [hupp]; exact hw), if_neg h241, if_neg h232]
  | false =>
    rw [if_neg (by simp)]
    have hmu : m.uni = false := h.uni.trans hu
    have hd : ∀ b, Mach.step m b = single m b := fun b => sgl h.beg hmu
    unfold rpartS
    split
    · rename_i h14
      refine did_cons (m1 := m.begin 5 0) hk ?_ (did_unit (m := m.begin 5 0) h.uni h.o h.act h.up hhi hr (fun _ => by unfold M.begin; simp) (fun _ => ?_))
      · rw [hd, h14]
        unfold single
        rw [if_neg (by simp), if_neg (by decide), if_neg (by decide), if_neg (by decide), if_neg (by decide), if_neg (by decide), if_pos rfl]
      · rw [mor (by unfold M.begin; simp), more5 rfl]
    · rename_i h14
      split
      · rename_i hw
        refine did_wrong hk ?_
        rw [hd]
        unfold single
        rw [if_pos]
        rcases hw with hw | hw
        · exact .inl ⟨hupp.2 hw, h14⟩
        · exact .inr hw
      · rename_i hw
        have hup0 : m.upper = 0 := by rw [h.up]; omega
        split
        · rename_i h18
          have h1 : Mach.step m (l.getD k 0) = some (m.begin 1 (l.getD k 0 - 1), []) := by rw [hd]; exact s_quo hup0 h18.1 h18.2
          by_cases hl : l.length ≤ k + 1
          · rw [if_pos hl]
            exact did_cons hk h1 (did_cut hl (by unfold M.begin; simp))
          · rw [if_neg hl]
            have hk1 : k + 1 < l.length := by omega
            by_cases hc : l.getD (k + 1) 0 < 128
            · rw [if_pos hc]
              refine did_cons hk h1 (did_one (m1 := { (m.begin 1 (l.getD k 0 - 1)) with beg := 0 }) (e := [(wStatic (l.getD k 0 - 1)).1 + l.getD (k + 1) 0]) hk1 ?_ ⟨h.o, h.uni, h.act, rfl, h.up⟩ rfl rfl)
              rw [mor (by unfold M.begin; simp), m_low rfl (by omega)]
              rfl
            · rw [if_neg hc]
              refine did_cons hk h1 (did_one (m1 := { (m.begin 1 (l.getD k 0 - 1)) with beg := 0 }) (e := [wAt t.o (l.getD k 0 - 1) + l.getD (k + 1) 0 - 128]) hk1 ?_ ⟨h.o, h.uni, h.act, rfl, h.up⟩ rfl rfl)
              rw [mor (by unfold M.begin; simp), m_quo rfl (by omega)]
              have e : wAt (m.begin 1 (l.getD k 0 - 1)).o (m.begin 1 (l.getD k 0 - 1)).n = wAt t.o (l.getD k 0 - 1) := by rw [← h.o]; rfl
              rw [e]
              congr 3
              omega
        · rename_i h18
          split
          · rename_i h11
            refine did_cons (m1 := m.begin 3 0) hk ?_ (did_lay3 (m := m.begin 3 0) rfl h.o h.up)
            rw [hd, h11]
            unfold single
            rw [if_neg (by rw [hup0]; simp), if_neg (by decide), if_neg (by decide), if_neg (by decide), if_neg (by decide), if_neg (by decide), if_neg (by decide), if_pos rfl]
          · rename_i h11
            split
            · rename_i h24
              refine did_cons (m1 := m.begin 2 (l.getD k 0 - 24)) hk ?_ (did_lay2 (m := m.begin 2 (l.getD k 0 - 24)) (by omega) rfl rfl h.o h.up)
              rw [hd]
              exact s_lay hup0 h24.1 h24.2
            · rename_i h24
              split
              · rename_i h16
                refine did_one (m1 := m.activate (l.getD k 0 - 16)) (e := []) hk ?_ ⟨h.o, by rw [hu]; rfl, rfl, rfl, h.up⟩ rfl (by simp)
                rw [hd]
                exact s_act hup0 h16.1 h16.2
              · rename_i h16
                split
                · rename_i h15
                  refine did_one (m1 := { m with uni := true }) (e := []) hk ?_ ⟨h.o, rfl, h.act, h.beg, h.up⟩ rfl (by simp)
                  rw [hd, h15]
                  exact s_15 hup0
                · rename_i h15
                  split
                  · rename_i h128
                    refine did_one (m1 := m) (e := [wAt t.o t.act + l.getD k 0 - 128]) hk ?_ ⟨h.o, h.uni, h.act, h.beg, h.up⟩ rfl rfl
                    rw [hd, s_hi hup0 h128, h.o, h.act]
                  · rename_i h128
                    refine did_one (m1 := m) (e := [l.getD k 0]) hk ?_ ⟨h.o, h.uni, h.act, h.beg, h.up⟩ rfl rfl
                    rw [hd]
                    unfold single
                    have h12 : l.getD k 0 ≠ 12 := fun e => hw (.inr e)
                    rw [if_neg (by rw [hup0]; simp; exact h12), if_neg h128, if_pos]
                    unfold pass
                    simp only [Bool.or_eq_true, decide_eq_true_eq]
                    omega
/-- Where the reference's reading stands. -/
def Way (l : List Int) (t : R) (k : Nat) : Prop :=
  (t.err = 0 ∧ k ≤ l.length ∧ ∃ m, steps m0 (l.take k) = some (m, t.out) ∧ Sm m t) ∨
  (t.err = 3 ∧ t.pl = (k : Int) ∧ k < l.length ∧ ∃ m, steps m0 (l.take k) = some (m, t.out) ∧ Mach.step m (l.getD k 0) = none) ∨
  (t.err = 4 ∧ t.pl = (k : Int) ∧ k = l.length ∧ ∃ m, steps m0 l = some (m, t.out) ∧ m.beg ≠ 0)
theorem way_next {l : List Int} {t : R} {k : Nat} (h : Way l t k) (h0 : t.err = 0) (hhi : t.high = 0 ∨ 55296 ≤ t.high ∧ t.high < 56320) (hr : ∀ x ∈ l, 0 ≤ x ∧ x ≤ 255) (hk : k < l.length) : Way l (rpart t l k).1 (rpart t l k).2 ∧ k ≤ (rpart t l k).2 ∧ (rpart t l k).2 ≤ l.length ∧ ((rpart t l k).1.err = 0 → k < (rpart t l k).2) := by
  rcases h with ⟨_, a2, m, a3, a4⟩ | ⟨a1, _⟩ | ⟨a1, _⟩
  · have hd := did_part a4 hhi hr hk
    generalize rpart t l k = r at hd ⊢
    rcases hd with ⟨b1, b2, b3, m', e, b4, b5, b6⟩ | ⟨b1, b2, b3, b4, b5, m', b6, b7⟩ | ⟨b1, b2, b3, b4, m', b5, b6⟩
    · refine ⟨.inl ⟨by rw [b1, h0], b3, m', ?_, b5⟩, by omega, b3, fun _ => b2⟩
      rw [show r.2 = k + (r.2 - k) by omega, List.take_add, b6]
      exact steps_append a3 b4
    · refine ⟨.inr (.inl ⟨b1, b2, b4, m', ?_, b7⟩), b3, by omega, fun h => absurd (b1.symm.trans h) (by decide)⟩
      rw [show r.2 = k + (r.2 - k) by omega, List.take_add, b5]
      have := steps_append a3 b6
      simpa using this
    · refine ⟨.inr (.inr ⟨b1, b2, b3, m', ?_, b6⟩), by omega, by omega, fun h => absurd (b1.symm.trans h) (by decide)⟩
      have := steps_append a3 b5
      rw [List.take_append_drop] at this
      rw [b4]
      simpa using this
  · rw [h0] at a1; cases a1
  · rw [h0] at a1; cases a1
theorem way_start (l : List Int) (o : List Int) (ho : o = firsts) : Way l { out := [], o := o, act := 0, uni := false, high := 0, err := 0, pl := 0 } 0 := .inl ⟨rfl, Nat.zero_le _, m0, rfl, ⟨ho.symm, rfl, rfl, rfl, rfl⟩⟩
/-- The reference's answer is the machine's. -/
def Same (l : List Int) (t : R) : Prop := ∃ b, Ran l t.out b ∧ b.err = t.err ∧ b.at_ = t.pl
theorem way_wrong {l : List Int} {t : R} {k : Nat} (h : Way l t k) (h0 : t.err ≠ 0) : Same l t := by
  rcases h with ⟨a1, _⟩ | ⟨a1, a2, a3, m, a4, a5⟩ | ⟨a1, a2, a3, m, a4, a5⟩
  · exact absurd a1 h0
  · exact ⟨_, .inr (.inr ⟨k, m, a3, a4, a5, rfl⟩), a1.symm, a2.symm⟩
  · exact ⟨_, .inr (.inl ⟨m, a4, .inl a5, rfl⟩), a1.symm, by rw [a2, a3]⟩
theorem way_end {l : List Int} {t : R} (h : Way l t l.length) (h0 : t.err = 0) : (t.high = 0 → Same l { t with pl := l.length }) ∧ (t.high ≠ 0 → Same l (rcut t l.length).1) := by
  rcases h with ⟨_, a2, m, a3, a4⟩ | ⟨a1, _⟩ | ⟨a1, _⟩
  · rw [List.take_length] at a3
    exact ⟨fun hh => ⟨_, .inl ⟨m, a3, a4.beg, a4.up.trans hh, rfl⟩, h0.symm, rfl⟩, fun hh => ⟨_, .inr (.inl ⟨m, a3, .inr (by rw [a4.up]; exact hh), rfl⟩), rfl, rfl⟩⟩
  · rw [h0] at a1; cases a1
  · rw [h0] at a1; cases a1
theorem ran_one {l o1 o2 : List Int} {b1 b2 : B4} (h1 : Ran l o1 b1) (h2 : Ran l o2 b2) : o1 = o2 ∧ b1 = b2 := by
  rcases h1 with ⟨m, a1, a2, a3, rfl⟩ | ⟨m, a1, a2, rfl⟩ | ⟨k, m, a1, a2, a3, rfl⟩
  · rcases h2 with ⟨m', c1, c2, c3, rfl⟩ | ⟨m', c1, c2, rfl⟩ | ⟨k', m', c1, c2, c3, rfl⟩
    · rw [a1] at c1; simp only [Option.some.injEq, Prod.mk.injEq] at c1; exact ⟨c1.2, rfl⟩
    · rw [a1] at c1; simp only [Option.some.injEq, Prod.mk.injEq] at c1
      obtain ⟨rfl, _⟩ := c1
      rcases c2 with c2 | c2
      · exact absurd a2 c2
      · exact absurd a3 c2
    · have := stop_le c1 c2 c3 (j := l.length) (by rw [List.take_length]; exact a1)
      omega
  · rcases h2 with ⟨m', c1, c2, c3, rfl⟩ | ⟨m', c1, c2, rfl⟩ | ⟨k', m', c1, c2, c3, rfl⟩
    · rw [a1] at c1; simp only [Option.some.injEq, Prod.mk.injEq] at c1
      obtain ⟨rfl, _⟩ := c1
      rcases a2 with a2 | a2
      · exact absurd c2 a2
      · exact absurd c3 a2
    · rw [a1] at c1; simp only [Option.some.injEq, Prod.mk.injEq] at c1; exact ⟨c1.2, rfl⟩
    · have := stop_le c1 c2 c3 (j := l.length) (by rw [List.take_length]; exact a1)
      omega
  · obtain ⟨q1, q2⟩ := ran_stop a1 a2 a3 h2
    exact ⟨q1.symm, q2.symm⟩
structure Inv (m : M) : Prop where
  up : m.upper ≠ 0 → m.beg = 0 ∨ m.beg = 5 ∨ m.beg = 6
  six : m.beg = 6 → low8 m.first = decide (m.upper ≠ 0)
theorem inv_step {m m' : M} {b : Int} {e : List Int} (h : Inv m) (hs : Mach.step m b = some (m', e)) : Inv m' := by
  obtain ⟨h1, h2⟩ := h
  have hf : m.fits b = true → low8 b = decide (m.upper ≠ 0) := fun h => by unfold M.fits at h; simpa using h
  unfold Mach.step at hs
  split at hs
  · unfold more whole at hs
    repeat' split at hs
    all_goals first
      | (cases hs; done)
      | (simp only [Option.some.injEq, Prod.mk.injEq] at hs
         obtain ⟨rfl, _⟩ := hs
         first
         | exact ⟨fun _ => .inl rfl, fun h => absurd h (show ¬ (0 : Int) = 6 by decide)⟩
         | exact ⟨fun h => absurd (h1 h) (by omega), fun h => absurd h (show ¬ (4 : Int) = 6 by decide)⟩
         | exact ⟨fun _ => .inr (.inr rfl), fun _ => hf ‹_›⟩)
  · split at hs
    · unfold double at hs
      repeat' split at hs
      all_goals first
        | (cases hs; done)
        | (simp only [Option.some.injEq, Prod.mk.injEq] at hs
           obtain ⟨rfl, _⟩ := hs
           first
           | exact ⟨fun _ => .inr (.inr rfl), fun _ => hf ‹_›⟩
           | exact ⟨fun _ => .inr (.inl rfl), fun h => absurd h (show ¬ (5 : Int) = 6 by decide)⟩
           | exact ⟨fun h => absurd h (by simp only [M.begin]; omega), fun h => absurd h (show ¬ (3 : Int) = 6 by decide)⟩
           | exact ⟨fun h => absurd h (by simp only [M.begin]; omega), fun h => absurd h (show ¬ (2 : Int) = 6 by decide)⟩
           | exact ⟨fun _ => .inl rfl, fun h => absurd h (show ¬ (0 : Int) = 6 by decide)⟩)
    · unfold single at hs
      have hb : m.beg = 0 := by omega
      repeat' split at hs
      all_goals first
        | (cases hs; done)
        | (simp only [Option.some.injEq, Prod.mk.injEq] at hs
           obtain ⟨rfl, _⟩ := hs
           first
           | exact ⟨h1, h2⟩
           | exact ⟨fun _ => .inr (.inl rfl), fun h => absurd h (show ¬ (5 : Int) = 6 by decide)⟩
           | exact ⟨fun h => absurd h (by simp only [M.begin]; omega), fun h => absurd h (show ¬ (2 : Int) = 6 by decide)⟩
           | exact ⟨fun h => absurd h (by simp only [M.begin]; omega), fun h => absurd h (show ¬ (3 : Int) = 6 by decide)⟩
           | exact ⟨fun h => absurd h (by simp only [M.begin]; omega), fun h => absurd h (show ¬ (1 : Int) = 6 by decide)⟩
           | exact ⟨fun _ => .inl rfl, fun h => absurd h (show ¬ (0 : Int) = 6 by decide)⟩
           | exact ⟨fun _ => .inl hb, fun h => absurd (hb.symm.trans h) (by decide)⟩)
theorem inv_steps {m m' : M} : ∀ {l e : List Int}, Inv m → steps m l = some (m', e) → Inv m' := by
  intro l
  induction l generalizing m with
  | nil =>
    intro e h hs
    simp only [steps, Option.some.injEq, Prod.mk.injEq] at hs
    rw [← hs.1]; exact h
  | cons x xs ih =>
    intro e h hs
    simp only [steps] at hs
    cases hx : Mach.step m x with
    | none => rw [hx] at hs; cases hs
    | some r =>
      obtain ⟨m3, e3⟩ := r
      rw [hx] at hs
      simp only at hs
      cases h2 : steps m3 xs with
      | none => rw [h2] at hs; cases hs
      | some r =>
        obtain ⟨m4, e4⟩ := r
        rw [h2] at hs
        simp only [Option.some.injEq, Prod.mk.injEq] at hs
        obtain ⟨rfl, _⟩ := hs
        exact ih (inv_step h hx) h2
theorem good_steps {m m' : M} : ∀ {l e : List Int}, Mach.Good m → (∀ x ∈ l, 0 ≤ x ∧ x ≤ 255) → steps m l = some (m', e) → Mach.Good m' := by
  intro l
  induction l generalizing m with
  | nil =>
    intro e h _ hs
    simp only [steps, Option.some.injEq, Prod.mk.injEq] at hs
    rw [← hs.1]; exact h
  | cons x xs ih =>
    intro e h hr hs
    simp only [steps] at hs
    cases hx : Mach.step m x with
    | none => rw [hx] at hs; cases hs
    | some r =>
      obtain ⟨m3, e3⟩ := r
      rw [hx] at hs
      simp only at hs
      cases h2 : steps m3 xs with
      | none => rw [h2] at hs; cases hs
      | some r =>
        obtain ⟨m4, e4⟩ := r
        rw [h2] at hs
        simp only [Option.some.injEq, Prod.mk.injEq] at hs
        obtain ⟨rfl, _⟩ := hs
        exact ih (good_step h (hr x List.mem_cons_self).1 (hr x List.mem_cons_self).2 hx) (fun y hy => hr y (List.mem_cons_of_mem _ hy)) h2
theorem inv0 : Inv m0 := ⟨fun h => absurd rfl h, fun h => absurd h (by decide)⟩
/-- A text ends there well. -/
def Ends (m : M) (l : List Int) : Prop := ∃ m' e, steps m l = some (m', e) ∧ m'.beg = 0 ∧ m'.upper = 0
theorem ends_cons {m m1 : M} {x : Int} {xs : List Int} {e : List Int} (h : Mach.step m x = some (m1, e)) (h2 : Ends m1 xs) : Ends m (x :: xs) := by
  obtain ⟨m', e2, q1, q2, q3⟩ := h2
  exact ⟨m', e ++ e2, by simp only [steps, h, q1], q2, q3⟩
theorem ends_nil {m : M} (h1 : m.beg = 0) (h2 : m.upper = 0) : Ends m [] := ⟨m, [], rfl, h1, h2⟩
theorem six_up {m : M} (hb : m.beg = 6) (hu : m.upper ≠ 0) (x : Int) : Ends m [x] := by
  refine ends_cons (m1 := { m with beg := 0, upper := 0 }) (e := [65536 + m.upper % 1024 * 1024 + (m.first * 256 + x) % 1024]) ?_ (ends_nil rfl rfl)
  rw [mor (by rw [hb]; decide)]
  unfold more whole
  rw [if_neg (by rw [hb]; decide), if_neg (by rw [hb]; decide), if_neg (by rw [hb]; decide), if_neg (by rw [hb]; decide), if_neg (by rw [hb]; decide), if_pos hu]
theorem low_220 {m : M} (hu : m.upper ≠ 0) : m.fits 220 = true := by
  unfold M.fits
  have : low8 220 = true := by decide
  rw [this]
  simpa using hu
theorem five_up {m : M} (hb : m.beg = 5) (hu : m.upper ≠ 0) : Ends m [220, 0] := by
  refine ends_cons (m1 := ({ m with first := 220 } : M).begin 6 0) (e := []) ?_ (six_up (m := ({ m with first := 220 } : M).begin 6 0) rfl hu 0)
  rw [mor (by rw [hb]; decide), more5 hb, if_pos (low_220 hu)]
theorem uni_up {m : M} (hb : m.beg = 0) (hn : m.uni = true) (hu : m.upper ≠ 0) : Ends m [220, 0] := by
  refine ends_cons (m1 := ({ m with first := 220 } : M).begin 6 0) (e := []) ?_ (six_up (m := ({ m with first := 220 } : M).begin 6 0) rfl hu 0)
  rw [dbl hb hn]
  unfold double
  rw [if_pos (by decide), if_pos (low_220 hu)]
theorem sgl_up {m : M} (hb : m.beg = 0) (hn : m.uni = false) (hu : m.upper ≠ 0) : Ends m [14, 220, 0] := by
  refine ends_cons (m1 := m.begin 5 0) (e := []) ?_ (five_up rfl hu)
  rw [sgl hb hn]
  unfold single
  rw [if_neg (by simp), if_neg (by decide), if_neg (by decide), if_neg (by decide), if_neg (by decide), if_neg (by decide), if_pos rfl]
theorem six_0 {m : M} (hb : m.beg = 6) (hu : m.upper = 0) (x : Int) : Mach.step m x = some (if 55296 ≤ m.first * 256 + x ∧ m.first * 256 + x < 56320 then ({ m with beg := 0, upper := m.first * 256 + x }, []) else ({ m with beg := 0 }, [m.first * 256 + x])) := by
  rw [mor (by rw [hb]; decide)]
  unfold more whole
  rw [if_neg (by rw [hb]; decide), if_neg (by rw [hb]; decide), if_neg (by rw [hb]; decide), if_neg (by rw [hb]; decide), if_neg (by rw [hb]; decide), if_neg (by rw [hu]; simp)]
def tries : List (List Int) := [[], [1], [1, 1], [14, 220, 0], [220, 0], [0, 14, 220, 0], [0, 220, 0]]
theorem complete {m : M} (hg : Mach.Good m) (hi : Inv m) : ∃ x ∈ tries, Ends m x := by
  have hbeg := hg.beg
  by_cases hu : m.upper = 0
  · have hcs : m.beg = 0 ∨ m.beg = 1 ∨ m.beg = 2 ∨ m.beg = 3 ∨ m.beg = 4 ∨ m.beg = 5 ∨ m.beg = 6 := by omega
    rcases hcs with e | e | e | e | e | e | e
    · exact ⟨[], by simp [tries], ends_nil e hu⟩
    · refine ⟨[1], by simp [tries], ends_cons (m1 := { m with beg := 0 }) (e := [(wStatic m.n).1 + 1]) ?_ (ends_nil rfl hu)⟩
      rw [mor (by rw [e]; decide), m_low e (by decide)]
    · have hw : (wOffset 1).2 = true := by decide +kernel
      refine ⟨[1], by simp [tries], ends_cons (m1 := ({ m with o := m.o.set m.n.toNat (wOffset 1).1 } : M).activate m.n) (e := []) ?_ (ends_nil rfl hu)⟩
      rw [mor (by rw [e]; decide), m_lay e, if_pos hw]
    · refine ⟨[1, 1], by simp [tries], ends_cons (m1 := { m with first := 1, beg := 4 }) (e := []) ?_ (ends_cons (m1 := ({ m with first := 1, beg := 4, o := m.o.set ((1 : Int) / 32).toNat (65536 + 128 * (1 % 32 * 256 + 1)) } : M).activate (1 / 32)) (e := []) ?_ (ends_nil rfl hu))⟩
      · rw [mor (by rw [e]; decide)]
        unfold more
        rw [if_neg (by rw [e]; decide), if_neg (by rw [e]; decide), if_pos e]
      · rw [mor (show (4 : Int) ≠ 0 by decide)]
        unfold more
        rw [if_neg (show ¬ (4 : Int) = 1 by decide), if_neg (show ¬ (4 : Int) = 2 by decide), if_neg (show ¬ (4 : Int) = 3 by decide), if_pos rfl]
    · refine ⟨[1], by simp [tries], ends_cons (m1 := ({ m with o := m.o.set (m.first / 32).toNat (65536 + 128 * (m.first % 32 * 256 + 1)) } : M).activate (m.first / 32)) (e := []) ?_ (ends_nil rfl hu)⟩
      rw [mor (by rw [e]; decide)]
      unfold more
      rw [if_neg (by rw [e]; decide), if_neg (by rw [e]; decide), if_neg (by rw [e]; decide), if_pos e]
    · refine ⟨[1, 1], by simp [tries], ends_cons (m1 := ({ m with first := 1 } : M).begin 6 0) (e := []) ?_ (ends_cons (m1 := { (({ m with first := 1 } : M).begin 6 0) with beg := 0 }) (e := [257]) ?_ (ends_nil rfl hu))⟩
      · rw [mor (by rw [e]; decide), more5 e, if_pos]
        unfold M.fits
        have : low8 1 = false := by decide
        rw [this, hu]
        rfl
      · have h6 := six_0 (m := ({ m with first := 1 } : M).begin 6 0) rfl hu 1
        rw [if_neg (by show ¬ (55296 ≤ (1 : Int) * 256 + 1 ∧ (1 : Int) * 256 + 1 < 56320); decide)] at h6
        exact h6
    · have h1 := six_0 e hu 1
      by_cases hs : 55296 ≤ m.first * 256 + 1 ∧ m.first * 256 + 1 < 56320
      · have h0 := six_0 e hu 0
        rw [if_pos (by omega)] at h0
        have hup : m.first * 256 + 0 ≠ 0 := by omega
        cases hn : m.uni with
        | true => exact ⟨[0, 220, 0], by simp [tries], ends_cons h0 (uni_up rfl hn hup)⟩
        | false => exact ⟨[0, 14, 220, 0], by simp [tries], ends_cons h0 (sgl_up rfl hn hup)⟩
      · rw [if_neg hs] at h1
        exact ⟨[1], by simp [tries], ends_cons h1 (ends_nil rfl hu)⟩
  · rcases hi.up hu with e | e | e
    · cases hn : m.uni with
      | true => exact ⟨[220, 0], by simp [tries], uni_up e hn hu⟩
      | false => exact ⟨[14, 220, 0], by simp [tries], sgl_up e hn hu⟩
    · exact ⟨[220, 0], by simp [tries], five_up e hu⟩
    · exact ⟨[1], by simp [tries], six_up e hu 1⟩
/-- A beginning goes on to an end. -/
theorem goes_on {l out : List Int} {m : M} (hr : ∀ x ∈ l, 0 ≤ x ∧ x ≤ 255) (h : steps m0 l = some (m, out)) : ∃ x ∈ tries, ∃ o b, Ran (l ++ x) o b ∧ b.err = 0 := by
  obtain ⟨x, hx, m', e, q1, q2, q3⟩ := complete (good_steps good0 hr h) (inv_steps inv0 h)
  exact ⟨x, hx, _, _, .inl ⟨m', steps_append h q1, q2, q3, rfl⟩, rfl⟩
end Go.Proofs.Ytkfiahildoljfaa.Sim
