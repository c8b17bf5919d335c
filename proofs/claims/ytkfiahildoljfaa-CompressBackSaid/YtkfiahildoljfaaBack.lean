/- What the compressor writes is read as it was; plain. -/
import Derived.Test.YtkfiahildoljfaaFirst
import Derived.Test.YtkfiahildoljfaaSteps
namespace Go.Proofs.Ytkfiahildoljfaa.Enc
open Go.RowKit Go.Proofs.Ytkfiahildoljfaa.Win Go.Proofs.Ytkfiahildoljfaa.Stp Go.Proofs.Ytkfiahildoljfaa.Lst
open Go.Proofs.Ytkfiahildoljfaa.Mach (M low8)
open Go.Proofs.Ytkfiahildoljfaa.Dec (steps steps_append m0 sgl dbl mor s_hi s_lay s_act s_15 s_quo d_lay d_act m_quo m_lay)
set_option linter.unusedVariables false
set_option linter.unusedSimpArgs false
/-- The reading machine stands as the writing one does. -/
structure Mir (o : List Int) (uni : Bool) (act : Int) (m : M) : Prop where
  o : m.o = o
  uni : m.uni = uni
  act : m.act = act
  beg : m.beg = 0
  up : m.upper = 0
/-- Some bytes are read as a scalar. -/
def Back (m : M) (bs : List Int) (c : Int) (o : List Int) (uni : Bool) (act : Int) : Prop := ∃ m' e, steps m bs = some (m', e) ∧ e = [c] ∧ Mir o uni act m'
theorem steps_cons {m m1 m2 : M} {x : Int} {e e2 xs : List Int} (h : Mach.step m x = some (m1, e)) (h2 : steps m1 xs = some (m2, e2)) : steps m (x :: xs) = some (m2, e ++ e2) := by simp only [steps, h, h2]
theorem back_cons {m m1 : M} {x c act : Int} {bs o : List Int} {uni : Bool} (h : Mach.step m x = some (m1, [])) (h2 : Back m1 bs c o uni act) : Back m (x :: bs) c o uni act := by
  obtain ⟨m', e, q1, q2, q3⟩ := h2
  exact ⟨m', [] ++ e, steps_cons h q1, by simpa using q2, q3⟩
theorem back_one {m m1 : M} {x c act : Int} {o : List Int} {uni : Bool} (h : Mach.step m x = some (m1, [c])) (h2 : Mir o uni act m1) : Back m [x] c o uni act := ⟨m1, [c] ++ [], steps_cons h rfl, by simp, h2⟩
theorem st_six {m : M} (hb : m.beg = 6) (x : Int) : Mach.step m x = some (Mach.whole m (m.first * 256 + x)) := by
  rw [mor (by rw [hb]; decide)]
  unfold Mach.more
  rw [hb, if_neg (by decide), if_neg (by decide), if_neg (by decide), if_neg (by decide), if_neg (by decide)]
theorem wh_up {m : M} {u : Int} (h : m.upper ≠ 0) : Mach.whole m u = ({ m with beg := 0, upper := 0 }, [65536 + m.upper % 1024 * 1024 + u % 1024]) := by unfold Mach.whole; rw [if_pos h]
theorem wh_hi {m : M} {u : Int} (h : m.upper = 0) (hs : 55296 ≤ u ∧ u < 56320) : Mach.whole m u = ({ m with beg := 0, upper := u }, []) := by unfold Mach.whole; rw [if_neg (by simpa using h), if_pos hs]
theorem wh_lo {m : M} {u : Int} (h : m.upper = 0) (hs : ¬ (55296 ≤ u ∧ u < 56320)) : Mach.whole m u = ({ m with beg := 0 }, [u]) := by unfold Mach.whole; rw [if_neg (by simpa using h), if_neg hs]
theorem d_first {m : M} {b : Int} (hb : m.beg = 0) (hu : m.uni = true) (hr : b < 224 ∨ 242 < b) (hf : m.fits b = true) : Mach.step m b = some (({ m with first := b } : M).begin 6 0, []) := by
  rw [dbl hb hu]
  unfold Mach.double
  rw [if_pos hr, if_pos hf]
theorem st_five {m : M} {b : Int} (hb : m.beg = 5) (hf : m.fits b = true) : Mach.step m b = some (({ m with first := b } : M).begin 6 0, []) := by
  rw [mor (by rw [hb]; decide)]
  unfold Mach.more
  rw [hb, if_neg (by decide), if_neg (by decide), if_neg (by decide), if_neg (by decide), if_pos rfl, if_pos hf]
theorem d_240 {m : M} (hb : m.beg = 0) (hu : m.uni = true) : Mach.step m 240 = some (m.begin 5 0, []) := by
  rw [dbl hb hu]
  unfold Mach.double
  rw [if_neg (by decide), if_pos rfl]
theorem s_14 {m : M} (hb : m.beg = 0) (hu : m.uni = false) : Mach.step m 14 = some (m.begin 5 0, []) := by
  rw [sgl hb hu]
  unfold Mach.single
  rw [if_neg (by simp), if_neg (by decide), if_neg (by decide), if_neg (by decide), if_neg (by decide), if_neg (by decide), if_pos rfl]
theorem s_11 {m : M} (hb : m.beg = 0) (hu : m.uni = false) (hup : m.upper = 0) : Mach.step m 11 = some (m.begin 3 0, []) := by
  rw [sgl hb hu]
  unfold Mach.single
  rw [if_neg (by rw [hup]; simp), if_neg (by decide), if_neg (by decide), if_neg (by decide), if_neg (by decide), if_neg (by decide), if_neg (by decide), if_pos rfl]
theorem d_241 {m : M} (hb : m.beg = 0) (hu : m.uni = true) (hup : m.upper = 0) : Mach.step m 241 = some (m.begin 3 0, []) := by
  rw [dbl hb hu]
  unfold Mach.double
  rw [if_neg (by decide), if_neg (by decide), if_neg (by rw [hup]; simp), if_pos rfl]
theorem fits_lo {m : M} {b : Int} (hup : m.upper = 0) (hb : b < 220 ∨ 223 < b) : m.fits b = true := by
  unfold M.fits low8
  rw [hup]
  simp
  omega
theorem fits_up {m : M} {b : Int} (hup : m.upper ≠ 0) (hb : 220 ≤ b ∧ b ≤ 223) : m.fits b = true := by
  unfold M.fits low8
  have h1 : decide (m.upper ≠ 0) = true := by simpa using hup
  rw [h1]
  simp
  omega
/-- A unit behind 0E or F0, or in its first byte. -/
theorem back_unit {m : M} {c act : Int} {o : List Int} {uni : Bool} (hb : m.beg = 6) (hf : m.first = c / 256) (hup : m.upper = 0) (hs : isS c = true) (ho : m.o = o) (hu : m.uni = uni) (ha : m.act = act) : Back m [c % 256] c o uni act := by
  rw [isS_iff] at hs
  have h1 := st_six hb (c % 256)
  rw [show m.first * 256 + c % 256 = c by rw [hf]; omega, wh_lo hup (by omega)] at h1
  exact back_one h1 ⟨ho, hu, ha, rfl, hup⟩
theorem units_back {m : M} {c act : Int} {o : List Int} (h : Mir o true act m) (h0 : 0 ≤ c) (hs : isS c = true) : Back m (unitsC c) c o true act := by
  have hs2 := isS_iff.1 hs
  unfold unitsC
  by_cases hc : 65536 ≤ c
  · rw [if_pos hc]
    obtain ⟨a, ha⟩ : ∃ a, a = 55296 + (c - 65536) / 1024 := ⟨_, rfl⟩
    obtain ⟨b, hb⟩ : ∃ b, b = 56320 + (c - 65536) % 1024 := ⟨_, rfl⟩
    rw [← ha, ← hb]
    have e1 := d_first (b := a / 256) h.beg h.uni (by omega) (fits_lo h.up (by omega))
    have e2 := st_six (m := ({ m with first := a / 256 } : M).begin 6 0) rfl (a % 256)
    rw [show (({ m with first := a / 256 } : M).begin 6 0).first * 256 + a % 256 = a by show a / 256 * 256 + a % 256 = a; omega, wh_hi (show (({ m with first := a / 256 } : M).begin 6 0).upper = 0 from h.up) (by omega)] at e2
    refine back_cons e1 (back_cons e2 ?_)
    have ha0 : a ≠ 0 := by omega
    have e3 := d_first (m := ({ (({ m with first := a / 256 } : M).begin 6 0) with beg := 0, upper := a } : M)) (b := b / 256) rfl h.uni (by omega) (fits_up (by show a ≠ 0; exact ha0) (by omega))
    refine back_cons e3 ?_
    have e4 := st_six (m := ({ ({ (({ m with first := a / 256 } : M).begin 6 0) with beg := 0, upper := a } : M) with first := b / 256 } : M).begin 6 0) rfl (b % 256)
    rw [wh_up (show (({ ({ (({ m with first := a / 256 } : M).begin 6 0) with beg := 0, upper := a } : M) with first := b / 256 } : M).begin 6 0).upper ≠ 0 from ha0)] at e4
    have e5 : 65536 + a % 1024 * 1024 + (b / 256 * 256 + b % 256) % 1024 = c := by omega
    refine back_one (m1 := { (({ ({ (({ m with first := a / 256 } : M).begin 6 0) with beg := 0, upper := a } : M) with first := b / 256 } : M).begin 6 0) with beg := 0, upper := 0 }) ?_ ⟨h.o, h.uni, h.act, rfl, rfl⟩
    rw [e4]
    show some (_, [65536 + a % 1024 * 1024 + (b / 256 * 256 + b % 256) % 1024]) = _
    rw [e5]
  · rw [if_neg hc]
    cases ht : tagB c with
    | true =>
      rw [if_pos rfl]
      have ht2 : 57344 ≤ c ∧ c ≤ 62207 := by unfold tagB at ht; simpa using ht
      refine back_cons (d_240 h.beg h.uni) (back_cons (st_five (m := m.begin 5 0) (b := c / 256) rfl (fits_lo (show (m.begin 5 0).upper = 0 from h.up) (by omega))) ?_)
      exact back_unit rfl rfl h.up hs h.o h.uni h.act
    | false =>
      rw [if_neg (by simp)]
      have ht2 : ¬ (57344 ≤ c ∧ c ≤ 62207) := by unfold tagB at ht; intro hh; simp [hh.1, hh.2] at ht
      refine back_cons (d_first (b := c / 256) h.beg h.uni (by omega) (fits_lo h.up (by omega))) ?_
      exact back_unit rfl rfl h.up hs h.o h.uni h.act
theorem s_pass {m : M} {b : Int} (hb : m.beg = 0) (hu : m.uni = false) (hup : m.upper = 0) (h : passB b = true) : Mach.step m b = some (m, [b]) := by
  rw [passB_iff] at h
  rw [sgl hb hu]
  unfold Mach.single
  rw [if_neg (by rw [hup]; simp; omega), if_neg (by omega), if_pos]
  unfold Mach.pass
  simp only [Bool.or_eq_true, decide_eq_true_eq]
  omega
theorem m_lo {m : M} {b : Int} (h : m.beg = 1) (hb : ¬ 128 ≤ b) : Mach.more m b = some ({ m with beg := 0 }, [(wStatic m.n).1 + b]) := by
  unfold Mach.more
  rw [if_pos h, if_neg hb]
theorem simple_back {e : E} {m : M} {c : Int} {bs : List Int} (h : Mir e.o false e.act m) (h0 : 0 ≤ c) (hs : simpleC e c = some bs) : Back m bs c e.o false e.act := by
  unfold simpleC at hs
  split at hs
  · injection hs with hs; subst hs
    exact back_one (s_pass h.beg h.uni h.up ‹_›) h
  · split at hs
    · injection hs with hs; subst hs
      rename_i h32
      refine back_cons (m1 := m.begin 1 0) (by rw [sgl h.beg h.uni, s_quo h.up (by decide) (by decide)]; rfl) ?_
      have h1 : Mach.step (m.begin 1 0) c = some ({ (m.begin 1 0) with beg := 0 }, [c]) := by
        rw [mor (by unfold M.begin; simp), m_lo rfl (by omega)]
        show some (_, [0 + c]) = _
        rw [Int.zero_add]
      exact back_one h1 ⟨h.o, h.uni, h.act, rfl, h.up⟩
    · split at hs
      · injection hs with hs; subst hs
        rename_i hh
        rw [hld_iff] at hh
        refine back_one (m1 := m) ?_ h
        rw [sgl h.beg h.uni, s_hi h.up (by omega), h.o, h.act]
        congr 3
        omega
      · cases hs
theorem lay_end {m : M} {o : List Int} {act c off : Int} (h : Mir o false act m) (hw : wAt o act = off) (hh : off ≤ c ∧ c - off < 128) : Back m [128 + c - off] c o false act := by
  refine back_one (m1 := m) ?_ h
  rw [sgl h.beg h.uni, s_hi h.up (by omega), h.o, h.act, hw]
  congr 3
  omega
theorem st_two {m : M} {b : Int} (hb : m.beg = 2) (ho : (wOffset b).2 = true) : Mach.step m b = some (({ m with o := m.o.set m.n.toNat (wOffset b).1 } : M).activate m.n, []) := by
  rw [mor (by rw [hb]; decide), m_lay hb, if_pos ho]
theorem st_three {m : M} {b : Int} (hb : m.beg = 3) : Mach.step m b = some ({ m with first := b, beg := 4 }, []) := by
  rw [mor (by rw [hb]; decide)]
  unfold Mach.more
  rw [if_neg (by rw [hb]; decide), if_neg (by rw [hb]; decide), if_pos hb]
theorem st_four {m : M} {b : Int} (hb : m.beg = 4) : Mach.step m b = some (({ m with o := m.o.set (m.first / 32).toNat (65536 + 128 * (m.first % 32 * 256 + b)) } : M).activate (m.first / 32), []) := by
  rw [mor (by rw [hb]; decide)]
  unfold Mach.more
  rw [if_neg (by rw [hb]; decide), if_neg (by rw [hb]; decide), if_neg (by rw [hb]; decide), if_pos hb]
theorem lay_back {e : E} {m : M} {c ix pr : Int} (hG : EG e) (hmo : m.o = e.o) (hup : m.upper = 0) (h0 : 0 ≤ c) (h1 : c ≤ 1114111) (ho : (ownC c).2 = true)
    (hix : ∀ n : Int, 0 ≤ n → n < 8 → Mach.step m (ix + n) = some (m.begin 2 n, [])) (hpr : Mach.step m pr = some (m.begin 3 0, [])) : Back m (layE e c ix pr) c (layM e c).o false (layM e c).act := by
  obtain ⟨n0, n8⟩ := old_rng hG
  have hlo := hG.lo
  have hh := hld_iff.1 (own_hld h0 ho)
  unfold layE layM
  obtain ⟨n, hn⟩ : ∃ n, n = oldC e := ⟨_, rfl⟩
  rw [← hn] at n0 n8 ⊢
  by_cases hc : 65536 ≤ c
  · have hp : wPair n c = (n * 32 + (c - 65536) / 128 / 256, (c - 65536) / 128 % 256, true) := by unfold wPair; rw [if_pos ⟨n0, n8, hc, h1⟩]
    have how : (ownC c).1 = c / 128 * 128 := by unfold ownC; rw [if_pos hc]
    rw [hp, if_pos rfl]
    rw [how] at hh ⊢
    refine back_cons hpr (back_cons (st_three (m := m.begin 3 0) rfl) (back_cons (st_four (m := { (m.begin 3 0) with first := n * 32 + (c - 65536) / 128 / 256, beg := 4 }) rfl) ?_))
    have e1 : (n * 32 + (c - 65536) / 128 / 256) / 32 = n := by omega
    have e2 : 65536 + 128 * ((n * 32 + (c - 65536) / 128 / 256) % 32 * 256 + (c - 65536) / 128 % 256) = c / 128 * 128 := by omega
    refine lay_end ⟨?_, rfl, e1, rfl, hup⟩ (wAt_set2 n0 n8 hlo) hh
    show m.o.set ((n * 32 + (c - 65536) / 128 / 256) / 32).toNat (65536 + 128 * ((n * 32 + (c - 65536) / 128 / 256) % 32 * 256 + (c - 65536) / 128 % 256)) = _
    rw [e1, e2, hmo]
  · have hp : (wPair n c).2.2 = false := by unfold wPair; rw [if_neg (by omega)]
    have hoc : ownC c = ((wOffset (wIndex c).1).1, (wIndex c).2) := by unfold ownC; rw [if_neg hc]
    rw [hp, if_neg (by simp)]
    rw [hoc] at ho hh ⊢
    have hio := (index_own h0 ho).2
    refine back_cons (hix n n0 n8) (back_cons (st_two (m := m.begin 2 n) rfl hio) ?_)
    refine lay_end ⟨?_, rfl, rfl, rfl, hup⟩ (wAt_set2 n0 n8 hlo) hh
    show m.o.set n.toNat (wOffset (wIndex c).1).1 = _
    rw [hmo]
theorem static_eq {c : Int} (h : (staticC c).2.2 = true) : (wStatic (staticC c).1).1 = (staticC c).2.1 := by
  have hs := static_spec h
  unfold staticC at hs ⊢
  by_cases hf : (findFrom c 1 (statics.drop 1)).2 = true
  · rw [if_pos hf] at hs ⊢
    simp only at hs ⊢
    unfold wStatic
    rw [if_pos (by omega)]
  · unfold staticC at h
    rw [if_neg hf] at h
    cases h
theorem single_back {e : E} {m : M} {c d : Int} (hG : EG e) (h : Mir e.o false e.act m) (heu : e.uni = false) (h0 : 0 ≤ c) (hs : isS c = true) : Back m (singleC e c d).2 c (singleC e c d).1.o (singleC e c d).1.uni (singleC e c d).1.act := by
  have hs2 := isS_iff.1 hs
  unfold singleC
  cases hsi : simpleC e c with
  | some bs =>
    simp only
    rw [heu]
    exact simple_back h h0 hsi
  | none =>
    simp only
    by_cases hf : (wFind e.o c).2 = true
    · rw [if_pos hf]
      obtain ⟨f0, f8, fh⟩ := find_spec hG hf
      rw [hld_iff] at fh
      generalize (wFind e.o c).1 = n at f0 f8 fh ⊢
      split
      · have e1 : Mach.step m (16 + n) = some (m.activate n, []) := by
          rw [sgl h.beg h.uni, s_act h.up (by omega) (by omega), show 16 + n - 16 = n by omega]
        show Back m _ c e.o e.uni n
        rw [heu]
        exact back_cons e1 (lay_end ⟨h.o, rfl, rfl, rfl, h.up⟩ rfl fh)
      · have e1 : Mach.step m (1 + n) = some (m.begin 1 n, []) := by
          rw [sgl h.beg h.uni, s_quo h.up (by omega) (by omega), show 1 + n - 1 = n by omega]
        show Back m _ c e.o e.uni e.act
        rw [heu]
        refine back_cons e1 (back_one (m1 := { (m.begin 1 n) with beg := 0 }) ?_ ⟨h.o, h.uni, h.act, rfl, h.up⟩)
        rw [mor (by unfold M.begin; simp), m_quo rfl (by omega)]
        show some (_, [wAt m.o n - 128 + (128 + c - wAt e.o n)]) = _
        rw [h.o]
        congr 3
        omega
    · rw [if_neg hf]
      split
      · rename_i hst
        simp only [Bool.and_eq_true] at hst
        obtain ⟨s0, s8, s1, s2, s3⟩ := static_spec hst.2
        have heq := static_eq hst.2
        rw [hld_iff] at s3
        generalize (staticC c).1 = n at s0 s8 heq ⊢
        generalize (staticC c).2.1 = off at s1 s2 s3 heq ⊢
        have e1 : Mach.step m (1 + n) = some (m.begin 1 n, []) := by
          rw [sgl h.beg h.uni, s_quo h.up (by omega) (by omega), show 1 + n - 1 = n by omega]
        show Back m _ c e.o e.uni e.act
        rw [heu]
        refine back_cons e1 (back_one (m1 := { (m.begin 1 n) with beg := 0 }) ?_ ⟨h.o, h.uni, h.act, rfl, h.up⟩)
        rw [mor (by unfold M.begin; simp), m_lo rfl (by omega)]
        show some (_, [(wStatic n).1 + (c - off)]) = _
        rw [heq]
        congr 3
        omega
      · split
        · rename_i hst htw
          have hown : (ownC c).2 = true := by
            simp only [Bool.or_eq_true, Bool.and_eq_true, decide_eq_true_eq] at htw
            rcases htw with h1 | h1
            · exact own_of_twins h1
            · exact own_of_big h1.1
          refine lay_back hG h.o h.up h0 hs2.2 hown (fun n n0 n8 => ?_) (s_11 h.beg h.uni h.up)
          rw [sgl h.beg h.uni, s_lay h.up (by omega) (by omega), show 24 + n - 24 = n by omega]
        · split
          · rename_i hq
            simp only [Bool.and_eq_true, decide_eq_true_eq] at hq
            show Back m _ c e.o e.uni e.act
            rw [heu]
            refine back_cons (s_14 h.beg h.uni) (back_cons (st_five (m := m.begin 5 0) (b := c / 256) rfl (fits_lo (show (m.begin 5 0).upper = 0 from h.up) (by omega))) ?_)
            exact back_unit rfl rfl h.up hs h.o h.uni h.act
          · exact back_cons (m1 := { m with uni := true }) (by rw [sgl h.beg h.uni, s_15 h.up]) (units_back ⟨h.o, rfl, h.act, h.beg, h.up⟩ h0 hs)
theorem easy_simple {e : E} {c : Int} (hG : EG e) (he : easyB e.o c = true) : ∃ bs, simpleC (backC e c) c = some bs := by
  unfold easyB at he
  unfold simpleC
  by_cases hp : passB c = true
  · exact ⟨_, if_pos hp⟩
  · rw [if_neg hp]
    by_cases h32 : c < 32
    · exact ⟨_, if_pos h32⟩
    · rw [if_neg h32]
      have hf : (wFind e.o c).2 = true := by
        rw [Bool.or_eq_true, decide_eq_true_eq] at he
        rcases he with h | h
        · exact h
        · exact absurd (passB_iff.2 (.inl ⟨by omega, h⟩)) hp
      have ha : (backC e c).act = (wFind e.o c).1 := if_pos hf
      rw [ha]
      exact ⟨_, if_pos (find_spec hG hf).2.2⟩
/-- What is written for a scalar is read as it. -/
theorem work_back {e : E} {m : M} {c d : Int} (hG : EG e) (h : Mir e.o e.uni e.act m) (hb : e.beh = false → e.uni = false) (h0 : 0 ≤ c) (hs : isS c = true) :
    Back m (workC e c d).2 c (workC e c d).1.o (workC e c d).1.uni (workC e c d).1.act := by
  have hs2 := isS_iff.1 hs
  have hG2 : EG { e with beh := true } := hG.same rfl rfl rfl
  unfold workC
  split
  · rename_i hm
    simp only [Bool.and_eq_true, Bool.not_eq_true', beq_iff_eq] at hm
    obtain ⟨hm1, rfl⟩ := hm
    have hu := hb hm1
    show Back m [14, 254, 255] 65279 e.o e.uni e.act
    rw [hu] at h ⊢
    refine back_cons (s_14 h.beg h.uni) (back_cons (st_five (m := m.begin 5 0) (b := 254) rfl (fits_lo (show (m.begin 5 0).upper = 0 from h.up) (by decide))) ?_)
    exact back_unit (c := 65279) rfl rfl h.up hs h.o h.uni h.act
  · split
    · rename_i hpl
      split
      · rename_i hu
        show Back m (unitsC c) c e.o e.uni e.act
        rw [hu] at h ⊢
        exact units_back h h0 hs
      · rename_i hu
        have hu2 : e.uni = false := by simpa using hu
        rw [hu2] at h
        cases hsi : simpleC { e with beh := true } c with
        | some bs =>
          show Back m bs c e.o e.uni e.act
          rw [hu2]
          exact simple_back (e := { e with beh := true }) h h0 hsi
        | none =>
          show Back m (15 :: unitsC c) c e.o true e.act
          exact back_cons (m1 := { m with uni := true }) (by rw [sgl h.beg h.uni, s_15 h.up]) (units_back ⟨h.o, rfl, h.act, h.beg, h.up⟩ h0 hs)
    · split
      · rename_i hu
        have h2 := h
        rw [hu] at h2
        exact single_back (e := { e with beh := true }) hG2 h2 hu h0 hs
      · rename_i hu
        have hu2 : e.uni = true := by simpa using hu
        have h2 := h
        rw [hu2] at h2
        split
        · rename_i he
          simp only [Bool.and_eq_true] at he
          obtain ⟨bs, hbs⟩ := easy_simple hG he.1
          rw [hbs]
          have hba := (hG.back (c := c)).act
          show Back m ((224 + (backC e c).act) :: bs) c (backC e c).o false (backC e c).act
          have e1 : Mach.step m (224 + (backC e c).act) = some (m.activate (backC e c).act, []) := by
            rw [dbl h2.beg h2.uni, d_act h2.up (by omega) (by omega), show 224 + (backC e c).act - 224 = (backC e c).act by omega]
          exact back_cons e1 (simple_back (e := backC e c) ⟨h2.o, rfl, rfl, rfl, h2.up⟩ h0 hbs)
        · split
          · rename_i htw
            refine lay_back hG2 h2.o h2.up h0 hs2.2 (own_of_twins htw) (fun n n0 n8 => ?_) (d_241 h2.beg h2.uni h2.up)
            rw [dbl h2.beg h2.uni, d_lay h2.up (by omega) (by omega), show 232 + n - 232 = n by omega]
          · show Back m (unitsC c) c e.o e.uni e.act
            rw [hu2]
            exact units_back h2 h0 hs
theorem single_beh (e : E) (c d : Int) : (singleC e c d).1.beh = e.beh := by
  unfold singleC layM
  split
  · rfl
  · repeat' split
    all_goals rfl
theorem work_behind (e : E) (c d : Int) : (workC e c d).1.beh = true := by
  unfold workC layM backC
  repeat' split
  all_goals first
    | rfl
    | exact single_beh _ _ _
def readAll (e : E) (cs : List Int) : List Int := if e.wt = 2147483648 then cs else e.wt :: cs
/-- A text is read as it was. -/
theorem total_back : ∀ {cs : List Int} {e : E} {m : M}, EG e → Mir e.o e.uni e.act m → (e.beh = false → e.uni = false) → (e.wt = 2147483648 ∨ 0 ≤ e.wt ∧ isS e.wt = true) → (∀ x ∈ cs, 0 ≤ x ∧ isS x = true) →
    ∃ m' out, steps m (totalM e cs) = some (m', out) ∧ out = readAll e cs ∧ m'.beg = 0 ∧ m'.upper = 0
  | [], e, m, hG, h, hb, hw, _ => by
    unfold readAll
    by_cases hn : e.wt = 2147483648
    · have hfl : flushC e = (e, []) := by unfold flushC; rw [if_pos hn]
      show ∃ m' out, steps m ([] ++ (flushC e).2) = _ ∧ _
      rw [hfl, if_pos hn]
      exact ⟨m, [], rfl, rfl, h.beg, h.up⟩
    · obtain ⟨w0, ws⟩ := hw.resolve_left hn
      have hfl : (flushC e).2 = (workC e e.wt 2147483648).2 := by unfold flushC; rw [if_neg hn]
      obtain ⟨m', out, q1, q2, q3⟩ := work_back (d := 2147483648) hG h hb w0 ws
      show ∃ m' out, steps m ([] ++ (flushC e).2) = _ ∧ _
      rw [hfl, if_neg hn]
      exact ⟨m', out, q1, q2, q3.beg, q3.up⟩
  | c :: cs, e, m, hG, h, hb, hw, ha => by
    have hc := ha c List.mem_cons_self
    have hc2 := isS_iff.1 hc.2
    have hne : c ≠ 2147483648 := by omega
    rw [totalM_cons]
    unfold readAll
    by_cases hn : e.wt = 2147483648
    · have hpc : pushC e c = ({ e with wt := c }, []) := by unfold pushC; rw [if_pos hn]
      rw [hpc, if_pos hn]
      obtain ⟨m', out, q1, q2, q3, q4⟩ := total_back (cs := cs) (e := { e with wt := c }) (m := m) (hG.same rfl rfl rfl) h hb (.inr hc) (fun x hx => ha x (List.mem_cons_of_mem _ hx))
      refine ⟨m', out, q1, ?_, q3, q4⟩
      rw [q2]
      unfold readAll
      rw [if_neg (show ¬ c = 2147483648 from hne)]
    · obtain ⟨w0, ws⟩ := hw.resolve_left hn
      have hpc : pushC e c = ({ (workC e e.wt c).1 with wt := c }, (workC e e.wt c).2) := by unfold pushC; rw [if_neg hn]
      rw [hpc, if_neg hn]
      obtain ⟨m1, o1, q1, q2, q3⟩ := work_back (d := c) hG h hb w0 ws
      have hws := isS_iff.1 ws
      obtain ⟨m', out, p1, p2, p3, p4⟩ := total_back (cs := cs) (e := { (workC e e.wt c).1 with wt := c }) (m := m1) ((hG.work w0 hws.2).same rfl rfl rfl) q3 (fun hh => by rw [show ({ (workC e e.wt c).1 with wt := c } : E).beh = true from work_behind _ _ _] at hh; cases hh) (.inr hc) (fun x hx => ha x (List.mem_cons_of_mem _ hx))
      refine ⟨m', o1 ++ out, steps_append q1 p1, ?_, p3, p4⟩
      rw [p2, q2]
      unfold readAll
      rw [if_neg (show ¬ c = 2147483648 from hne)]
      rfl
theorem text_back (pl : Bool) {l : List Int} (ha : ∀ x ∈ l, 0 ≤ x ∧ isS x = true) : ∃ m', steps m0 (textC pl l) = some (m', l) ∧ m'.beg = 0 ∧ m'.upper = 0 := by
  obtain ⟨m', out, q1, q2, q3, q4⟩ := total_back (cs := l) (e := e0 pl) (m := m0) (eg0 pl) ⟨rfl, rfl, rfl, rfl, rfl⟩ (fun _ => rfl) (.inl rfl) ha
  refine ⟨m', ?_, q3, q4⟩
  have : out = l := q2
  rw [this] at q1
  exact q1
end Go.Proofs.Ytkfiahildoljfaa.Enc
