/- Plain lemmas on the expander's machine and on what its reading tells. -/
import Derived.Test.YtkfiahildoljfaaMach
import Derived.Test.YtkfiahildoljfaaRow
import Derived.Test.YtkfiahildoljfaaRef13
import Derived.Test.YtkfiahildoljfaaLst
namespace Go.Proofs.Ytkfiahildoljfaa.Dec
open Go.RowKit Go.Proofs.Ytkfiahildoljfaa.Win Go.Proofs.Ytkfiahildoljfaa.Stp Go.Proofs.Ytkfiahildoljfaa.Mach Go.Proofs.Ytkfiahildoljfaa.Lst
set_option linter.unusedVariables false
set_option linter.unusedSimpArgs false
def m0 : M := { o := firsts, uni := false, act := 0, beg := 0, n := 0, first := 0, upper := 0 }
theorem good0 : Mach.Good m0 := ⟨rfl, by unfold m0; decide +kernel, by decide, by decide, by decide, .inl rfl, by decide⟩
/-- Bytes, one by one. -/
def steps (m : M) : List Int → Option (M × List Int)
  | [] => some (m, [])
  | x :: xs => match Mach.step m x with
    | none => none
    | some (m1, e) => match steps m1 xs with
      | none => none
      | some (m2, e2) => some (m2, e ++ e2)
theorem step_one {m m' : M} {x : Int} {e : List Int} (h : Mach.step m x = some (m', e)) : e.length ≤ 1 := by
  unfold Mach.step at h
  split at h
  · unfold more whole at h
    repeat' split at h
    all_goals first
      | (cases h; done)
      | (simp only [Option.some.injEq, Prod.mk.injEq] at h; rw [← h.2]; simp)
  · split at h
    · unfold double at h
      repeat' split at h
      all_goals first
        | (cases h; done)
        | (simp only [Option.some.injEq, Prod.mk.injEq] at h; rw [← h.2]; simp)
    · unfold single at h
      repeat' split at h
      all_goals first
        | (cases h; done)
        | (simp only [Option.some.injEq, Prod.mk.injEq] at h; rw [← h.2]; simp)
def byt (s : ByteArray) : List Int := s.data.toList.map fun x => (x.toNat : Int)
theorem byt_length (s : ByteArray) : (byt s).length = s.size := by unfold byt; rw [List.length_map, Array.length_toList]; rfl
theorem byt_at (s : ByteArray) (k : Nat) (h : k < s.size) : (byt s).getD k 0 = (s[k].toNat : Int) := by
  unfold byt
  rw [List.getD_eq_getElem?_getD, List.getElem?_map, List.getElem?_eq_getElem (by rw [Array.length_toList]; exact h)]
  rfl
theorem byt_take (s : ByteArray) (k : Nat) (h : k < s.size) : (byt s).take (k + 1) = (byt s).take k ++ [(s[k].toNat : Int)] := by
  rw [List.take_succ_eq_append_getElem (by rw [byt_length]; exact h)]
  have := byt_at s k h
  rw [List.getD_eq_getElem?_getD, List.getElem?_eq_getElem (by rw [byt_length]; exact h)] at this
  rw [← this]; rfl
theorem own_weaken {w : World} {base base' : Nat} {e : TypeId} {size n : Nat} {v : Value} {xs : List Value} (h : w.ownsRow base e size v n xs) (hb : base' ≤ base) : w.ownsRow base' e size v n xs := by
  refine ⟨h.1, ?_⟩
  rcases h.2 with h2 | ⟨g', cap, cur, hv, hg, r⟩
  · exact .inl h2
  · exact .inr ⟨g', cap, cur, hv, Nat.le_trans hb hg, r⟩
theorem steps_append {m m1 m2 : M} {e e2 : List Int} {ys : List Int} : ∀ {xs : List Int}, steps m xs = some (m1, e) → steps m1 ys = some (m2, e2) → steps m (xs ++ ys) = some (m2, e ++ e2) := by
  intro xs
  induction xs generalizing m e with
  | nil =>
    intro h h2
    simp only [steps, Option.some.injEq, Prod.mk.injEq] at h
    obtain ⟨rfl, rfl⟩ := h
    simpa using h2
  | cons x xs ih =>
    intro h h2
    simp only [steps, List.cons_append] at h ⊢
    cases hx : Mach.step m x with
    | none => rw [hx] at h; cases h
    | some r =>
      obtain ⟨m3, e3⟩ := r
      rw [hx] at h
      simp only at h ⊢
      cases hs : steps m3 xs with
      | none => rw [hs] at h; cases h
      | some r =>
        obtain ⟨m4, e4⟩ := r
        rw [hs] at h
        simp only [Option.some.injEq, Prod.mk.injEq] at h
        obtain ⟨rfl, rfl⟩ := h
        rw [ih hs h2]
        simp
theorem byt_extract (s : ByteArray) (a b : Nat) : byt (s.extract a b) = ((byt s).drop a).take (b - a) := by
  unfold byt
  rw [ByteArray.data_extract, Array.toList_extract, List.extract_eq_take_drop, List.map_take, List.map_drop]
theorem steps_length {m m' : M} {e : List Int} : ∀ {xs : List Int}, steps m xs = some (m', e) → e.length ≤ xs.length := by
  intro xs
  induction xs generalizing m e with
  | nil =>
    intro h
    simp only [steps, Option.some.injEq, Prod.mk.injEq] at h
    obtain ⟨_, rfl⟩ := h
    simp
  | cons x xs ih =>
    intro h
    simp only [steps] at h
    cases hx : Mach.step m x with
    | none => rw [hx] at h; cases h
    | some r =>
      obtain ⟨m3, e3⟩ := r
      rw [hx] at h
      simp only at h
      cases hs : steps m3 xs with
      | none => rw [hs] at h; cases h
      | some r =>
        obtain ⟨m4, e4⟩ := r
        rw [hs] at h
        simp only [Option.some.injEq, Prod.mk.injEq] at h
        obtain ⟨rfl, rfl⟩ := h
        have h1 := step_one hx
        have h2 := ih hs
        rw [List.length_append, List.length_cons]
        omega
/-- A text was read to its end, or to where it goes wrong. -/
def Ran (l out : List Int) (b : B4) : Prop :=
  (∃ m, steps m0 l = some (m, out) ∧ m.beg = 0 ∧ m.upper = 0 ∧ b = { at_ := l.length, err := 0, pl := 0, fin := true }) ∨
  (∃ m, steps m0 l = some (m, out) ∧ (m.beg ≠ 0 ∨ m.upper ≠ 0) ∧ b = { at_ := l.length, err := 4, pl := l.length, fin := false }) ∨
  (∃ (k : Nat) (m : M), k < l.length ∧ steps m0 (l.take k) = some (m, out) ∧ Mach.step m (l.getD k 0) = none ∧ b = { at_ := k, err := 3, pl := k, fin := false })
theorem steps_prefix {m m2 : M} {e : List Int} {ys : List Int} : ∀ {xs : List Int}, steps m (xs ++ ys) = some (m2, e) → ∃ m1 e1 e2, steps m xs = some (m1, e1) ∧ steps m1 ys = some (m2, e2) ∧ e = e1 ++ e2 := by
  intro xs
  induction xs generalizing m e with
  | nil => intro h; exact ⟨m, [], e, rfl, h, rfl⟩
  | cons x xs ih =>
    intro h
    simp only [steps, List.cons_append] at h ⊢
    cases hx : Mach.step m x with
    | none => rw [hx] at h; cases h
    | some r =>
      obtain ⟨m3, e3⟩ := r
      rw [hx] at h
      simp only at h
      cases hs : steps m3 (xs ++ ys) with
      | none => rw [hs] at h; cases h
      | some r =>
        obtain ⟨m4, e4⟩ := r
        rw [hs] at h
        simp only [Option.some.injEq, Prod.mk.injEq] at h
        obtain ⟨rfl, rfl⟩ := h
        obtain ⟨m5, e5, e6, q1, q2, q3⟩ := ih hs
        exact ⟨m5, e3 ++ e5, e6, by simp [q1], q2, by rw [q3]; simp⟩
theorem take_succ' {l : List Int} {k : Nat} (h : k < l.length) : l.take (k + 1) = l.take k ++ [l.getD k 0] := by
  rw [List.take_succ_eq_append_getElem h, List.getD_eq_getElem?_getD, List.getElem?_eq_getElem h]; rfl
/-- No further than where it goes wrong. -/
theorem stop_le {l : List Int} {k j : Nat} {m m' : M} {out e : List Int} (hk : k < l.length) (h1 : steps m0 (l.take k) = some (m, out)) (h2 : Mach.step m (l.getD k 0) = none) (h3 : steps m0 (l.take j) = some (m', e)) : j ≤ k := by
  rcases Nat.lt_or_ge k j with hlt | hge
  · have : l.take j = l.take (k + 1) ++ (l.take j).drop (k + 1) := by
      have : (l.take j).take (k + 1) = l.take (k + 1) := by rw [List.take_take, Nat.min_eq_left (by omega)]
      rw [← this, List.take_append_drop]
    rw [this, take_succ' hk] at h3
    obtain ⟨m5, e5, e6, q1, q2, q3⟩ := steps_prefix h3
    obtain ⟨m7, e7, e8, p1, p2, p3⟩ := steps_prefix q1
    rw [h1] at p1
    simp only [Option.some.injEq, Prod.mk.injEq] at p1
    obtain ⟨rfl, rfl⟩ := p1
    simp only [steps, h2] at p2
    cases p2
  · exact hge
theorem byt_rng (s : ByteArray) : ∀ x ∈ byt s, 0 ≤ x ∧ x ≤ 255 := by
  intro x hx
  unfold byt at hx
  rw [List.mem_map] at hx
  obtain ⟨y, _, rfl⟩ := hx
  have := y.toNat_lt
  omega
theorem byt_str {xs : List Int} (h : ∀ x ∈ xs, 0 ≤ x ∧ x ≤ 255) : byt (strOfNums xs) = xs := by
  unfold byt strOfNums
  simp only [List.map_map]
  conv => rhs; rw [← List.map_id xs]
  apply List.map_congr_left
  intro x hx
  have := h x hx
  simp
  omega
theorem sgl {m : M} {b : Int} (h : m.beg = 0) (hu : m.uni = false) : Mach.step m b = single m b := by
  unfold Mach.step
  rw [if_neg (by rw [h]; simp), hu]
  rfl
theorem dbl {m : M} {b : Int} (h : m.beg = 0) (hu : m.uni = true) : Mach.step m b = double m b := by
  unfold Mach.step
  rw [if_neg (by rw [h]; simp), if_pos hu]
theorem mor {m : M} {b : Int} (h : m.beg ≠ 0) : Mach.step m b = more m b := by
  unfold Mach.step
  rw [if_pos h]
theorem pass_no {b : Int} (h1 : 1 ≤ b) (h2 : b ≤ 31) (h3 : b ≠ 9) (h4 : b ≠ 10) (h5 : b ≠ 13) : ¬ pass b = true := by
  unfold pass; simp; omega
theorem s_hi {m : M} {b : Int} (hu : m.upper = 0) (hb : 128 ≤ b) : single m b = some (m, [wAt m.o m.act + b - 128]) := by
  unfold single
  rw [if_neg (by rw [hu]; simp; omega), if_pos hb]
theorem s_lay {m : M} {b : Int} (hu : m.upper = 0) (h1 : 24 ≤ b) (h2 : b ≤ 31) : single m b = some (m.begin 2 (b - 24), []) := by
  unfold single
  rw [if_neg (by rw [hu]; simp; omega), if_neg (by omega), if_neg (pass_no (by omega) (by omega) (by omega) (by omega) (by omega)), if_pos h1]
theorem s_act {m : M} {b : Int} (hu : m.upper = 0) (h1 : 16 ≤ b) (h2 : b ≤ 23) : single m b = some (m.activate (b - 16), []) := by
  unfold single
  rw [if_neg (by rw [hu]; simp; omega), if_neg (by omega), if_neg (pass_no (by omega) (by omega) (by omega) (by omega) (by omega)), if_neg (by omega), if_pos h1]
theorem s_15 {m : M} (hu : m.upper = 0) : single m 15 = some ({ m with uni := true }, []) := by
  unfold single
  rw [if_neg (by rw [hu]; simp), if_neg (by omega), if_neg (pass_no (by omega) (by omega) (by omega) (by omega) (by omega)), if_neg (by omega), if_neg (by omega), if_pos rfl]
theorem s_quo {m : M} {b : Int} (hu : m.upper = 0) (h1 : 1 ≤ b) (h2 : b ≤ 8) : single m b = some (m.begin 1 (b - 1), []) := by
  unfold single
  rw [if_neg (by rw [hu]; simp; omega), if_neg (by omega), if_neg (pass_no (by omega) (by omega) (by omega) (by omega) (by omega)), if_neg (by omega), if_neg (by omega), if_neg (by omega), if_neg (by omega), if_neg (by omega)]
theorem d_lay {m : M} {b : Int} (hu : m.upper = 0) (h1 : 232 ≤ b) (h2 : b ≤ 239) : double m b = some (m.begin 2 (b - 232), []) := by
  unfold double
  rw [if_neg (by omega), if_neg (by omega), if_neg (by rw [hu]; simp; omega), if_neg (by omega), if_pos h1]
theorem d_act {m : M} {b : Int} (hu : m.upper = 0) (h1 : 224 ≤ b) (h2 : b ≤ 231) : double m b = some (m.activate (b - 224), []) := by
  unfold double
  rw [if_neg (by omega), if_neg (by omega), if_neg (by rw [hu]; simp; omega), if_neg (by omega), if_neg (by omega)]
theorem m_quo {m : M} {b : Int} (h : m.beg = 1) (hb : 128 ≤ b) : more m b = some ({ m with beg := 0 }, [wAt m.o m.n - 128 + b]) := by
  unfold more
  rw [if_pos h, if_pos hb]
theorem m_lay {m : M} {b : Int} (h : m.beg = 2) : more m b = if (wOffset b).2 = true then some (({ m with o := m.o.set m.n.toNat (wOffset b).1 } : M).activate m.n, []) else none := by
  unfold more
  rw [if_neg (by rw [h]; decide), if_pos h]
theorem wAt_set {o : List Int} {n c : Int} (hn : 0 ≤ n) (hn8 : n < 8) (hl : o.length = 8) : wAt (o.set n.toNat c) n = c := by
  unfold wAt
  rw [if_pos ⟨hn, hn8⟩, List.getD_eq_getElem?_getD, List.getElem?_set_self (by omega)]
  rfl
/-- A text all of whose bytes go: what is told. -/
theorem ran_all {l out e : List Int} {b : B4} {m : M} (h1 : steps m0 l = some (m, e)) (hr : Ran l out b) : out = e := by
  rcases hr with ⟨m, h2, _⟩ | ⟨m, h2, _⟩ | ⟨k, m, h2, h3, h4, _⟩
  · rw [h1] at h2; simp only [Option.some.injEq, Prod.mk.injEq] at h2; exact h2.2.symm
  · rw [h1] at h2; simp only [Option.some.injEq, Prod.mk.injEq] at h2; exact h2.2.symm
  · have := stop_le h2 h3 h4 (j := l.length) (by rw [List.take_length]; exact h1)
    omega
/-- A text that goes wrong at a place. -/
theorem ran_stop {l out e : List Int} {b : B4} {m : M} {k : Nat} (hk : k < l.length) (h1 : steps m0 (l.take k) = some (m, e)) (h2 : Mach.step m (l.getD k 0) = none) (hr : Ran l out b) : out = e ∧ b = { at_ := k, err := 3, pl := k, fin := false } := by
  rcases hr with ⟨m, h3, _⟩ | ⟨m, h3, _⟩ | ⟨j, m, h3, h4, h5, h6⟩
  · have := stop_le hk h1 h2 (j := l.length) (by rw [List.take_length]; exact h3)
    omega
  · have := stop_le hk h1 h2 (j := l.length) (by rw [List.take_length]; exact h3)
    omega
  · have q1 := stop_le hk h1 h2 h4
    have q2 := stop_le h3 h4 h5 h1
    obtain rfl : j = k := by omega
    rw [h1] at h4
    simp only [Option.some.injEq, Prod.mk.injEq] at h4
    exact ⟨h4.2.symm, h6⟩
open Go.Proofs.YtkfiahildoljfaaW.PrintWords in
theorem lst_arg {w : World} {k : IntKind} {A : Option Addr} {n : Nat} {l : List Int} (h : (Kd.int k).C w A n l) : Lst w k A l := fun j hj => by
  obtain ⟨h1, h2, h3⟩ := h
  obtain ⟨ad, rfl, hc⟩ := h3 (by omega)
  obtain ⟨c, hl, hK, hcell⟩ := hc j _ (List.getElem?_eq_getElem hj)
  refine ⟨ad, rfl, ?_⟩
  have hs : (Kd.int k).sz = 1 := rfl
  rw [hs] at hcell
  have hc1 : c = [.int k l[j]] := hK
  subst hc1
  have := hcell 0 _ rfl
  rw [Nat.mul_one, Nat.add_zero] at this
  rw [this, List.getD_eq_getElem?_getD, List.getElem?_eq_getElem hj]
  rfl
end Go.Proofs.Ytkfiahildoljfaa.Dec
