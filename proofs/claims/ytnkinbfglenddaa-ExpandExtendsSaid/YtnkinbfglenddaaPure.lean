/- What a reading tells, and single steps of the machine; plain. -/
import Derived.Test.YtnkinbfglenddaaLawAscii
namespace Go.Proofs.Ytnkinbfglenddaa.Dec
open Go.RowKit Go.Proofs.Ytnkinbfglenddaa.Win Go.Proofs.Ytnkinbfglenddaa.Stp Go.Proofs.Ytnkinbfglenddaa.Mach Go.Proofs.Ytnkinbfglenddaa.Lst
set_option linter.unusedVariables false
set_option linter.unusedSimpArgs false
/-- How far a reading came. -/
def RanAt (l out : List Int) (b : B4) (k : Nat) (m : M) : Prop := k ≤ l.length ∧ steps m0 (l.take k) = some (m, out) ∧ b.at_ = (k : Int) ∧ ((k = l.length ∧ b.err ≠ 3) ∨ (k < l.length ∧ Mach.step m (l.getD k 0) = none ∧ b.err = 3 ∧ b.pl = (k : Int)))
theorem ran_at {l out : List Int} {b : B4} (h : Ran l out b) : ∃ k m, RanAt l out b k m := by
  rcases h with ⟨m, h1, _, _, rfl⟩ | ⟨m, h1, _, rfl⟩ | ⟨k, m, h1, h2, h3, rfl⟩
  · exact ⟨l.length, m, Nat.le_refl _, by rw [List.take_length]; exact h1, rfl, .inl ⟨rfl, by simp⟩⟩
  · exact ⟨l.length, m, Nat.le_refl _, by rw [List.take_length]; exact h1, rfl, .inl ⟨rfl, by simp⟩⟩
  · exact ⟨k, m, Nat.le_of_lt h1, h2, rfl, .inr ⟨h1, h3, rfl, rfl⟩⟩
theorem steps_le {l out e : List Int} {j k : Nat} {m m' : M} (hjk : j ≤ k) (h1 : steps m0 (l.take k) = some (m, out)) (h2 : steps m0 (l.take j) = some (m', e)) : ∃ e2, out = e ++ e2 := by
  have : l.take k = l.take j ++ (l.take k).drop j := by
    have : (l.take k).take j = l.take j := by rw [List.take_take, Nat.min_eq_left hjk]
    rw [← this, List.take_append_drop]
  rw [this] at h1
  obtain ⟨m5, e5, e6, q1, q2, q3⟩ := steps_prefix h1
  rw [h2] at q1
  simp only [Option.some.injEq, Prod.mk.injEq] at q1
  obtain ⟨rfl, rfl⟩ := q1
  exact ⟨_, q3⟩
/-- A beginning against the whole. -/
theorem front {l out out2 : List Int} {b b2 : B4} {n : Nat} (hn : n ≤ l.length) (h : Ran l out b) (h2 : Ran (l.take n) out2 b2) :
    out2.length ≤ out.length ∧ out.take out2.length = out2 ∧ (b.err ≠ 3 ∨ (b.err = 3 ∧ (n : Int) ≤ b.at_) ∨ (b.err = 3 ∧ b.at_ < n ∧ b2.err = b.err ∧ b2.pl = b.pl)) := by
  obtain ⟨k, m, a1, a2, a3, a4⟩ := ran_at h
  obtain ⟨k2, m2, c1, c2, c3, c4⟩ := ran_at h2
  rw [List.length_take, Nat.min_eq_left hn] at c1 c4
  rw [List.take_take, Nat.min_eq_left c1] at c2
  have hle : k2 ≤ k := by
    rcases a4 with ⟨h, _⟩ | ⟨p1, p2, _, _⟩
    · omega
    · exact stop_le p1 a2 p2 c2
  obtain ⟨e2, he⟩ := steps_le hle a2 c2
  refine ⟨by rw [he, List.length_append]; omega, by rw [he]; simp, ?_⟩
  rcases a4 with ⟨h, h'⟩ | ⟨p1, p2, p3, p4⟩
  · exact .inl h'
  · rcases Nat.lt_or_ge k n with hkn | hkn
    · right; right
      rcases c4 with ⟨q1, _⟩ | ⟨q1, q2, q3, q4⟩
      · have := stop_le p1 a2 p2 (j := n) (by rw [← q1]; exact c2)
        omega
      · have e : (l.take n).getD k2 0 = l.getD k2 0 := by
          rw [List.getD_eq_getElem?_getD, List.getD_eq_getElem?_getD, List.getElem?_take_of_lt q1]
        rw [e] at q2
        have := stop_le (by omega : k2 < l.length) c2 q2 a2
        obtain rfl : k2 = k := by omega
        exact ⟨p3, by omega, by rw [q3, p3], by rw [q4, p4]⟩
    · right; left
      exact ⟨p3, by rw [a3]; omega⟩
theorem sgl {m : M} {b : Int} (h : m.beg = 0) (hu : m.uni = false) : Mach.step m b = single m b := by
  unfold Mach.step
  rw [if_neg (by rw [h]; simp), hu]
  rfl
theorem dbl {m : M} {b : Int} (h : m.beg = 0) (hu : m.uni = true) : Mach.step m b = double m b := by
  unfold Mach.step
  rw [if_neg (by rw [h]; simp), if_pos hu]
theorem mor {m : M} {b : Int} (h : m.beg ≠ 0) : Mach.step m b = more m b := by
  unfold Mach.step
  rw [if_pos h]
theorem pass_no {b : Int} (h1 : 1 ≤ b) (h2 : b ≤ 31) (h3 : b ≠ 9) (h4 : b ≠ 10) (h5 : b ≠ 13) : ¬ pass b = true := by
  unfold pass; simp; omega
theorem s_hi {m : M} {b : Int} (hu : m.upper = 0) (hb : 128 ≤ b) : single m b = some (m, [wAt m.o m.act + b - 128]) := by
  unfold single
  rw [if_neg (by rw [hu]; simp; omega), if_pos hb]
theorem s_lay {m : M} {b : Int} (hu : m.upper = 0) (h1 : 24 ≤ b) (h2 : b ≤ 31) : single m b = some (m.begin 2 (b - 24), []) := by
  unfold single
  rw [if_neg (by rw [hu]; simp; omega), if_neg (by omega), if_neg (pass_no (by omega) (by omega) (by omega) (by omega) (by omega)), if_pos h1]
theorem s_act {m : M} {b : Int} (hu : m.upper = 0) (h1 : 16 ≤ b) (h2 : b ≤ 23) : single m b = some (m.activate (b - 16), []) := by
  unfold single
  rw [if_neg (by rw [hu]; simp; omega), if_neg (by omega), if_neg (pass_no (by omega) (by omega) (by omega) (by omega) (by omega)), if_neg (by omega), if_pos h1]
theorem s_15 {m : M} (hu : m.upper = 0) : single m 15 = some ({ m with uni := true }, []) := by
  unfold single
  rw [if_neg (by rw [hu]; simp), if_neg (by omega), if_neg (pass_no (by omega) (by omega) (by omega) (by omega) (by omega)), if_neg (by omega), if_neg (by omega), if_pos rfl]
theorem s_quo {m : M} {b : Int} (hu : m.upper = 0) (h1 : 1 ≤ b) (h2 : b ≤ 8) : single m b = some (m.begin 1 (b - 1), []) := by
  unfold single
  rw [if_neg (by rw [hu]; simp; omega), if_neg (by omega), if_neg (pass_no (by omega) (by omega) (by omega) (by omega) (by omega)), if_neg (by omega), if_neg (by omega), if_neg (by omega), if_neg (by omega), if_neg (by omega)]
theorem d_lay {m : M} {b : Int} (hu : m.upper = 0) (h1 : 232 ≤ b) (h2 : b ≤ 239) : double m b = some (m.begin 2 (b - 232), []) := by
  unfold double
  rw [if_neg (by omega), if_neg (by omega), if_neg (by rw [hu]; simp; omega), if_neg (by omega), if_pos h1]
theorem d_act {m : M} {b : Int} (hu : m.upper = 0) (h1 : 224 ≤ b) (h2 : b ≤ 231) : double m b = some (m.activate (b - 224), []) := by
  unfold double
  rw [if_neg (by omega), if_neg (by omega), if_neg (by rw [hu]; simp; omega), if_neg (by omega), if_neg (by omega)]
theorem m_quo {m : M} {b : Int} (h : m.beg = 1) (hb : 128 ≤ b) : more m b = some ({ m with beg := 0 }, [wAt m.o m.n - 128 + b]) := by
  unfold more
  rw [if_pos h, if_pos hb]
theorem m_lay {m : M} {b : Int} (h : m.beg = 2) : more m b = if (wOffset b).2 = true then some (({ m with o := m.o.set m.n.toNat (wOffset b).1 } : M).activate m.n, []) else none := by
  unfold more
  rw [if_neg (by rw [h]; decide), if_pos h]
theorem wAt_set {o : List Int} {n c : Int} (hn : 0 ≤ n) (hn8 : n < 8) (hl : o.length = 8) : wAt (o.set n.toNat c) n = c := by
  unfold wAt
  rw [if_pos ⟨hn, hn8⟩, List.getD_eq_getElem?_getD, List.getElem?_set_self (by omega)]
  rfl
/-- A text all of whose bytes go: what is told. -/
theorem ran_all {l out e : List Int} {b : B4} {m : M} (h1 : steps m0 l = some (m, e)) (hr : Ran l out b) : out = e := by
  rcases hr with ⟨m, h2, _⟩ | ⟨m, h2, _⟩ | ⟨k, m, h2, h3, h4, _⟩
  · rw [h1] at h2; simp only [Option.some.injEq, Prod.mk.injEq] at h2; exact h2.2.symm
  · rw [h1] at h2; simp only [Option.some.injEq, Prod.mk.injEq] at h2; exact h2.2.symm
  · have := stop_le h2 h3 h4 (j := l.length) (by rw [List.take_length]; exact h1)
    omega
/-- A text that goes wrong at a place. -/
theorem ran_stop {l out e : List Int} {b : B4} {m : M} {k : Nat} (hk : k < l.length) (h1 : steps m0 (l.take k) = some (m, e)) (h2 : Mach.step m (l.getD k 0) = none) (hr : Ran l out b) : out = e ∧ b = { at_ := k, err := 3, pl := k, fin := false } := by
  rcases hr with ⟨m, h3, _⟩ | ⟨m, h3, _⟩ | ⟨j, m, h3, h4, h5, h6⟩
  · have := stop_le hk h1 h2 (j := l.length) (by rw [List.take_length]; exact h3)
    omega
  · have := stop_le hk h1 h2 (j := l.length) (by rw [List.take_length]; exact h3)
    omega
  · have q1 := stop_le hk h1 h2 h4
    have q2 := stop_le h3 h4 h5 h1
    obtain rfl : j = k := by omega
    rw [h1] at h4
    simp only [Option.some.injEq, Prod.mk.injEq] at h4
    exact ⟨h4.2.symm, h6⟩
open Go.Proofs.YtnkinbfglenddaaW.PrintWords in
theorem lst_arg {w : World} {k : IntKind} {A : Option Addr} {n : Nat} {l : List Int} (h : (Kd.int k).C w A n l) : Lst w k A l := fun j hj => by
  obtain ⟨h1, h2, h3⟩ := h
  obtain ⟨ad, rfl, hc⟩ := h3 (by omega)
  obtain ⟨c, hl, hK, hcell⟩ := hc j _ (List.getElem?_eq_getElem hj)
  refine ⟨ad, rfl, ?_⟩
  have hs : (Kd.int k).sz = 1 := rfl
  rw [hs] at hcell
  have hc1 : c = [.int k l[j]] := hK
  subst hc1
  have := hcell 0 _ rfl
  rw [Nat.mul_one, Nat.add_zero] at this
  rw [this, List.getD_eq_getElem?_getD, List.getElem?_eq_getElem hj]
  rfl
end Go.Proofs.Ytnkinbfglenddaa.Dec
