/- The law's reading of a text by a decoder: in parts, with so much room each. -/
import Derived.Test.YtnkinbfglenddaaEnd
import Derived.Test.YtnkinbfglenddaaLst
import Derived.Deep.CutBlock
import Derived.Deep.DeepCutAuto
namespace Go.Proofs.Ytnkinbfglenddaa.Dec
open Go.RowKit Go.Proofs.Ytnkinbfglenddaa.Win Go.Proofs.Ytnkinbfglenddaa.Stp Go.Proofs.Ytnkinbfglenddaa.Mach Go.Proofs.Ytnkinbfglenddaa.Lst Go.Proofs.YtnkinbfglenddaaW.PrintMore
set_option linter.unusedVariables false
set_option linter.unusedSimpArgs false
attribute [local go_sem] max2_int min2_int max_two min_two
def clip (a top : Int) : Int := if (if a < 0 then 0 else a) < top then (if a < 0 then 0 else a) else top
def capN (xs : List Int) (k : Nat) (d top : Int) : Int := if k < xs.length then clip (xs.getD k 0) top else d
theorem clip_rng (a top : Int) (h : 0 ≤ top) : 0 ≤ clip a top ∧ clip a top ≤ top := by unfold clip; split <;> split <;> omega
theorem capN_rng (xs : List Int) (k : Nat) (d top : Int) (h : 0 ≤ top) (hd : 0 ≤ d ∧ d ≤ top) : 0 ≤ capN xs k d top ∧ capN xs k d top ≤ top := by
  unfold capN
  split
  · exact clip_rng _ _ h
  · exact hd
theorem steps_append {m m1 m2 : M} {e e2 : List Int} {ys : List Int} : ∀ {xs : List Int}, steps m xs = some (m1, e) → steps m1 ys = some (m2, e2) → steps m (xs ++ ys) = some (m2, e ++ e2) := by
  intro xs
  induction xs generalizing m e with
  | nil =>
    intro h h2
    simp only [steps, Option.some.injEq, Prod.mk.injEq] at h
    obtain ⟨rfl, rfl⟩ := h
    simpa using h2
  | cons x xs ih =>
    intro h h2
    simp only [steps, List.cons_append] at h ⊢
    cases hx : Mach.step m x with
    | none => rw [hx] at h; cases h
    | some r =>
      obtain ⟨m3, e3⟩ := r
      rw [hx] at h
      simp only at h ⊢
      cases hs : steps m3 xs with
      | none => rw [hs] at h; cases h
      | some r =>
        obtain ⟨m4, e4⟩ := r
        rw [hs] at h
        simp only [Option.some.injEq, Prod.mk.injEq] at h
        obtain ⟨rfl, rfl⟩ := h
        rw [ih hs h2]
        simp
theorem byt_extract (s : ByteArray) (a b : Nat) : byt (s.extract a b) = ((byt s).drop a).take (b - a) := by
  unfold byt
  rw [ByteArray.data_extract, Array.toList_extract, List.extract_eq_take_drop, List.map_take, List.map_drop]
theorem steps_length {m m' : M} {e : List Int} : ∀ {xs : List Int}, steps m xs = some (m', e) → e.length ≤ xs.length := by
  intro xs
  induction xs generalizing m e with
  | nil =>
    intro h
    simp only [steps, Option.some.injEq, Prod.mk.injEq] at h
    obtain ⟨_, rfl⟩ := h
    simp
  | cons x xs ih =>
    intro h
    simp only [steps] at h
    cases hx : Mach.step m x with
    | none => rw [hx] at h; cases h
    | some r =>
      obtain ⟨m3, e3⟩ := r
      rw [hx] at h
      simp only at h
      cases hs : steps m3 xs with
      | none => rw [hs] at h; cases h
      | some r =>
        obtain ⟨m4, e4⟩ := r
        rw [hs] at h
        simp only [Option.some.injEq, Prod.mk.injEq] at h
        obtain ⟨rfl, rfl⟩ := h
        have h1 := step_one hx
        have h2 := ih hs
        rw [List.length_append, List.length_cons]
        omega
theorem steps_on {s r : ByteArray} {t n q : Nat} {m m1 : M} {out o : List Int} (hr : byt r = (byt s).drop t) (hq : q ≤ n) (hst : steps m0 ((byt s).take t) = some (m, out)) (hs : steps m ((byt (r.extract 0 n)).take q) = some (m1, o)) : steps m0 ((byt s).take (t + q)) = some (m1, out ++ o) := by
  rw [byt_extract, List.drop_zero, Nat.sub_zero, List.take_take, Nat.min_eq_left hq, hr] at hs
  rw [List.take_add]
  exact steps_append hst hs
theorem getD_on {s r : ByteArray} {t n q : Nat} (hr : byt r = (byt s).drop t) (hq : q < n) : (byt (r.extract 0 n)).getD q 0 = (byt s).getD (t + q) 0 := by
  rw [byt_extract, List.drop_zero, Nat.sub_zero, hr]
  rw [List.getD_eq_getElem?_getD, List.getD_eq_getElem?_getD, List.getElem?_take_of_lt hq, List.getElem?_drop]
theorem toList_loop (s : ByteArray) : ∀ (n i : Nat) (r : List UInt8), s.size - i = n → ByteArray.toList.loop s i r = [] → r = [] ∧ s.size ≤ i := by
  intro n
  induction n with
  | zero =>
    intro i r hn h
    unfold ByteArray.toList.loop at h
    rw [if_neg (by omega)] at h
    exact ⟨by simpa using h, by omega⟩
  | succ n ih =>
    intro i r hn h
    unfold ByteArray.toList.loop at h
    rw [if_pos (by omega)] at h
    have := (ih (i + 1) _ (by omega) h).1
    cases this
theorem toList_nil {s : ByteArray} (h : s.toList = []) : s.size = 0 := by
  have := (toList_loop s _ 0 [] rfl h).2
  omega
theorem extract_empty (r : ByteArray) (q : Nat) (hq : q ≤ r.size) : r.extract q r.size = { data := #[] } ↔ r.size = q := by
  have h1 : (r.extract q r.size).size = r.size - q := by rw [ByteArray.size_extract]; omega
  constructor
  · intro h
    rw [h] at h1
    have : (({ data := #[] } : ByteArray)).size = 0 := rfl
    omega
  · intro h
    have h2 : (r.extract q r.size).size = 0 := by omega
    have h3 : (r.extract q r.size) = ByteArray.empty := ByteArray.size_eq_zero_iff.1 h2
    rw [h3]; rfl
theorem extract_toList (r : ByteArray) (q : Nat) (hq : q ≤ r.size) (h : (r.extract q r.size).toList = []) : r.size = q := by
  have h1 : (r.extract q r.size).size = r.size - q := by rw [ByteArray.size_extract]; omega
  have := toList_nil h
  omega
theorem fs_ge {w1 : World} {g gw base : Nat} {e : TypeId} {size n : Nat} {v : Value} {xs : List Value} (h : w1.ownsRow base e size v n xs) (hg : g < base) (hgw : gw < base) : ∀ k, v.ownBlock = some k → ¬ FS g gw nilS k := by
  intro k hk hh
  have := (h.lt k hk).1
  rcases hh with rfl | rfl | hh
  · omega
  · omega
  · cases hh
def FedCase (s : ByteArray) (t n : Nat) (out : List Int) (room : Int) (q : Nat) (o : List Int) (b1 : B4) (m1 : M) : Prop :=
  ((b1.err != 0) = true ∧ ∃ m2, steps m0 ((byt s).take (t + q)) = some (m2, out ++ o) ∧ t + q < s.size ∧ Mach.step m2 ((byt s).getD (t + q) 0) = none ∧ b1 = { at_ := ((t + q : Nat) : Int), err := 3, pl := ((t + q : Nat) : Int), fin := false }) ∨
  ((b1.err != 0) = false ∧ steps m0 ((byt s).take (t + q)) = some (m1, out ++ o) ∧ Mach.Good m1 ∧ b1 = { b40 with at_ := ((t + q : Nat) : Int) } ∧ (q = n ∨ (q ≠ 0 ∨ room ≤ 0)))
theorem fed_on {s r : ByteArray} {t n q : Nat} {m m1 : M} {out o : List Int} {room : Int} {b1 : B4} (hr : byt r = (byt s).drop t) (ht : t ≤ s.size) (hn : n ≤ r.size) (hst : steps m0 ((byt s).take t) = some (m, out))
    (hf : Fed { b40 with at_ := t } m (byt (r.extract 0 n)) room q o b1 m1) : FedCase s t n out room q o b1 m1 := by
  have hsz : (byt (r.extract 0 n)).length = n := by rw [byt_length, ByteArray.size_extract]; omega
  have hrs : r.size = s.size - t := by rw [← byt_length, hr, List.length_drop, byt_length]
  have hq := hf.le
  rw [hsz] at hq
  rcases hf.way with ⟨m2, h1, h2, h3, h4, h5, h6⟩ | ⟨h1, h2, h3, h4⟩
  · rw [hsz] at h3
    refine .inl ⟨by rw [h6]; rfl, m2, steps_on hr hq hst h1, by omega, by rw [← getD_on hr h3]; exact h5, ?_⟩
    rw [h6]
    show ({ at_ := (t : Int) + q, err := 3, pl := (t : Int) + q, fin := false } : B4) = _
    congr 1
  · refine .inr ⟨by rw [h3]; rfl, steps_on hr hq hst h1, h2, ?_, ?_⟩
    · rw [h3]
      show ({ at_ := (t : Int) + q, err := 0, pl := 0, fin := false } : B4) = _
      congr 1
    · rcases h4 with h | h | h
      · left; omega
      · right
        by_cases h0 : q = 0
        · subst h0
          simp only [List.take_zero, steps, Option.some.injEq, Prod.mk.injEq] at h1
          obtain ⟨_, rfl⟩ := h1
          right; simpa using h
        · exact .inl h0
      · cases h
/-- A text was read to its end, or to where it goes wrong. -/
def Ran (l out : List Int) (b : B4) : Prop :=
  (∃ m, steps m0 l = some (m, out) ∧ m.beg = 0 ∧ m.upper = 0 ∧ b = { at_ := l.length, err := 0, pl := 0, fin := true }) ∨
  (∃ m, steps m0 l = some (m, out) ∧ (m.beg ≠ 0 ∨ m.upper ≠ 0) ∧ b = { at_ := l.length, err := 4, pl := l.length, fin := false }) ∨
  (∃ (k : Nat) (m : M), k < l.length ∧ steps m0 (l.take k) = some (m, out) ∧ Mach.step m (l.getD k 0) = none ∧ b = { at_ := k, err := 3, pl := k, fin := false })
theorem own_chg {S : Nat → Prop} {w w' : World} {base : Nat} {e : TypeId} {size n : Nat} {v : Value} {xs : List Value} (h : w.ownsRow base e size v n xs) (hc : Chg S w w') (hs : ∀ k, v.ownBlock = some k → ¬ S k) : w'.ownsRow base e size v n xs := by
  obtain ⟨a1, a2⟩ := h
  refine ⟨a1, ?_⟩
  rcases a2 with a2 | ⟨g', cap, cur, hv, hb, hh, r⟩
  · exact .inl a2
  · have hlt : g' < w.heap.size := (Array.getElem?_eq_some_iff.1 hh).1
    exact .inr ⟨g', cap, cur, hv, hb, (hc.block g' hlt (hs g' (by rw [hv]; rfl))).trans hh, r⟩
/-- Where the reading stands at a round's head. -/
def ReadRel (w : World) (g gw : Nat) (s : ByteArray) (P R : Nat) (vs vo i : Value) (wr : World) : Prop :=
  ∃ (k t : Nat) (r : ByteArray) (out : List Int) (m : M), i = .int .i64 k ∧ vs = .string r ∧ t ≤ s.size ∧ byt r = (byt s).drop t ∧ steps m0 ((byt s).take t) = some (m, out) ∧ out.length ≤ t ∧ Mach.Good m ∧
    DecAt wr g gw 0 nilS { b40 with at_ := t } [] m ∧ Chg (FS g gw nilS) w wr ∧ wr.ownsRow w.heap.size 25 1 vo out.length (u32s out) ∧ k ≤ P + R + t
/-- Behind the rounds. -/
def ReadMid (w : World) (g gw : Nat) (s : ByteArray) (vo : Value) (wr : World) : Prop :=
  ∃ (t : Nat) (out : List Int) (m : M) (b : B4) (m' : M), steps m0 ((byt s).take t) = some (m, out) ∧ out.length ≤ t ∧ t ≤ s.size ∧
    DecAt wr g gw 0 nilS b [] m' ∧ Chg (FS g gw nilS) w wr ∧ wr.ownsRow w.heap.size 25 1 vo out.length (u32s out) ∧
    ((t = s.size ∧ b = { b40 with at_ := t } ∧ m' = m) ∨ (t < s.size ∧ Mach.step m ((byt s).getD t 0) = none ∧ b = { at_ := t, err := 3, pl := t, fin := false }))
def ReadPost (w : World) (g gw : Nat) (s : ByteArray) (e : Ending) (w' : World) : Prop :=
  ∃ (A : Option Addr) (c : Nat) (out : List Int) (b : B4) (m : M), e = .returned (.tuple #[.slice A out.length c, .bool true]) ∧ DecAt w' g gw 0 nilS b [] m ∧ Chg (FS g gw nilS) w w' ∧ w'.ownsRow w.heap.size 25 1 (.slice A out.length c) out.length (u32s out) ∧ out.length ≤ s.size ∧ Ran (byt s) out b
theorem endB_done (b : B4) (m : M) : (endB b m).going = false := by
  unfold endB finB
  split
  · unfold B4.going; simp
  · rename_i h
    cases hg : (cutB b m).going with
    | true => exact absurd hg h
    | false => rfl
theorem ran_of {s : ByteArray} {t : Nat} {out : List Int} {m m' : M} {b : B4} (h1 : steps m0 ((byt s).take t) = some (m, out))
    (h : (t = s.size ∧ b = { b40 with at_ := t } ∧ m' = m) ∨ (t < s.size ∧ Mach.step m ((byt s).getD t 0) = none ∧ b = { at_ := t, err := 3, pl := t, fin := false })) : Ran (byt s) out (endB b m') := by
  rcases h with ⟨rfl, rfl, rfl⟩ | ⟨h2, h3, rfl⟩
  · rw [← byt_length, List.take_length] at h1
    by_cases hc : m'.beg ≠ 0 ∨ m'.upper ≠ 0
    · refine .inr (.inl ⟨m', h1, hc, ?_⟩)
      rw [byt_length]
      unfold endB cutB
      rw [if_pos ⟨hc, rfl⟩]
      rfl
    · refine .inl ⟨m', h1, by omega, by omega, ?_⟩
      rw [byt_length]
      unfold endB cutB
      rw [if_neg (fun h => hc h.1)]
      rfl
  · refine .inr (.inr ⟨t, m, by rw [byt_length]; exact h2, h1, h3, ?_⟩)
    unfold endB cutB
    rw [if_neg (fun h => absurd h.2 (by unfold B4.going; simp))]
    rfl
end Go.Proofs.Ytnkinbfglenddaa.Dec
