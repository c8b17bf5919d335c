/- A region of open order by facts on what is listed so far: each operation is shown once. -/
import Derived.Test.YtnkinbfglenddaaWMore
import Derived.Test.YtnkinbfglenddaaWInv
import Derived.Test.YtnkinbfglenddaaWInvWords
import Derived.Test.YtnkinbfglenddaaWGuard
namespace Go.Proofs.Ytnkinbfglenddaa.Phi
open Go.RowKit Go.Proofs.YtnkinbfglenddaaW.PrintWords Go.Proofs.YtnkinbfglenddaaW.PrintLast Go.Proofs.YtnkinbfglenddaaW.PrintMore
set_option linter.unusedVariables false
def dstOf (ops : Array Oper) (j : Nat) : Option Tmp := (ops[j]?).bind (·.dst)
section
variable {P : Program} {ops : Array Oper} {Q : Exit → Act → World → Prop} {md : Region.Mode} {T : Bool × List (List Nat × List Nat)} {B : List Nat}
def PhiStep (P : Program) (ops : Array Oper) (Q : Exit → Act → World → Prop) (B : List Nat) (O : List Nat) (a0 : Act) (G : World → Prop) (R : World → World → Prop) (F : Nat → Value → World → Prop) (i : Nat) : Prop :=
  ∀ (a : Act) (w : World), G w → (∀ t, (O.all fun j => !(dstOf ops j == some t)) = true → a.tmps[t]? = a0.tmps[t]?) →
    (∀ j, (O.contains j && (B.getD i 0).testBit j) = true → ∃ v, (∀ t, dstOf ops j = some t → a.tmps[t]? = some v) ∧ F j v w) →
    ∃ oi, ops[i]? = some oi ∧ ∀ K : Act → World → Prop, Shut (∀ v w', F i v w' → G w' → R w w' → K (a.put oi.dst v) w') →
      if Region.wanted oi (yielded ops a.tmps) = true then Oper.wp P oi a w K Q else K (a.put oi.dst undef) w
theorem phi_nil {O : List Nat} {a0 : Act} {G : World → Prop} {R : World → World → Prop} {F : Nat → Value → World → Prop} : ∀ i ∈ ([] : List Nat), PhiStep P ops Q B O a0 G R F i := fun _ h => by cases h
theorem phi_cons {O : List Nat} {a0 : Act} {G : World → Prop} {R : World → World → Prop} {F : Nat → Value → World → Prop} {i : Nat} {rs : List Nat} (h : PhiStep P ops Q B O a0 G R F i) (hs : ∀ j ∈ rs, PhiStep P ops Q B O a0 G R F j) : ∀ j ∈ i :: rs, PhiStep P ops Q B O a0 G R F j := fun j hj => by
  rcases List.mem_cons.1 hj with rfl | hj
  · exact h
  · exact hs j hj
def putAll (ops : Array Oper) (vals : Nat → Value) : List Nat → Act → Act
  | [], a => a
  | j :: r, a => putAll ops vals r (a.put (dstOf ops j) (vals j))
/-- Destinations stand in the frame, each once. -/
def dstOk (ops : Array Oper) (n : Nat) : List Nat → Bool
  | [] => true
  | j :: r => (match dstOf ops j with | none => true | some t => decide (t < n) && r.all fun i => !(dstOf ops i == some t)) && dstOk ops n r
theorem put_get (a : Act) (d : Option Tmp) (v : Value) (t : Nat) : (a.put d v).tmps[t]? = if d = some t ∧ t < a.tmps.size then some v else a.tmps[t]? := by
  cases d with
  | none => simp [Act.put]
  | some s =>
    simp only [Act.put, Array.getElem?_setIfInBounds, Option.some.injEq]
    by_cases h : s = t
    · subst h
      by_cases h2 : s < a.tmps.size
      · simp [h2]
      · simp [h2]
    · simp [h]
theorem put_size (a : Act) (d : Option Tmp) (v : Value) : (a.put d v).tmps.size = a.tmps.size := by cases d <;> simp [Act.put]
theorem put_defers (a : Act) (d : Option Tmp) (v : Value) : (a.put d v).defers = a.defers := by cases d <;> simp [Act.put]
theorem putAll_size (vals : Nat → Value) : ∀ (O : List Nat) (a : Act), (putAll ops vals O a).tmps.size = a.tmps.size ∧ (putAll ops vals O a).defers = a.defers
  | [], a => ⟨rfl, rfl⟩
  | j :: r, a => by
    have := putAll_size vals r (a.put (dstOf ops j) (vals j))
    rw [put_size, put_defers] at this
    exact this
theorem putAll_off (vals : Nat → Value) : ∀ (O : List Nat) (a : Act) (t : Nat), (O.all fun j => !(dstOf ops j == some t)) = true → (putAll ops vals O a).tmps[t]? = a.tmps[t]?
  | [], a, t, _ => rfl
  | j :: r, a, t, h => by
    rw [List.all_cons, Bool.and_eq_true] at h
    have h1 : ¬ dstOf ops j = some t := by simpa using h.1
    rw [putAll, putAll_off vals r _ t h.2, put_get, if_neg (fun h2 => h1 h2.1)]
theorem putAll_on (vals : Nat → Value) (n : Nat) : ∀ (O : List Nat) (a : Act) (j t : Nat), dstOk ops n O = true → n ≤ a.tmps.size → j ∈ O → dstOf ops j = some t → (putAll ops vals O a).tmps[t]? = some (vals j)
  | [], a, j, t, _, _, hj, _ => by cases hj
  | i :: r, a, j, t, hd, hn, hj, ht => by
    unfold dstOk at hd
    rw [Bool.and_eq_true] at hd
    rcases List.mem_cons.1 hj with rfl | hj
    · rw [ht] at hd
      simp only [Bool.and_eq_true, decide_eq_true_eq] at hd
      have h9 : t < n := hd.1.1
      rw [putAll, putAll_off vals r _ t hd.1.2, put_get, if_pos ⟨ht, by omega⟩]
    · rw [putAll]
      exact putAll_on vals n r _ j t hd.2 (by rw [put_size]; exact hn) hj ht
theorem dstOk_ne {n : Nat} : ∀ {O : List Nat}, dstOk ops n O = true → ∀ i j t, i ∈ O → j ∈ O → dstOf ops i = some t → dstOf ops j = some t → O.Nodup → i = j
  | [], _, i, j, t, hi, _, _, _, _ => by cases hi
  | x :: r, hd, i, j, t, hi, hj, h1, h2, hn => by
    unfold dstOk at hd
    rw [Bool.and_eq_true] at hd
    rw [List.nodup_cons] at hn
    rcases List.mem_cons.1 hi with e1 | hi2
    · rcases List.mem_cons.1 hj with e2 | hj'
      · rw [e1, e2]
      · subst e1
        rw [h1] at hd
        simp only [Bool.and_eq_true, List.all_eq_true] at hd
        have := hd.1.2 j hj'
        rw [h2] at this
        simp at this
    · rcases List.mem_cons.1 hj with e2 | hj2
      · subst e2
        rw [h2] at hd
        simp only [Bool.and_eq_true, List.all_eq_true] at hd
        have := hd.1.2 i hi2
        rw [h1] at this
        simp at this
      · exact dstOk_ne hd.2 i j t hi2 hj2 h1 h2 hn.2
theorem dstOk_lt {n : Nat} : ∀ {O : List Nat}, dstOk ops n O = true → ∀ i t, i ∈ O → dstOf ops i = some t → t < n
  | [], _, i, t, hi, _ => by cases hi
  | x :: r, hd, i, t, hi, h1 => by
    unfold dstOk at hd
    rw [Bool.and_eq_true] at hd
    rcases List.mem_cons.1 hi with e1 | hi
    · subst e1
      rw [h1] at hd
      simp only [Bool.and_eq_true, decide_eq_true_eq] at hd
      exact hd.1.1
    · exact dstOk_lt hd.2 i t hi h1
/-- What is known of a frame: what isn't listed is as it was; what is listed has a value of which its fact holds. -/
def PhiInv (ops : Array Oper) (O : List Nat) (a0 : Act) (G : World → Prop) (F : Nat → Value → World → Prop) (b : Nat → Bool) (a : Act) (w : World) : Prop :=
  a.tmps.size = a0.tmps.size ∧ a.defers = a0.defers ∧ (∀ t, (O.all fun j => !(dstOf ops j == some t)) = true → a.tmps[t]? = a0.tmps[t]?) ∧ G w ∧
    ∀ j ∈ O, b j = true → ∃ v, (∀ t, dstOf ops j = some t → a.tmps[t]? = some v) ∧ F j v w
theorem phi_ {l : Array Bool} {fuel : Nat} {a : Act} {w : World} (n : Nat) (O : List Nat) (G : World → Prop) (R : World → World → Prop) (F : Nat → Value → World → Prop) (hT : rtab md ops = T) (hw : waitsOk T.2 B = true) (hk : baseOk T.2 O = true)
    (hl : (lof T.2.length O (fun _ => false) == l.toList && O.length == fuel) = true) (hd : dstOk ops n O = true) (hn : n ≤ a.tmps.size) (hG : G w)
    (hR : ∀ j v w1 w2, R w1 w2 → F j v w1 → F j v w2) (hs : ∀ i ∈ O, PhiStep P ops Q B O a G R F i)
    (hend : ∀ (vals : Nat → Value) (w' : World), G w' → (∀ j ∈ O, F j (vals j) w') → Q .normal (putAll ops vals O a) w') : wpAnyLast P md ops Q (fun _ => True) [] fuel l a w := by
  have hnd := baseOk_nodup hk
  refine inv_ O (PhiInv ops O a G F) hT hw hk hl ⟨rfl, rfl, fun _ _ => rfl, hG, fun _ _ h => by cases h⟩ ?_ ?_
  · intro i hi b a' w' hI hb hon _
    obtain ⟨h1, h2, h3, h4, h5⟩ := hI
    obtain ⟨oi, hoi, hK⟩ := hs i hi a' w' h4 h3 (fun j hj => by
      have h6 := hon j hj
      rw [Bool.and_eq_true] at hj
      exact h5 j (List.contains_iff_mem.1 hj.1) h6)
    refine ⟨oi, hoi, fun K hK' => hK K (fun v w2 f g r => ?_)⟩
    have hdi : dstOf ops i = oi.dst := by unfold dstOf; rw [hoi]; rfl
    refine hK' _ _ ⟨by rw [put_size, h1], by rw [put_defers, h2], fun t ht => ?_, g, fun j hj hbj => ?_⟩
    · rw [put_get, if_neg, h3 t ht]
      rintro ⟨h6, _⟩
      have := List.all_eq_true.1 ht i hi
      rw [hdi, h6] at this
      simp at this
    · by_cases hji : j = i
      · subst hji
        refine ⟨v, fun t ht => ?_, f⟩
        have h8 : (t : Nat) < n := dstOk_lt hd _ _ hj ht
        rw [put_get, if_pos ⟨by rw [← hdi]; exact ht, Nat.lt_of_lt_of_le h8 (by rw [h1]; exact hn)⟩]
      · rw [up_ne hji] at hbj
        obtain ⟨v2, h6, h7⟩ := h5 j hj hbj
        refine ⟨v2, fun t ht => ?_, hR _ _ _ _ r h7⟩
        rw [put_get, if_neg, h6 t ht]
        rintro ⟨h8, _⟩
        rw [← hdi] at h8
        exact hji (dstOk_ne hd j i t hj hi ht h8 hnd)
  · intro b a' w' hb hI
    obtain ⟨h1, h2, h3, h4, h5⟩ := hI
    have h6 : ∀ j, ∃ v, j ∈ O → (∀ t, dstOf ops j = some t → a'.tmps[t]? = some v) ∧ F j v w' := by
      intro j
      by_cases hj : j ∈ O
      · obtain ⟨v, h⟩ := h5 j hj (hb j (List.contains_iff_mem.2 hj))
        exact ⟨v, fun _ => h⟩
      · exact ⟨undef, fun h => absurd h hj⟩
    let vals : Nat → Value := fun j => Classical.choose (h6 j)
    have hv : ∀ j ∈ O, (∀ t, dstOf ops j = some t → a'.tmps[t]? = some (vals j)) ∧ F j (vals j) w' := fun j hj => Classical.choose_spec (h6 j) hj
    have he : a' = putAll ops vals O a := by
      have hp := putAll_size (ops := ops) vals O a
      cases a' with
      | mk tm df =>
        generalize hq : putAll ops vals O a = q at hp
        cases q with
        | mk tm2 df2 =>
          simp only at h1 h2 hp
          have ht : tm = tm2 := by
            apply Array.ext_getElem?
            intro t
            by_cases ho : (O.all fun j => !(dstOf ops j == some t)) = true
            · have := putAll_off (ops := ops) vals O a t ho
              rw [hq] at this
              exact (h3 t ho).trans this.symm
            · rw [List.all_eq_true] at ho
              have : ∃ j ∈ O, dstOf ops j = some t := by
                apply Classical.byContradiction
                intro hne
                apply ho
                intro j hj
                simp only [Bool.not_eq_true', beq_eq_false_iff_ne, ne_eq]
                exact fun h => hne ⟨j, hj, h⟩
              obtain ⟨j, hj, hjt⟩ := this
              have := putAll_on (ops := ops) vals n O a j t hd hn hj hjt
              rw [hq] at this
              exact ((hv j hj).1 t hjt).trans this.symm
          subst ht
          have : df = df2 := h2.trans hp.2.symm
          subst this
          rfl
    rw [he]
    exact hend vals w' h4 (fun j hj => (hv j hj).2)
end
end Go.Proofs.Ytnkinbfglenddaa.Phi
