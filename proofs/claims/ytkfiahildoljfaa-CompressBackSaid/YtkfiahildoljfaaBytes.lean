/- What is written are bytes; plain. -/
import Derived.Test.YtkfiahildoljfaaFirst
namespace Go.Proofs.Ytkfiahildoljfaa.Enc
open Go.RowKit Go.Proofs.Ytkfiahildoljfaa.Win Go.Proofs.Ytkfiahildoljfaa.Stp Go.Proofs.Ytkfiahildoljfaa.Lst
set_option linter.unusedVariables false
set_option linter.unusedSimpArgs false
def Rg (bs : List Int) : Prop := ∀ x ∈ bs, 0 ≤ x ∧ x ≤ 255
theorem rg_nil : Rg [] := fun x hx => by cases hx
theorem rg_cons {x : Int} {bs : List Int} (h : 0 ≤ x ∧ x ≤ 255) (h2 : Rg bs) : Rg (x :: bs) := fun y hy => by
  rcases List.mem_cons.1 hy with rfl | hy
  · exact h
  · exact h2 y hy
theorem rg_append {a b : List Int} (h : Rg a) (h2 : Rg b) : Rg (a ++ b) := fun y hy => by
  rcases List.mem_append.1 hy with hy | hy
  · exact h y hy
  · exact h2 y hy
theorem units_rg {c : Int} (h0 : 0 ≤ c) (h1 : c ≤ 1114111) : Rg (unitsC c) := by
  unfold unitsC
  split
  · exact rg_cons (by omega) (rg_cons (by omega) (rg_cons (by omega) (rg_cons (by omega) rg_nil)))
  · refine rg_append ?_ (rg_cons (by omega) (rg_cons (by omega) rg_nil))
    split
    · exact rg_cons (by omega) rg_nil
    · exact rg_nil
theorem simple_rg {e : E} {c : Int} {bs : List Int} (h0 : 0 ≤ c) (hs : simpleC e c = some bs) : Rg bs := by
  unfold simpleC at hs
  split at hs
  · rename_i hp
    rw [passB_iff] at hp
    injection hs with hs; subst hs
    exact rg_cons (by omega) rg_nil
  · split at hs
    · injection hs with hs; subst hs
      exact rg_cons (by omega) (rg_cons (by omega) rg_nil)
    · split at hs
      · rename_i hh
        rw [hld_iff] at hh
        injection hs with hs; subst hs
        exact rg_cons (by omega) rg_nil
      · cases hs
theorem lay_rg {e : E} {c ix pr : Int} (hG : EG e) (h0 : 0 ≤ c) (h1 : c ≤ 1114111) (ho : (ownC c).2 = true) (i0 : 0 ≤ ix ∧ ix ≤ 240) (p0 : 0 ≤ pr ∧ pr ≤ 255) : Rg (layE e c ix pr) := by
  obtain ⟨n0, n8⟩ := old_rng hG
  have hh := hld_iff.1 (own_hld h0 ho)
  have hx := idx_rng h0 (by omega : c ≤ 4294967295)
  unfold layE
  generalize oldC e = n at n0 n8 ⊢
  refine rg_append ?_ (rg_cons (by omega) rg_nil)
  by_cases hc : 65536 ≤ c
  · have hp : wPair n c = (n * 32 + (c - 65536) / 128 / 256, (c - 65536) / 128 % 256, true) := by unfold wPair; rw [if_pos ⟨n0, n8, hc, h1⟩]
    rw [hp, if_pos rfl]
    refine rg_cons p0 (rg_cons ?_ (rg_cons ?_ rg_nil)) <;> (simp only; omega)
  · have hp : (wPair n c).2.2 = false := by unfold wPair; rw [if_neg (by omega)]
    rw [hp, if_neg (by simp)]
    exact rg_cons (by omega) (rg_cons hx rg_nil)
theorem single_rg {e : E} {c d : Int} (hG : EG e) (h0 : 0 ≤ c) (h1 : c ≤ 1114111) : Rg (singleC e c d).2 := by
  unfold singleC
  cases hs : simpleC e c with
  | some bs => exact simple_rg h0 hs
  | none =>
    simp only
    by_cases hf : (wFind e.o c).2 = true
    · rw [if_pos hf]
      obtain ⟨f0, f8, fh⟩ := find_spec hG hf
      rw [hld_iff] at fh
      split
      · exact rg_cons (by omega) (rg_cons (by omega) rg_nil)
      · exact rg_cons (by omega) (rg_cons (by omega) rg_nil)
    · rw [if_neg hf]
      split
      · rename_i hst
        simp only [Bool.and_eq_true] at hst
        obtain ⟨s0, s8, s1, s2, s3⟩ := static_spec hst.2
        rw [hld_iff] at s3
        exact rg_cons (by omega) (rg_cons (by omega) rg_nil)
      · split
        · rename_i hst htw
          have hown : (ownC c).2 = true := by
            simp only [Bool.or_eq_true, Bool.and_eq_true, decide_eq_true_eq] at htw
            rcases htw with h1 | h1
            · exact own_of_twins h1
            · exact own_of_big h1.1
          exact lay_rg hG h0 h1 hown (by decide) (by decide)
        · split
          · rename_i hq
            simp only [Bool.and_eq_true, decide_eq_true_eq] at hq
            exact rg_cons (by omega) (rg_cons (by omega) (rg_cons (by omega) rg_nil))
          · exact rg_cons (by omega) (units_rg h0 h1)
theorem work_rg {e : E} {c d : Int} (hG : EG e) (h0 : 0 ≤ c) (h1 : c ≤ 1114111) : Rg (workC e c d).2 := by
  have hG2 : EG { e with beh := true } := hG.same rfl rfl rfl
  unfold workC
  split
  · exact rg_cons (by decide) (rg_cons (by decide) (rg_cons (by decide) rg_nil))
  · split
    · split
      · exact units_rg h0 h1
      · cases hs : simpleC { e with beh := true } c with
        | some bs => exact simple_rg h0 hs
        | none => exact rg_cons (by decide) (units_rg h0 h1)
    · split
      · exact single_rg hG2 h0 h1
      · split
        · have hba := (hG.back (c := c)).act
          refine rg_cons (by omega) ?_
          cases hs : simpleC (backC e c) c with
          | some bs => exact simple_rg h0 hs
          | none => exact rg_nil
        · split
          · rename_i htw
            exact lay_rg hG2 h0 h1 (own_of_twins htw) (by decide) (by decide)
          · exact units_rg h0 h1
theorem total_rg : ∀ {cs : List Int} {e : E}, EG e → (e.wt = 2147483648 ∨ 0 ≤ e.wt ∧ e.wt ≤ 1114111) → (∀ x ∈ cs, 0 ≤ x ∧ x ≤ 1114111) → Rg (totalM e cs)
  | [], e, hG, hw, _ => by
    by_cases hn : e.wt = 2147483648
    · have hfl : flushC e = (e, []) := by unfold flushC; rw [if_pos hn]
      show Rg ([] ++ (flushC e).2)
      rw [hfl]
      exact rg_nil
    · have hfl : (flushC e).2 = (workC e e.wt 2147483648).2 := by unfold flushC; rw [if_neg hn]
      have hw2 := hw.resolve_left hn
      show Rg ([] ++ (flushC e).2)
      rw [hfl]
      exact work_rg hG hw2.1 hw2.2
  | c :: cs, e, hG, hw, ha => by
    have hc := ha c List.mem_cons_self
    rw [totalM_cons]
    by_cases hn : e.wt = 2147483648
    · have hpc : pushC e c = ({ e with wt := c }, []) := by unfold pushC; rw [if_pos hn]
      rw [hpc]
      exact total_rg (cs := cs) (e := { e with wt := c }) (hG.same rfl rfl rfl) (.inr hc) (fun y hy => ha y (List.mem_cons_of_mem _ hy))
    · have hpc : pushC e c = ({ (workC e e.wt c).1 with wt := c }, (workC e e.wt c).2) := by unfold pushC; rw [if_neg hn]
      have hw2 := hw.resolve_left hn
      rw [hpc]
      exact rg_append (work_rg hG hw2.1 hw2.2) (total_rg (cs := cs) (e := { (workC e e.wt c).1 with wt := c }) ((hG.work hw2.1 hw2.2).same rfl rfl rfl) (.inr hc) (fun y hy => ha y (List.mem_cons_of_mem _ hy)))
theorem text_rg (pl : Bool) {l : List Int} (ha : ∀ x ∈ l, 0 ≤ x ∧ x ≤ 1114111) : Rg (textC pl l) := total_rg (cs := l) (e := e0 pl) (eg0 pl) (.inl rfl) ha
end Go.Proofs.Ytkfiahildoljfaa.Enc
