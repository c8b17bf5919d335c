/- How long a compressed text is; plain. -/
import Derived.Test.YtkfiahildoljfaaFirst
namespace Go.Proofs.Ytkfiahildoljfaa.Enc
open Go.RowKit Go.Proofs.Ytkfiahildoljfaa.Win Go.Proofs.Ytkfiahildoljfaa.Stp Go.Proofs.Ytkfiahildoljfaa.Lst
set_option linter.unusedVariables false
set_option linter.unusedSimpArgs false
def sumN (f : Int → Nat) : List Int → Nat
  | [] => 0
  | c :: cs => f c + sumN f cs
theorem sumN_snoc (f : Int → Nat) (c : Int) : ∀ l : List Int, sumN f (l ++ [c]) = sumN f l + f c
  | [] => by simp [sumN]
  | x :: l => by rw [List.cons_append]; unfold sumN; rw [sumN_snoc f c l]; omega
def unitN (c : Int) : Nat := if c < 65536 then 1 else 2
def tagN (c : Int) : Nat := if tagB c = true then 1 else 0
theorem unitN_rng (c : Int) : 1 ≤ unitN c ∧ unitN c ≤ 2 := by unfold unitN; split <;> omega
theorem units_size (c : Int) (h0 : 0 ≤ c) : (unitsC c).length = 2 * unitN c + tagN c := by
  unfold unitsC unitN tagN
  by_cases hc : 65536 ≤ c
  · have ht : tagB c = false := by unfold tagB; simp; omega
    rw [if_pos hc, if_neg (show ¬ c < 65536 by omega), ht]
    rfl
  · rw [if_neg hc, if_pos (show c < 65536 by omega)]
    cases tagB c <;> rfl
theorem tag_lo {c : Int} (h : 65536 ≤ c) : tagB c = false := by unfold tagB; simp; omega
theorem lay_size (e : E) (c ix pr : Int) : (layE e c ix pr).length ≤ 3 * unitN c := by
  unfold layE wPair unitN
  by_cases hc : 0 ≤ oldC e ∧ oldC e < 8 ∧ 65536 ≤ c ∧ c ≤ 1114111
  · rw [if_pos hc, if_pos rfl, if_neg (by omega)]
    show (3 + 1 : Nat) ≤ 6
    decide
  · rw [if_neg hc, if_neg (by simp)]
    show (2 + 1 : Nat) ≤ _
    split <;> omega
theorem single_size {e : E} {c d : Int} (h0 : 0 ≤ c) : (singleC e c d).2.length ≤ 3 * unitN c := by
  have hu := unitN_rng c
  unfold singleC
  cases hs : simpleC e c with
  | some bs =>
    have := simple_len hs
    show bs.length ≤ _
    omega
  | none =>
    simp only
    split
    · split
      · show 2 ≤ _; omega
      · show 2 ≤ _; omega
    · split
      · show 2 ≤ _; omega
      · split
        · exact lay_size e c 24 11
        · split
          · show 3 ≤ _; omega
          · rename_i hq
            show (unitsC c).length + 1 ≤ _
            rw [units_size c h0]
            by_cases hc : c < 65536
            · have ht : tagB c = false := by
                cases ht : tagB c with
                | false => rfl
                | true => exfalso; apply hq; rw [decide_eq_true hc, ht]; simp
              unfold tagN unitN
              rw [ht, if_pos hc, if_neg (by simp)]
              decide
            · have ht := tag_lo (c := c) (by omega)
              unfold tagN unitN
              rw [ht, if_neg hc, if_neg (by simp)]
              decide
/-- By the first profile at most three bytes a unit. -/
theorem work_size {e : E} {c d : Int} (hp : e.plain = false) (h0 : 0 ≤ c) : (workC e c d).2.length ≤ 3 * unitN c := by
  have hu := unitN_rng c
  unfold workC
  split
  · show 3 ≤ _; omega
  · rw [if_neg (by rw [hp]; simp)]
    split
    · exact single_size h0
    · split
      · show ((simpleC (backC e c) c).getD []).length + 1 ≤ _
        cases hs : simpleC (backC e c) c with
        | some bs =>
          have := simple_len hs
          show bs.length + 1 ≤ _
          omega
        | none => show 0 + 1 ≤ _; omega
      · split
        · exact lay_size _ c 232 241
        · show (unitsC c).length ≤ _
          rw [units_size c h0]
          have : tagN c ≤ 1 := by unfold tagN; split <;> omega
          omega
theorem single_plain (e : E) (c d : Int) : (singleC e c d).1.plain = e.plain := by
  unfold singleC layM
  split
  · rfl
  · repeat' split
    all_goals rfl
theorem work_plain (e : E) (c d : Int) : (workC e c d).1.plain = e.plain := by
  unfold workC layM backC
  repeat' split
  all_goals first
    | rfl
    | exact single_plain _ _ _
/-- What is left to spend by the plain profile. -/
def spare (e : E) : Nat := (if e.beh = true then 0 else 1) + (if e.uni = true then 0 else 1)
theorem work_size2 {e : E} {c d : Int} (hp : e.plain = true) (h0 : 0 ≤ c) : (workC e c d).2.length + spare (workC e c d).1 ≤ 2 * unitN c + tagN c + spare e := by
  have hu := unitN_rng c
  have key : ∀ u : Bool, (if u = true then 0 else 1 : Nat) ≤ 1 := fun u => by cases u <;> decide
  unfold workC
  split
  · rename_i hm
    have hb : e.beh = false := by
      simp only [Bool.and_eq_true, Bool.not_eq_true'] at hm
      exact hm.1
    show 3 + spare { e with beh := true } ≤ _
    unfold spare
    rw [hb]
    simp only [if_true, Bool.false_eq_true, if_false]
    omega
  · try rw [if_pos hp]
    split
    · rename_i hun
      show (unitsC c).length + spare { e with beh := true } ≤ _
      rw [units_size c h0]
      unfold spare
      simp only [if_true]
      have := key e.beh
      omega
    · rename_i hun
      have hun2 : e.uni = false := by simpa using hun
      cases hs : simpleC { e with beh := true } c with
      | some bs =>
        have := simple_len hs
        show bs.length + spare { e with beh := true } ≤ _
        unfold spare
        simp only [if_true]
        have := key e.beh
        omega
      | none =>
        show (unitsC c).length + 1 + spare { e with beh := true, uni := true } ≤ _
        rw [units_size c h0]
        unfold spare
        rw [hun2]
        simp only [if_true, Bool.false_eq_true, if_false]
        have := key e.beh
        omega
def readL (e : E) (cs : List Int) : List Int := if e.wt = 2147483648 then cs else e.wt :: cs
/-- What is said of each scalar goes for the text. -/
theorem total_size {f : Int → Nat} {x : E → Nat} {pl : Bool} (hx : ∀ (e : E) (c : Int), x { e with wt := c } = x e) (hw : ∀ (e : E) (c d : Int), e.plain = pl → 0 ≤ c → (workC e c d).2.length + x (workC e c d).1 ≤ f c + x e) :
    ∀ {cs : List Int} {e : E}, e.plain = pl → (e.wt = 2147483648 ∨ 0 ≤ e.wt) → (∀ c ∈ cs, 0 ≤ c ∧ c ≤ 1114111) → (totalM e cs).length ≤ sumN f (readL e cs) + x e
  | [], e, hp, hwt, _ => by
    unfold readL
    by_cases hn : e.wt = 2147483648
    · have hfl : flushC e = (e, []) := by unfold flushC; rw [if_pos hn]
      show ([] ++ (flushC e).2).length ≤ _
      rw [hfl]
      exact Nat.zero_le _
    · have hfl : (flushC e).2 = (workC e e.wt 2147483648).2 := by unfold flushC; rw [if_neg hn]
      have := hw e e.wt 2147483648 hp (hwt.resolve_left hn)
      show ([] ++ (flushC e).2).length ≤ _
      rw [hfl, if_neg hn]
      show (workC e e.wt 2147483648).2.length ≤ f e.wt + 0 + x e
      omega
  | c :: cs, e, hp, hwt, ha => by
    have hc := ha c List.mem_cons_self
    have hne : c ≠ 2147483648 := by omega
    rw [totalM_cons]
    unfold readL
    by_cases hn : e.wt = 2147483648
    · have hpc : pushC e c = ({ e with wt := c }, []) := by unfold pushC; rw [if_pos hn]
      have ih := total_size hx hw (cs := cs) (e := { e with wt := c }) hp (.inr hc.1) (fun y hy => ha y (List.mem_cons_of_mem _ hy))
      rw [hx] at ih
      unfold readL at ih
      rw [if_neg (show ¬ c = 2147483648 from hne)] at ih
      rw [hpc, if_pos hn]
      exact ih
    · have hpc : pushC e c = ({ (workC e e.wt c).1 with wt := c }, (workC e e.wt c).2) := by unfold pushC; rw [if_neg hn]
      have h1 := hw e e.wt c hp (hwt.resolve_left hn)
      have ih := total_size hx hw (cs := cs) (e := { (workC e e.wt c).1 with wt := c }) ((work_plain e e.wt c).trans hp) (.inr hc.1) (fun y hy => ha y (List.mem_cons_of_mem _ hy))
      rw [hx] at ih
      unfold readL at ih
      rw [if_neg (show ¬ c = 2147483648 from hne)] at ih
      rw [hpc, if_neg hn, List.length_append]
      have e2 : sumN f (e.wt :: c :: cs) = f e.wt + sumN f (c :: cs) := rfl
      have e3 : ({ (workC e e.wt c).1 with wt := c } : E).wt = c := rfl
      rw [e2]
      show (workC e e.wt c).2.length + (totalM { (workC e e.wt c).1 with wt := c } cs).length ≤ _
      have ih2 : (totalM { (workC e e.wt c).1 with wt := c } cs).length ≤ sumN f (c :: cs) + x (workC e e.wt c).1 := ih
      omega
theorem text_size {l : List Int} (ha : ∀ c ∈ l, 0 ≤ c ∧ c ≤ 1114111) : (textC false l).length ≤ 3 * sumN unitN l := by
  have h := total_size (f := fun c => 3 * unitN c) (x := fun _ => 0) (pl := false) (fun _ _ => rfl) (fun e c d hp h0 => work_size hp h0) (cs := l) (e := e0 false) rfl (.inl rfl) ha
  have e1 : ∀ l : List Int, sumN (fun c => 3 * unitN c) l = 3 * sumN unitN l := by
    intro l
    induction l with
    | nil => rfl
    | cons c cs ih => unfold sumN; rw [ih]; omega
  rw [e1] at h
  exact h
theorem text_size2 {l : List Int} (ha : ∀ c ∈ l, 0 ≤ c ∧ c ≤ 1114111) : (textC true l).length ≤ 2 * sumN unitN l + sumN tagN l + 2 := by
  have h := total_size (f := fun c => 2 * unitN c + tagN c) (x := spare) (pl := true) (fun _ _ => rfl) (fun e c d hp h0 => work_size2 hp h0) (cs := l) (e := e0 true) rfl (.inl rfl) ha
  have e1 : ∀ l : List Int, sumN (fun c => 2 * unitN c + tagN c) l = 2 * sumN unitN l + sumN tagN l := by
    intro l
    induction l with
    | nil => rfl
    | cons c cs ih => unfold sumN; rw [ih]; omega
  rw [e1] at h
  exact h
end Go.Proofs.Ytkfiahildoljfaa.Enc
