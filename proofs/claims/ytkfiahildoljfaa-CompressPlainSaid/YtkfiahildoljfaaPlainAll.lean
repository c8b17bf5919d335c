/- A nil slice argument has no room. How long a compressed text is; plain. What is written are bytes; plain. What the compressor writes is read as it was; plain. The plain profile's text; plain. How many units a list has, and how many of them are tagged: the reference's functions. The reference's parts are some bytes of the machine; plain. The reference's text: run, read. The reference's reading. A region of open order by facts on what is listed so far: each operation is shown once. CompressPlain: the plain profile's text. -/
import Derived.Test.YtkfiahildoljfaaOpen
import Derived.Test.YtkfiahildoljfaaFirst
import Derived.Test.YtkfiahildoljfaaSteps
import Derived.Test.YtkfiahildoljfaaRdef
import Derived.Test.YtkfiahildoljfaaRst7
import Derived.Deep.LoopGhost
import Derived.Test.YtkfiahildoljfaaWMore
import Derived.Test.YtkfiahildoljfaaWInv
import Derived.Test.YtkfiahildoljfaaWInvWords
import Derived.Test.YtkfiahildoljfaaWGuard
import Derived.Deep.RegionWith
import Derived.Deep.CutBlock
import Derived.Deep.DeepCutAuto
section
/- A nil slice argument has no room. -/
set_option linter.unusedVariables false
namespace Go.Proofs.Ytkfiahildoljfaa.Open
open Go.ChangeShapes Go.WideShapes Go.RowKit Go.Proofs.YtkfiahildoljfaaW.PrintWords
section
variable {H : Type} {enc : TypeId × Value → H} {P : Program} {W : World} {base : Nat} {spare : Nat → Bool} {held : Bool}
theorem arg_nil {t e : TypeId} (ht : P.underlying t = some (.slice e)) {a : Option Addr} {len cap : Nat} {y : DataW H} {ps : List MemPlace} (h : DataW.Trod enc P W base spare held t (.slice a len cap) y ps) : a = none → cap = 0 := by
  obtain ⟨fuel, hf⟩ := h
  rcases Deep.open_slice ht hf with ⟨hcs, _⟩ | ⟨x, l, c, m, n, D, Pl, hcs, _⟩
  · simp [Value.cells] at hcs
    exact fun _ => hcs.2.2
  · simp [Value.cells] at hcs
    intro h
    rw [h] at hcs
    cases hcs.1
end
end Go.Proofs.Ytkfiahildoljfaa.Open
end
section
/- How long a compressed text is; plain. -/
namespace Go.Proofs.Ytkfiahildoljfaa.Enc
open Go.RowKit Go.Proofs.Ytkfiahildoljfaa.Win Go.Proofs.Ytkfiahildoljfaa.Stp Go.Proofs.Ytkfiahildoljfaa.Lst
set_option linter.unusedVariables false
set_option linter.unusedSimpArgs false
def sumN (f : Int → Nat) : List Int → Nat
  | [] => 0
  | c :: cs => f c + sumN f cs
theorem sumN_snoc (f : Int → Nat) (c : Int) : ∀ l : List Int, sumN f (l ++ [c]) = sumN f l + f c
  | [] => by simp [sumN]
  | x :: l => by rw [List.cons_append]; unfold sumN; rw [sumN_snoc f c l]; omega
def unitN (c : Int) : Nat := if c < 65536 then 1 else 2
def tagN (c : Int) : Nat := if tagB c = true then 1 else 0
theorem unitN_rng (c : Int) : 1 ≤ unitN c ∧ unitN c ≤ 2 := by unfold unitN; split <;> omega
theorem units_size (c : Int) (h0 : 0 ≤ c) : (unitsC c).length = 2 * unitN c + tagN c := by
  unfold unitsC unitN tagN
  by_cases hc : 65536 ≤ c
  · have ht : tagB c = false := by unfold tagB; simp; omega
    rw [if_pos hc, if_neg (show ¬ c < 65536 by omega), ht]
    rfl
  · rw [if_neg hc, if_pos (show c < 65536 by omega)]
    cases tagB c <;> rfl
theorem tag_lo {c : Int} (h : 65536 ≤ c) : tagB c = false := by unfold tagB; simp; omega
theorem lay_size (e : E) (c ix pr : Int) : (layE e c ix pr).length ≤ 3 * unitN c := by
  unfold layE wPair unitN
  by_cases hc : 0 ≤ oldC e ∧ oldC e < 8 ∧ 65536 ≤ c ∧ c ≤ 1114111
  · rw [if_pos hc, if_pos rfl, if_neg (by omega)]
    show (3 + 1 : Nat) ≤ 6
    decide
  · rw [if_neg hc, if_neg (by simp)]
    show (2 + 1 : Nat) ≤ _
    split <;> omega
theorem single_size {e : E} {c d : Int} (h0 : 0 ≤ c) : (singleC e c d).2.length ≤ 3 * unitN c := by
  have hu := unitN_rng c
  unfold singleC
  cases hs : simpleC e c with
  | some bs =>
    have := simple_len hs
    show bs.length ≤ _
    omega
  | none =>
    simp only
    split
    · split
      · show 2 ≤ _; omega
      · show 2 ≤ _; omega
    · split
      · show 2 ≤ _; omega
      · split
        · exact lay_size e c 24 11
        · split
          · show 3 ≤ _; omega
          · rename_i hq
            show (unitsC c).length + 1 ≤ _
            rw [units_size c h0]
            by_cases hc : c < 65536
            · have ht : tagB c = false := by
                cases ht : tagB c with
                | false => rfl
                | true => exfalso; apply hq; rw [decide_eq_true hc, ht]; simp
              unfold tagN unitN
              rw [ht, if_pos hc, if_neg (by simp)]
              decide
            · have ht := tag_lo (c := c) (by omega)
              unfold tagN unitN
              rw [ht, if_neg hc, if_neg (by simp)]
              decide
/-- By the first profile at most three bytes a unit. -/
theorem work_size {e : E} {c d : Int} (hp : e.plain = false) (h0 : 0 ≤ c) : (workC e c d).2.length ≤ 3 * unitN c := by
  have hu := unitN_rng c
  unfold workC
  split
  · show 3 ≤ _; omega
  · rw [if_neg (by rw [hp]; simp)]
    split
    · exact single_size h0
    · split
      · show ((simpleC (backC e c) c).getD []).length + 1 ≤ _
        cases hs : simpleC (backC e c) c with
        | some bs =>
          have := simple_len hs
          show bs.length + 1 ≤ _
          omega
        | none => show 0 + 1 ≤ _; omega
      · split
        · exact lay_size _ c 232 241
        · show (unitsC c).length ≤ _
          rw [units_size c h0]
          have : tagN c ≤ 1 := by unfold tagN; split <;> omega
          omega
theorem single_plain (e : E) (c d : Int) : (singleC e c d).1.plain = e.plain := by
  unfold singleC layM
  split
  · rfl
  · repeat' split
    all_goals rfl
theorem work_plain (e : E) (c d : Int) : (workC e c d).1.plain = e.plain := by
  unfold workC layM backC
  repeat' split
  all_goals first
    | rfl
    | exact single_plain _ _ _
/-- What is left to spend by the plain profile. -/
def spare (e : E) : Nat := (if e.beh = true then 0 else 1) + (if e.uni = true then 0 else 1)
theorem work_size2 {e : E} {c d : Int} (hp : e.plain = true) (h0 : 0 ≤ c) : (workC e c d).2.length + spare (workC e c d).1 ≤ 2 * unitN c + tagN c + spare e := by
  have hu := unitN_rng c
  have key : ∀ u : Bool, (if u = true then 0 else 1 : Nat) ≤ 1 := fun u => by cases u <;> decide
  unfold workC
  split
  · rename_i hm
    have hb : e.beh = false := by
      simp only [Bool.and_eq_true, Bool.not_eq_true'] at hm
      exact hm.1
    show 3 + spare { e with beh := true } ≤ _
    unfold spare
    rw [hb]
    simp only [if_true, Bool.false_eq_true, if_false]
    omega
  · try rw [if_pos hp]
    split
    · rename_i hun
      show (unitsC c).length + spare { e with beh := true } ≤ _
      rw [units_size c h0]
      unfold spare
      simp only [if_true]
      have := key e.beh
      omega
    · rename_i hun
      have hun2 : e.uni = false := by simpa using hun
      cases hs : simpleC { e with beh := true } c with
      | some bs =>
        have := simple_len hs
        show bs.length + spare { e with beh := true } ≤ _
        unfold spare
        simp only [if_true]
        have := key e.beh
        omega
      | none =>
        show (unitsC c).length + 1 + spare { e with beh := true, uni := true } ≤ _
        rw [units_size c h0]
        unfold spare
        rw [hun2]
        simp only [if_true, Bool.false_eq_true, if_false]
        have := key e.beh
        omega
def readL (e : E) (cs : List Int) : List Int := if e.wt = 2147483648 then cs else e.wt :: cs
/-- What is said of each scalar goes for the text. -/
theorem total_size {f : Int → Nat} {x : E → Nat} {pl : Bool} (hx : ∀ (e : E) (c : Int), x { e with wt := c } = x e) (hw : ∀ (e : E) (c d : Int), e.plain = pl → 0 ≤ c → (workC e c d).2.length + x (workC e c d).1 ≤ f c + x e) :
    ∀ {cs : List Int} {e : E}, e.plain = pl → (e.wt = 2147483648 ∨ 0 ≤ e.wt) → (∀ c ∈ cs, 0 ≤ c ∧ c ≤ 1114111) → (totalM e cs).length ≤ sumN f (readL e cs) + x e
  | [], e, hp, hwt, _ => by
    unfold readL
    by_cases hn : e.wt = 2147483648
    · have hfl : flushC e = (e, []) := by unfold flushC; rw [if_pos hn]
      show ([] ++ (flushC e).2).length ≤ _
      rw [hfl]
      exact Nat.zero_le _
    · have hfl : (flushC e).2 = (workC e e.wt 2147483648).2 := by unfold flushC; rw [if_neg hn]
      have := hw e e.wt 2147483648 hp (hwt.resolve_left hn)
      show ([] ++ (flushC e).2).length ≤ _
      rw [hfl, if_neg hn]
      show (workC e e.wt 2147483648).2.length ≤ f e.wt + 0 + x e
      omega
  | c :: cs, e, hp, hwt, ha => by
    have hc := ha c List.mem_cons_self
    have hne : c ≠ 2147483648 := by omega
    rw [totalM_cons]
    unfold readL
    by_cases hn : e.wt = 2147483648
    · have hpc : pushC e c = ({ e with wt := c }, []) := by unfold pushC; rw [if_pos hn]
      have ih := total_size hx hw (cs := cs) (e := { e with wt := c }) hp (.inr hc.1) (fun y hy => ha y (List.mem_cons_of_mem _ hy))
      rw [hx] at ih
      unfold readL at ih
      rw [if_neg (show ¬ c = 2147483648 from hne)] at ih
      rw [hpc, if_pos hn]
      exact ih
    · have hpc : pushC e c = ({ (workC e e.wt c).1 with wt := c }, (workC e e.wt c).2) := by unfold pushC; rw [if_neg hn]
      have h1 := hw e e.wt c hp (hwt.resolve_left hn)
      have ih := total_size hx hw (cs := cs) (e := { (workC e e.wt c).1 with wt := c }) ((work_plain e e.wt c).trans hp) (.inr hc.1) (fun y hy => ha y (List.mem_cons_of_mem _ hy))
      rw [hx] at ih
      unfold readL at ih
      rw [if_neg (show ¬ c = 2147483648 from hne)] at ih
      rw [hpc, if_neg hn, List.length_append]
      have e2 : sumN f (e.wt :: c :: cs) = f e.wt + sumN f (c :: cs) := rfl
      have e3 : ({ (workC e e.wt c).1 with wt := c } : E).wt = c := rfl
      rw [e2]
      show (workC e e.wt c).2.length + (totalM { (workC e e.wt c).1 with wt := c } cs).length ≤ _
      have ih2 : (totalM { (workC e e.wt c).1 with wt := c } cs).length ≤ sumN f (c :: cs) + x (workC e e.wt c).1 := ih
      omega
theorem text_size {l : List Int} (ha : ∀ c ∈ l, 0 ≤ c ∧ c ≤ 1114111) : (textC false l).length ≤ 3 * sumN unitN l := by
  have h := total_size (f := fun c => 3 * unitN c) (x := fun _ => 0) (pl := false) (fun _ _ => rfl) (fun e c d hp h0 => work_size hp h0) (cs := l) (e := e0 false) rfl (.inl rfl) ha
  have e1 : ∀ l : List Int, sumN (fun c => 3 * unitN c) l = 3 * sumN unitN l := by
    intro l
    induction l with
    | nil => rfl
    | cons c cs ih => unfold sumN; rw [ih]; omega
  rw [e1] at h
  exact h
theorem text_size2 {l : List Int} (ha : ∀ c ∈ l, 0 ≤ c ∧ c ≤ 1114111) : (textC true l).length ≤ 2 * sumN unitN l + sumN tagN l + 2 := by
  have h := total_size (f := fun c => 2 * unitN c + tagN c) (x := spare) (pl := true) (fun _ _ => rfl) (fun e c d hp h0 => work_size2 hp h0) (cs := l) (e := e0 true) rfl (.inl rfl) ha
  have e1 : ∀ l : List Int, sumN (fun c => 2 * unitN c + tagN c) l = 2 * sumN unitN l + sumN tagN l := by
    intro l
    induction l with
    | nil => rfl
    | cons c cs ih => unfold sumN; rw [ih]; omega
  rw [e1] at h
  exact h
end Go.Proofs.Ytkfiahildoljfaa.Enc
end
section
/- What is written are bytes; plain. -/
namespace Go.Proofs.Ytkfiahildoljfaa.Enc
open Go.RowKit Go.Proofs.Ytkfiahildoljfaa.Win Go.Proofs.Ytkfiahildoljfaa.Stp Go.Proofs.Ytkfiahildoljfaa.Lst
set_option linter.unusedVariables false
set_option linter.unusedSimpArgs false
def Rg (bs : List Int) : Prop := ∀ x ∈ bs, 0 ≤ x ∧ x ≤ 255
theorem rg_nil : Rg [] := fun x hx => by cases hx
theorem rg_cons {x : Int} {bs : List Int} (h : 0 ≤ x ∧ x ≤ 255) (h2 : Rg bs) : Rg (x :: bs) := fun y hy => by
  rcases List.mem_cons.1 hy with rfl | hy
  · exact h
  · exact h2 y hy
theorem rg_append {a b : List Int} (h : Rg a) (h2 : Rg b) : Rg (a ++ b) := fun y hy => by
  rcases List.mem_append.1 hy with hy | hy
  · exact h y hy
  · exact h2 y hy
theorem units_rg {c : Int} (h0 : 0 ≤ c) (h1 : c ≤ 1114111) : Rg (unitsC c) := by
  unfold unitsC
  split
  · exact rg_cons (by omega) (rg_cons (by omega) (rg_cons (by omega) (rg_cons (by omega) rg_nil)))
  · refine rg_append ?_ (rg_cons (by omega) (rg_cons (by omega) rg_nil))
    split
    · exact rg_cons (by omega) rg_nil
    · exact rg_nil
theorem simple_rg {e : E} {c : Int} {bs : List Int} (h0 : 0 ≤ c) (hs : simpleC e c = some bs) : Rg bs := by
  unfold simpleC at hs
  split at hs
  · rename_i hp
    rw [passB_iff] at hp
    injection hs with hs; subst hs
    exact rg_cons (by omega) rg_nil
  · split at hs
    · injection hs with hs; subst hs
      exact rg_cons (by omega) (rg_cons (by omega) rg_nil)
    · split at hs
      · rename_i hh
        rw [hld_iff] at hh
        injection hs with hs; subst hs
        exact rg_cons (by omega) rg_nil
      · cases hs
theorem lay_rg {e : E} {c ix pr : Int} (hG : EG e) (h0 : 0 ≤ c) (h1 : c ≤ 1114111) (ho : (ownC c).2 = true) (i0 : 0 ≤ ix ∧ ix ≤ 240) (p0 : 0 ≤ pr ∧ pr ≤ 255) : Rg (layE e c ix pr) := by
  obtain ⟨n0, n8⟩ := old_rng hG
  have hh := hld_iff.1 (own_hld h0 ho)
  have hx := idx_rng h0 (by omega : c ≤ 4294967295)
  unfold layE
  generalize oldC e = n at n0 n8 ⊢
  refine rg_append ?_ (rg_cons (by omega) rg_nil)
  by_cases hc : 65536 ≤ c
  · have hp : wPair n c = (n * 32 + (c - 65536) / 128 / 256, (c - 65536) / 128 % 256, true) := by unfold wPair; rw [if_pos ⟨n0, n8, hc, h1⟩]
    rw [hp, if_pos rfl]
    refine rg_cons p0 (rg_cons ?_ (rg_cons ?_ rg_nil)) <;> (simp only; omega)
  · have hp : (wPair n c).2.2 = false := by unfold wPair; rw [if_neg (by omega)]
    rw [hp, if_neg (by simp)]
    exact rg_cons (by omega) (rg_cons hx rg_nil)
theorem single_rg {e : E} {c d : Int} (hG : EG e) (h0 : 0 ≤ c) (h1 : c ≤ 1114111) : Rg (singleC e c d).2 := by
  unfold singleC
  cases hs : simpleC e c with
  | some bs => exact simple_rg h0 hs
  | none =>
    simp only
    by_cases hf : (wFind e.o c).2 = true
    · rw [if_pos hf]
      obtain ⟨f0, f8, fh⟩ := find_spec hG hf
      rw [hld_iff] at fh
      split
      · exact rg_cons (by omega) (rg_cons (by omega) rg_nil)
      · exact rg_cons (by omega) (rg_cons (by omega) rg_nil)
    · rw [if_neg hf]
      split
      · rename_i hst
        simp only [Bool.and_eq_true] at hst
        obtain ⟨s0, s8, s1, s2, s3⟩ := static_spec hst.2
        rw [hld_iff] at s3
        exact rg_cons (by omega) (rg_cons (by omega) rg_nil)
      · split
        · rename_i hst htw
          have hown : (ownC c).2 = true := by
            simp only [Bool.or_eq_true, Bool.and_eq_true, decide_eq_true_eq] at htw
            rcases htw with h1 | h1
            · exact own_of_twins h1
            · exact own_of_big h1.1
          exact lay_rg hG h0 h1 hown (by decide) (by decide)
        · split
          · rename_i hq
            simp only [Bool.and_eq_true, decide_eq_true_eq] at hq
            exact rg_cons (by omega) (rg_cons (by omega) (rg_cons (by omega) rg_nil))
          · exact rg_cons (by omega) (units_rg h0 h1)
theorem work_rg {e : E} {c d : Int} (hG : EG e) (h0 : 0 ≤ c) (h1 : c ≤ 1114111) : Rg (workC e c d).2 := by
  have hG2 : EG { e with beh := true } := hG.same rfl rfl rfl
  unfold workC
  split
  · exact rg_cons (by decide) (rg_cons (by decide) (rg_cons (by decide) rg_nil))
  · split
    · split
      · exact units_rg h0 h1
      · cases hs : simpleC { e with beh := true } c with
        | some bs => exact simple_rg h0 hs
        | none => exact rg_cons (by decide) (units_rg h0 h1)
    · split
      · exact single_rg hG2 h0 h1
      · split
        · have hba := (hG.back (c := c)).act
          refine rg_cons (by omega) ?_
          cases hs : simpleC (backC e c) c with
          | some bs => exact simple_rg h0 hs
          | none => exact rg_nil
        · split
          · rename_i htw
            exact lay_rg hG2 h0 h1 (own_of_twins htw) (by decide) (by decide)
          · exact units_rg h0 h1
theorem total_rg : ∀ {cs : List Int} {e : E}, EG e → (e.wt = 2147483648 ∨ 0 ≤ e.wt ∧ e.wt ≤ 1114111) → (∀ x ∈ cs, 0 ≤ x ∧ x ≤ 1114111) → Rg (totalM e cs)
  | [], e, hG, hw, _ => by
    by_cases hn : e.wt = 2147483648
    · have hfl : flushC e = (e, []) := by unfold flushC; rw [if_pos hn]
      show Rg ([] ++ (flushC e).2)
      rw [hfl]
      exact rg_nil
    · have hfl : (flushC e).2 = (workC e e.wt 2147483648).2 := by unfold flushC; rw [if_neg hn]
      have hw2 := hw.resolve_left hn
      show Rg ([] ++ (flushC e).2)
      rw [hfl]
      exact work_rg hG hw2.1 hw2.2
  | c :: cs, e, hG, hw, ha => by
    have hc := ha c List.mem_cons_self
    rw [totalM_cons]
    by_cases hn : e.wt = 2147483648
    · have hpc : pushC e c = ({ e with wt := c }, []) := by unfold pushC; rw [if_pos hn]
      rw [hpc]
      exact total_rg (cs := cs) (e := { e with wt := c }) (hG.same rfl rfl rfl) (.inr hc) (fun y hy => ha y (List.mem_cons_of_mem _ hy))
    · have hpc : pushC e c = ({ (workC e e.wt c).1 with wt := c }, (workC e e.wt c).2) := by unfold pushC; rw [if_neg hn]
      have hw2 := hw.resolve_left hn
      rw [hpc]
      exact rg_append (work_rg hG hw2.1 hw2.2) (total_rg (cs := cs) (e := { (workC e e.wt c).1 with wt := c }) ((hG.work hw2.1 hw2.2).same rfl rfl rfl) (.inr hc) (fun y hy => ha y (List.mem_cons_of_mem _ hy)))
theorem text_rg (pl : Bool) {l : List Int} (ha : ∀ x ∈ l, 0 ≤ x ∧ x ≤ 1114111) : Rg (textC pl l) := total_rg (cs := l) (e := e0 pl) (eg0 pl) (.inl rfl) ha
end Go.Proofs.Ytkfiahildoljfaa.Enc
end
section
/- What the compressor writes is read as it was; plain. -/
namespace Go.Proofs.Ytkfiahildoljfaa.Enc
open Go.RowKit Go.Proofs.Ytkfiahildoljfaa.Win Go.Proofs.Ytkfiahildoljfaa.Stp Go.Proofs.Ytkfiahildoljfaa.Lst
open Go.Proofs.Ytkfiahildoljfaa.Mach (M low8)
open Go.Proofs.Ytkfiahildoljfaa.Dec (steps steps_append m0 sgl dbl mor s_hi s_lay s_act s_15 s_quo d_lay d_act m_quo m_lay)
set_option linter.unusedVariables false
set_option linter.unusedSimpArgs false
/-- The reading machine stands as the writing one does. -/
structure Mir (o : List Int) (uni : Bool) (act : Int) (m : M) : Prop where
  o : m.o = o
  uni : m.uni = uni
  act : m.act = act
  beg : m.beg = 0
  up : m.upper = 0
/-- Some bytes are read as a scalar. -/
def Back (m : M) (bs : List Int) (c : Int) (o : List Int) (uni : Bool) (act : Int) : Prop := ∃ m' e, steps m bs = some (m', e) ∧ e = [c] ∧ Mir o uni act m'
theorem steps_cons {m m1 m2 : M} {x : Int} {e e2 xs : List Int} (h : Mach.step m x = some (m1, e)) (h2 : steps m1 xs = some (m2, e2)) : steps m (x :: xs) = some (m2, e ++ e2) := by simp only [steps, h, h2]
theorem back_cons {m m1 : M} {x c act : Int} {bs o : List Int} {uni : Bool} (h : Mach.step m x = some (m1, [])) (h2 : Back m1 bs c o uni act) : Back m (x :: bs) c o uni act := by
  obtain ⟨m', e, q1, q2, q3⟩ := h2
  exact ⟨m', [] ++ e, steps_cons h q1, by simpa using q2, q3⟩
theorem back_one {m m1 : M} {x c act : Int} {o : List Int} {uni : Bool} (h : Mach.step m x = some (m1, [c])) (h2 : Mir o uni act m1) : Back m [x] c o uni act := ⟨m1, [c] ++ [], steps_cons h rfl, by simp, h2⟩
theorem st_six {m : M} (hb : m.beg = 6) (x : Int) : Mach.step m x = some (Mach.whole m (m.first * 256 + x)) := by
  rw [mor (by rw [hb]; decide)]
  unfold Mach.more
  rw [hb, if_neg (by decide), if_neg (by decide), if_neg (by decide), if_neg (by decide), if_neg (by decide)]
theorem wh_up {m : M} {u : Int} (h : m.upper ≠ 0) : Mach.whole m u = ({ m with beg := 0, upper := 0 }, [65536 + m.upper % 1024 * 1024 + u % 1024]) := by unfold Mach.whole; rw [if_pos h]
theorem wh_hi {m : M} {u : Int} (h : m.upper = 0) (hs : 55296 ≤ u ∧ u < 56320) : Mach.whole m u = ({ m with beg := 0, upper := u }, []) := by unfold Mach.whole; rw [if_neg (by simpa using h), if_pos hs]
theorem wh_lo {m : M} {u : Int} (h : m.upper = 0) (hs : ¬ (55296 ≤ u ∧ u < 56320)) : Mach.whole m u = ({ m with beg := 0 }, [u]) := by unfold Mach.whole; rw [if_neg (by simpa using h), if_neg hs]
theorem d_first {m : M} {b : Int} (hb : m.beg = 0) (hu : m.uni = true) (hr : b < 224 ∨ 242 < b) (hf : m.fits b = true) : Mach.step m b = some (({ m with first := b } : M).begin 6 0, []) := by
  rw [dbl hb hu]
  unfold Mach.double
  rw [if_pos hr, if_pos hf]
theorem st_five {m : M} {b : Int} (hb : m.beg = 5) (hf : m.fits b = true) : Mach.step m b = some (({ m with first := b } : M).begin 6 0, []) := by
  rw [mor (by rw [hb]; decide)]
  unfold Mach.more
  rw [hb, if_neg (by decide), if_neg (by decide), if_neg (by decide), if_neg (by decide), if_pos rfl, if_pos hf]
theorem d_240 {m : M} (hb : m.beg = 0) (hu : m.uni = true) : Mach.step m 240 = some (m.begin 5 0, []) := by
  rw [dbl hb hu]
  unfold Mach.double
  rw [if_neg (by decide), if_pos rfl]
theorem s_14 {m : M} (hb : m.beg = 0) (hu : m.uni = false) : Mach.step m 14 = some (m.begin 5 0, []) := by
  rw [sgl hb hu]
  unfold Mach.single
  rw [if_neg (by simp), if_neg (by decide), if_neg (by decide), if_neg (by decide), if_neg (by decide), if_neg (by decide), if_pos rfl]
theorem s_11 {m : M} (hb : m.beg = 0) (hu : m.uni = false) (hup : m.upper = 0) : Mach.step m 11 = some (m.begin 3 0, []) := by
  rw [sgl hb hu]
  unfold Mach.single
  rw [if_neg (by rw [hup]; simp), if_neg (by decide), if_neg (by decide), if_neg (by decide), if_neg (by decide), if_neg (by decide), if_neg (by decide), if_pos rfl]
theorem d_241 {m : M} (hb : m.beg = 0) (hu : m.uni = true) (hup : m.upper = 0) : Mach.step m 241 = some (m.begin 3 0, []) := by
  rw [dbl hb hu]
  unfold Mach.double
  rw [if_neg (by decide), if_neg (by decide), if_neg (by rw [hup]; simp), if_pos rfl]
theorem fits_lo {m : M} {b : Int} (hup : m.upper = 0) (hb : b < 220 ∨ 223 < b) : m.fits b = true := by
  unfold M.fits low8
  rw [hup]
  simp
  omega
theorem fits_up {m : M} {b : Int} (hup : m.upper ≠ 0) (hb : 220 ≤ b ∧ b ≤ 223) : m.fits b = true := by
  unfold M.fits low8
  have h1 : decide (m.upper ≠ 0) = true := by simpa using hup
  rw [h1]
  simp
  omega
/-- A unit behind 0E or F0, or in its first byte. -/
theorem back_unit {m : M} {c act : Int} {o : List Int} {uni : Bool} (hb : m.beg = 6) (hf : m.first = c / 256) (hup : m.upper = 0) (hs : isS c = true) (ho : m.o = o) (hu : m.uni = uni) (ha : m.act = act) : Back m [c % 256] c o uni act := by
  rw [isS_iff] at hs
  have h1 := st_six hb (c % 256)
  rw [show m.first * 256 + c % 256 = c by rw [hf]; omega, wh_lo hup (by omega)] at h1
  exact back_one h1 ⟨ho, hu, ha, rfl, hup⟩
theorem units_back {m : M} {c act : Int} {o : List Int} (h : Mir o true act m) (h0 : 0 ≤ c) (hs : isS c = true) : Back m (unitsC c) c o true act := by
  have hs2 := isS_iff.1 hs
  unfold unitsC
  by_cases hc : 65536 ≤ c
  · rw [if_pos hc]
    obtain ⟨a, ha⟩ : ∃ a, a = 55296 + (c - 65536) / 1024 := ⟨_, rfl⟩
    obtain ⟨b, hb⟩ : ∃ b, b = 56320 + (c - 65536) % 1024 := ⟨_, rfl⟩
    rw [← ha, ← hb]
    have e1 := d_first (b := a / 256) h.beg h.uni (by omega) (fits_lo h.up (by omega))
    have e2 := st_six (m := ({ m with first := a / 256 } : M).begin 6 0) rfl (a % 256)
    rw [show (({ m with first := a / 256 } : M).begin 6 0).first * 256 + a % 256 = a by show a / 256 * 256 + a % 256 = a; omega, wh_hi (show (({ m with first := a / 256 } : M).begin 6 0).upper = 0 from h.up) (by omega)] at e2
    refine back_cons e1 (back_cons e2 ?_)
    have ha0 : a ≠ 0 := by omega
    have e3 := d_first (m := ({ (({ m with first := a / 256 } : M).begin 6 0) with beg := 0, upper := a } : M)) (b := b / 256) rfl h.uni (by omega) (fits_up (by show a ≠ 0; exact ha0) (by omega))
    refine back_cons e3 ?_
    have e4 := st_six (m := ({ ({ (({ m with first := a / 256 } : M).begin 6 0) with beg := 0, upper := a } : M) with first := b / 256 } : M).begin 6 0) rfl (b % 256)
    rw [wh_up (show (({ ({ (({ m with first := a / 256 } : M).begin 6 0) with beg := 0, upper := a } : M) with first := b / 256 } : M).begin 6 0).upper ≠ 0 from ha0)] at e4
    have e5 : 65536 + a % 1024 * 1024 + (b / 256 * 256 + b % 256) % 1024 = c := by omega
    refine back_one (m1 := { (({ ({ (({ m with first := a / 256 } : M).begin 6 0) with beg := 0, upper := a } : M) with first := b / 256 } : M).begin 6 0) with beg := 0, upper := 0 }) ?_ ⟨h.o, h.uni, h.act, rfl, rfl⟩
    rw [e4]
    show some (_, [65536 + a % 1024 * 1024 + (b / 256 * 256 + b % 256) % 1024]) = _
    rw [e5]
  · rw [if_neg hc]
    cases ht : tagB c with
    | true =>
      rw [if_pos rfl]
      have ht2 : 57344 ≤ c ∧ c ≤ 62207 := by unfold tagB at ht; simpa using ht
      refine back_cons (d_240 h.beg h.uni) (back_cons (st_five (m := m.begin 5 0) (b := c / 256) rfl (fits_lo (show (m.begin 5 0).upper = 0 from h.up) (by omega))) ?_)
      exact back_unit rfl rfl h.up hs h.o h.uni h.act
    | false =>
      rw [if_neg (by simp)]
      have ht2 : ¬ (57344 ≤ c ∧ c ≤ 62207) := by unfold tagB at ht; intro hh; simp [hh.1, hh.2] at ht
      refine back_cons (d_first (b := c / 256) h.beg h.uni (by omega) (fits_lo h.up (by omega))) ?_
      exact back_unit rfl rfl h.up hs h.o h.uni h.act
theorem s_pass {m : M} {b : Int} (hb : m.beg = 0) (hu : m.uni = false) (hup : m.upper = 0) (h : passB b = true) : Mach.step m b = some (m, [b]) := by
  rw [passB_iff] at h
  rw [sgl hb hu]
  unfold Mach.single
  rw [if_neg (by rw [hup]; simp; omega), if_neg (by omega), if_pos]
  unfold Mach.pass
  simp only [Bool.or_eq_true, decide_eq_true_eq]
  omega
theorem m_lo {m : M} {b : Int} (h : m.beg = 1) (hb : ¬ 128 ≤ b) : Mach.more m b = some ({ m with beg := 0 }, [(wStatic m.n).1 + b]) := by
  unfold Mach.more
  rw [if_pos h, if_neg hb]
theorem simple_back {e : E} {m : M} {c : Int} {bs : List Int} (h : Mir e.o false e.act m) (h0 : 0 ≤ c) (hs : simpleC e c = some bs) : Back m bs c e.o false e.act := by
  unfold simpleC at hs
  split at hs
  · injection hs with hs; subst hs
    exact back_one (s_pass h.beg h.uni h.up ‹_›) h
  · split at hs
    · injection hs with hs; subst hs
      rename_i h32
      refine back_cons (m1 := m.begin 1 0) (by rw [sgl h.beg h.uni, s_quo h.up (by decide) (by decide)]; rfl) ?_
      have h1 : Mach.step (m.begin 1 0) c = some ({ (m.begin 1 0) with beg := 0 }, [c]) := by
        rw [mor (by unfold M.begin; simp), m_lo rfl (by omega)]
        show some (_, [0 + c]) = _
        rw [Int.zero_add]
      exact back_one h1 ⟨h.o, h.uni, h.act, rfl, h.up⟩
    · split at hs
      · injection hs with hs; subst hs
        rename_i hh
        rw [hld_iff] at hh
        refine back_one (m1 := m) ?_ h
        rw [sgl h.beg h.uni, s_hi h.up (by omega), h.o, h.act]
        congr 3
        omega
      · cases hs
theorem lay_end {m : M} {o : List Int} {act c off : Int} (h : Mir o false act m) (hw : wAt o act = off) (hh : off ≤ c ∧ c - off < 128) : Back m [128 + c - off] c o false act := by
  refine back_one (m1 := m) ?_ h
  rw [sgl h.beg h.uni, s_hi h.up (by omega), h.o, h.act, hw]
  congr 3
  omega
theorem st_two {m : M} {b : Int} (hb : m.beg = 2) (ho : (wOffset b).2 = true) : Mach.step m b = some (({ m with o := m.o.set m.n.toNat (wOffset b).1 } : M).activate m.n, []) := by
  rw [mor (by rw [hb]; decide), m_lay hb, if_pos ho]
theorem st_three {m : M} {b : Int} (hb : m.beg = 3) : Mach.step m b = some ({ m with first := b, beg := 4 }, []) := by
  rw [mor (by rw [hb]; decide)]
  unfold Mach.more
  rw [if_neg (by rw [hb]; decide), if_neg (by rw [hb]; decide), if_pos hb]
theorem st_four {m : M} {b : Int} (hb : m.beg = 4) : Mach.step m b = some (({ m with o := m.o.set (m.first / 32).toNat (65536 + 128 * (m.first % 32 * 256 + b)) } : M).activate (m.first / 32), []) := by
  rw [mor (by rw [hb]; decide)]
  unfold Mach.more
  rw [if_neg (by rw [hb]; decide), if_neg (by rw [hb]; decide), if_neg (by rw [hb]; decide), if_pos hb]
theorem lay_back {e : E} {m : M} {c ix pr : Int} (hG : EG e) (hmo : m.o = e.o) (hup : m.upper = 0) (h0 : 0 ≤ c) (h1 : c ≤ 1114111) (ho : (ownC c).2 = true)
    (hix : ∀ n : Int, 0 ≤ n → n < 8 → Mach.step m (ix + n) = some (m.begin 2 n, [])) (hpr : Mach.step m pr = some (m.begin 3 0, [])) : Back m (layE e c ix pr) c (layM e c).o false (layM e c).act := by
  obtain ⟨n0, n8⟩ := old_rng hG
  have hlo := hG.lo
  have hh := hld_iff.1 (own_hld h0 ho)
  unfold layE layM
  obtain ⟨n, hn⟩ : ∃ n, n = oldC e := ⟨_, rfl⟩
  rw [← hn] at n0 n8 ⊢
  by_cases hc : 65536 ≤ c
  · have hp : wPair n c = (n * 32 + (c - 65536) / 128 / 256, (c - 65536) / 128 % 256, true) := by unfold wPair; rw [if_pos ⟨n0, n8, hc, h1⟩]
    have how : (ownC c).1 = c / 128 * 128 := by unfold ownC; rw [if_pos hc]
    rw [hp, if_pos rfl]
    rw [how] at hh ⊢
    refine back_cons hpr (back_cons (st_three (m := m.begin 3 0) rfl) (back_cons (st_four (m := { (m.begin 3 0) with first := n * 32 + (c - 65536) / 128 / 256, beg := 4 }) rfl) ?_))
    have e1 : (n * 32 + (c - 65536) / 128 / 256) / 32 = n := by omega
    have e2 : 65536 + 128 * ((n * 32 + (c - 65536) / 128 / 256) % 32 * 256 + (c - 65536) / 128 % 256) = c / 128 * 128 := by omega
    refine lay_end ⟨?_, rfl, e1, rfl, hup⟩ (wAt_set2 n0 n8 hlo) hh
    show m.o.set ((n * 32 + (c - 65536) / 128 / 256) / 32).toNat (65536 + 128 * ((n * 32 + (c - 65536) / 128 / 256) % 32 * 256 + (c - 65536) / 128 % 256)) = _
    rw [e1, e2, hmo]
  · have hp : (wPair n c).2.2 = false := by unfold wPair; rw [if_neg (by omega)]
    have hoc : ownC c = ((wOffset (wIndex c).1).1, (wIndex c).2) := by unfold ownC; rw [if_neg hc]
    rw [hp, if_neg (by simp)]
    rw [hoc] at ho hh ⊢
    have hio := (index_own h0 ho).2
    refine back_cons (hix n n0 n8) (back_cons (st_two (m := m.begin 2 n) rfl hio) ?_)
    refine lay_end ⟨?_, rfl, rfl, rfl, hup⟩ (wAt_set2 n0 n8 hlo) hh
    show m.o.set n.toNat (wOffset (wIndex c).1).1 = _
    rw [hmo]
theorem static_eq {c : Int} (h : (staticC c).2.2 = true) : (wStatic (staticC c).1).1 = (staticC c).2.1 := by
  have hs := static_spec h
  unfold staticC at hs ⊢
  by_cases hf : (findFrom c 1 (statics.drop 1)).2 = true
  · rw [if_pos hf] at hs ⊢
    simp only at hs ⊢
    unfold wStatic
    rw [if_pos (by omega)]
  · unfold staticC at h
    rw [if_neg hf] at h
    cases h
theorem single_back {e : E} {m : M} {c d : Int} (hG : EG e) (h : Mir e.o false e.act m) (heu : e.uni = false) (h0 : 0 ≤ c) (hs : isS c = true) : Back m (singleC e c d).2 c (singleC e c d).1.o (singleC e c d).1.uni (singleC e c d).1.act := by
  have hs2 := isS_iff.1 hs
  unfold singleC
  cases hsi : simpleC e c with
  | some bs =>
    simp only
    rw [heu]
    exact simple_back h h0 hsi
  | none =>
    simp only
    by_cases hf : (wFind e.o c).2 = true
    · rw [if_pos hf]
      obtain ⟨f0, f8, fh⟩ := find_spec hG hf
      rw [hld_iff] at fh
      generalize (wFind e.o c).1 = n at f0 f8 fh ⊢
      split
      · have e1 : Mach.step m (16 + n) = some (m.activate n, []) := by
          rw [sgl h.beg h.uni, s_act h.up (by omega) (by omega), show 16 + n - 16 = n by omega]
        show Back m _ c e.o e.uni n
        rw [heu]
        exact back_cons e1 (lay_end ⟨h.o, rfl, rfl, rfl, h.up⟩ rfl fh)
      · have e1 : Mach.step m (1 + n) = some (m.begin 1 n, []) := by
          rw [sgl h.beg h.uni, s_quo h.up (by omega) (by omega), show 1 + n - 1 = n by omega]
        show Back m _ c e.o e.uni e.act
        rw [heu]
        refine back_cons e1 (back_one (m1 := { (m.begin 1 n) with beg := 0 }) ?_ ⟨h.o, h.uni, h.act, rfl, h.up⟩)
        rw [mor (by unfold M.begin; simp), m_quo rfl (by omega)]
        show some (_, [wAt m.o n - 128 + (128 + c - wAt e.o n)]) = _
        rw [h.o]
        congr 3
        omega
    · rw [if_neg hf]
      split
      · rename_i hst
        simp only [Bool.and_eq_true] at hst
        obtain ⟨s0, s8, s1, s2, s3⟩ := static_spec hst.2
        have heq := static_eq hst.2
        rw [hld_iff] at s3
        generalize (staticC c).1 = n at s0 s8 heq ⊢
        generalize (staticC c).2.1 = off at s1 s2 s3 heq ⊢
        have e1 : Mach.step m (1 + n) = some (m.begin 1 n, []) := by
          rw [sgl h.beg h.uni, s_quo h.up (by omega) (by omega), show 1 + n - 1 = n by omega]
        show Back m _ c e.o e.uni e.act
        rw [heu]
        refine back_cons e1 (back_one (m1 := { (m.begin 1 n) with beg := 0 }) ?_ ⟨h.o, h.uni, h.act, rfl, h.up⟩)
        rw [mor (by unfold M.begin; simp), m_lo rfl (by omega)]
        show some (_, [(wStatic n).1 + (c - off)]) = _
        rw [heq]
        congr 3
        omega
      · split
        · rename_i hst htw
          have hown : (ownC c).2 = true := by
            simp only [Bool.or_eq_true, Bool.and_eq_true, decide_eq_true_eq] at htw
            rcases htw with h1 | h1
            · exact own_of_twins h1
            · exact own_of_big h1.1
          refine lay_back hG h.o h.up h0 hs2.2 hown (fun n n0 n8 => ?_) (s_11 h.beg h.uni h.up)
          rw [sgl h.beg h.uni, s_lay h.up (by omega) (by omega), show 24 + n - 24 = n by omega]
        · split
          · rename_i hq
            simp only [Bool.and_eq_true, decide_eq_true_eq] at hq
            show Back m _ c e.o e.uni e.act
            rw [heu]
            refine back_cons (s_14 h.beg h.uni) (back_cons (st_five (m := m.begin 5 0) (b := c / 256) rfl (fits_lo (show (m.begin 5 0).upper = 0 from h.up) (by omega))) ?_)
            exact back_unit rfl rfl h.up hs h.o h.uni h.act
          · exact back_cons (m1 := { m with uni := true }) (by rw [sgl h.beg h.uni, s_15 h.up]) (units_back ⟨h.o, rfl, h.act, h.beg, h.up⟩ h0 hs)
theorem easy_simple {e : E} {c : Int} (hG : EG e) (he : easyB e.o c = true) : ∃ bs, simpleC (backC e c) c = some bs := by
  unfold easyB at he
  unfold simpleC
  by_cases hp : passB c = true
  · exact ⟨_, if_pos hp⟩
  · rw [if_neg hp]
    by_cases h32 : c < 32
    · exact ⟨_, if_pos h32⟩
    · rw [if_neg h32]
      have hf : (wFind e.o c).2 = true := by
        rw [Bool.or_eq_true, decide_eq_true_eq] at he
        rcases he with h | h
        · exact h
        · exact absurd (passB_iff.2 (.inl ⟨by omega, h⟩)) hp
      have ha : (backC e c).act = (wFind e.o c).1 := if_pos hf
      rw [ha]
      exact ⟨_, if_pos (find_spec hG hf).2.2⟩
/-- What is written for a scalar is read as it. -/
theorem work_back {e : E} {m : M} {c d : Int} (hG : EG e) (h : Mir e.o e.uni e.act m) (hb : e.beh = false → e.uni = false) (h0 : 0 ≤ c) (hs : isS c = true) :
    Back m (workC e c d).2 c (workC e c d).1.o (workC e c d).1.uni (workC e c d).1.act := by
  have hs2 := isS_iff.1 hs
  have hG2 : EG { e with beh := true } := hG.same rfl rfl rfl
  unfold workC
  split
  · rename_i hm
    simp only [Bool.and_eq_true, Bool.not_eq_true', beq_iff_eq] at hm
    obtain ⟨hm1, rfl⟩ := hm
    have hu := hb hm1
    show Back m [14, 254, 255] 65279 e.o e.uni e.act
    rw [hu] at h ⊢
    refine back_cons (s_14 h.beg h.uni) (back_cons (st_five (m := m.begin 5 0) (b := 254) rfl (fits_lo (show (m.begin 5 0).upper = 0 from h.up) (by decide))) ?_)
    exact back_unit (c := 65279) rfl rfl h.up hs h.o h.uni h.act
  · split
    · rename_i hpl
      split
      · rename_i hu
        show Back m (unitsC c) c e.o e.uni e.act
        rw [hu] at h ⊢
        exact units_back h h0 hs
      · rename_i hu
        have hu2 : e.uni = false := by simpa using hu
        rw [hu2] at h
        cases hsi : simpleC { e with beh := true } c with
        | some bs =>
          show Back m bs c e.o e.uni e.act
          rw [hu2]
          exact simple_back (e := { e with beh := true }) h h0 hsi
        | none =>
          show Back m (15 :: unitsC c) c e.o true e.act
          exact back_cons (m1 := { m with uni := true }) (by rw [sgl h.beg h.uni, s_15 h.up]) (units_back ⟨h.o, rfl, h.act, h.beg, h.up⟩ h0 hs)
    · split
      · rename_i hu
        have h2 := h
        rw [hu] at h2
        exact single_back (e := { e with beh := true }) hG2 h2 hu h0 hs
      · rename_i hu
        have hu2 : e.uni = true := by simpa using hu
        have h2 := h
        rw [hu2] at h2
        split
        · rename_i he
          simp only [Bool.and_eq_true] at he
          obtain ⟨bs, hbs⟩ := easy_simple hG he.1
          rw [hbs]
          have hba := (hG.back (c := c)).act
          show Back m ((224 + (backC e c).act) :: bs) c (backC e c).o false (backC e c).act
          have e1 : Mach.step m (224 + (backC e c).act) = some (m.activate (backC e c).act, []) := by
            rw [dbl h2.beg h2.uni, d_act h2.up (by omega) (by omega), show 224 + (backC e c).act - 224 = (backC e c).act by omega]
          exact back_cons e1 (simple_back (e := backC e c) ⟨h2.o, rfl, rfl, rfl, h2.up⟩ h0 hbs)
        · split
          · rename_i htw
            refine lay_back hG2 h2.o h2.up h0 hs2.2 (own_of_twins htw) (fun n n0 n8 => ?_) (d_241 h2.beg h2.uni h2.up)
            rw [dbl h2.beg h2.uni, d_lay h2.up (by omega) (by omega), show 232 + n - 232 = n by omega]
          · show Back m (unitsC c) c e.o e.uni e.act
            rw [hu2]
            exact units_back h2 h0 hs
theorem single_beh (e : E) (c d : Int) : (singleC e c d).1.beh = e.beh := by
  unfold singleC layM
  split
  · rfl
  · repeat' split
    all_goals rfl
theorem work_behind (e : E) (c d : Int) : (workC e c d).1.beh = true := by
  unfold workC layM backC
  repeat' split
  all_goals first
    | rfl
    | exact single_beh _ _ _
def readAll (e : E) (cs : List Int) : List Int := if e.wt = 2147483648 then cs else e.wt :: cs
/-- A text is read as it was. -/
theorem total_back : ∀ {cs : List Int} {e : E} {m : M}, EG e → Mir e.o e.uni e.act m → (e.beh = false → e.uni = false) → (e.wt = 2147483648 ∨ 0 ≤ e.wt ∧ isS e.wt = true) → (∀ x ∈ cs, 0 ≤ x ∧ isS x = true) →
    ∃ m' out, steps m (totalM e cs) = some (m', out) ∧ out = readAll e cs ∧ m'.beg = 0 ∧ m'.upper = 0
  | [], e, m, hG, h, hb, hw, _ => by
    unfold readAll
    by_cases hn : e.wt = 2147483648
    · have hfl : flushC e = (e, []) := by unfold flushC; rw [if_pos hn]
      show ∃ m' out, steps m ([] ++ (flushC e).2) = _ ∧ _
      rw [hfl, if_pos hn]
      exact ⟨m, [], rfl, rfl, h.beg, h.up⟩
    · obtain ⟨w0, ws⟩ := hw.resolve_left hn
      have hfl : (flushC e).2 = (workC e e.wt 2147483648).2 := by unfold flushC; rw [if_neg hn]
      obtain ⟨m', out, q1, q2, q3⟩ := work_back (d := 2147483648) hG h hb w0 ws
      show ∃ m' out, steps m ([] ++ (flushC e).2) = _ ∧ _
      rw [hfl, if_neg hn]
      exact ⟨m', out, q1, q2, q3.beg, q3.up⟩
  | c :: cs, e, m, hG, h, hb, hw, ha => by
    have hc := ha c List.mem_cons_self
    have hc2 := isS_iff.1 hc.2
    have hne : c ≠ 2147483648 := by omega
    rw [totalM_cons]
    unfold readAll
    by_cases hn : e.wt = 2147483648
    · have hpc : pushC e c = ({ e with wt := c }, []) := by unfold pushC; rw [if_pos hn]
      rw [hpc, if_pos hn]
      obtain ⟨m', out, q1, q2, q3, q4⟩ := total_back (cs := cs) (e := { e with wt := c }) (m := m) (hG.same rfl rfl rfl) h hb (.inr hc) (fun x hx => ha x (List.mem_cons_of_mem _ hx))
      refine ⟨m', out, q1, ?_, q3, q4⟩
      rw [q2]
      unfold readAll
      rw [if_neg (show ¬ c = 2147483648 from hne)]
    · obtain ⟨w0, ws⟩ := hw.resolve_left hn
      have hpc : pushC e c = ({ (workC e e.wt c).1 with wt := c }, (workC e e.wt c).2) := by unfold pushC; rw [if_neg hn]
      rw [hpc, if_neg hn]
      obtain ⟨m1, o1, q1, q2, q3⟩ := work_back (d := c) hG h hb w0 ws
      have hws := isS_iff.1 ws
      obtain ⟨m', out, p1, p2, p3, p4⟩ := total_back (cs := cs) (e := { (workC e e.wt c).1 with wt := c }) (m := m1) ((hG.work w0 hws.2).same rfl rfl rfl) q3 (fun hh => by rw [show ({ (workC e e.wt c).1 with wt := c } : E).beh = true from work_behind _ _ _] at hh; cases hh) (.inr hc) (fun x hx => ha x (List.mem_cons_of_mem _ hx))
      refine ⟨m', o1 ++ out, steps_append q1 p1, ?_, p3, p4⟩
      rw [p2, q2]
      unfold readAll
      rw [if_neg (show ¬ c = 2147483648 from hne)]
      rfl
theorem text_back (pl : Bool) {l : List Int} (ha : ∀ x ∈ l, 0 ≤ x ∧ isS x = true) : ∃ m', steps m0 (textC pl l) = some (m', l) ∧ m'.beg = 0 ∧ m'.upper = 0 := by
  obtain ⟨m', out, q1, q2, q3, q4⟩ := total_back (cs := l) (e := e0 pl) (m := m0) (eg0 pl) ⟨rfl, rfl, rfl, rfl, rfl⟩ (fun _ => rfl) (.inl rfl) ha
  refine ⟨m', ?_, q3, q4⟩
  have : out = l := q2
  rw [this] at q1
  exact q1
end Go.Proofs.Ytkfiahildoljfaa.Enc
end
section
/- The plain profile's text; plain. -/
namespace Go.Proofs.Ytkfiahildoljfaa.Enc
open Go.RowKit Go.Proofs.Ytkfiahildoljfaa.Win Go.Proofs.Ytkfiahildoljfaa.Stp Go.Proofs.Ytkfiahildoljfaa.Lst
open Go.Proofs.Ytkfiahildoljfaa.Mach (M low8)
open Go.Proofs.Ytkfiahildoljfaa.Dec (steps steps_append m0 sgl dbl mor s_15)
set_option linter.unusedVariables false
set_option linter.unusedSimpArgs false
/-- What stands for itself, or nearly, by the plain profile. -/
def simp0 (c : Int) : Option (List Int) := if passB c = true then some [c] else if c < 32 then some [1, c] else if hld 128 c = true then some [c] else none
def plainT : Bool → Bool → List Int → List Int
  | _, _, [] => []
  | b, u, c :: cs => if (!b && (c == 65279)) = true then [14, 254, 255] ++ plainT true u cs
    else if u = true then unitsC c ++ plainT true true cs
    else match simp0 c with
      | some bs => bs ++ plainT true false cs
      | none => 15 :: unitsC c ++ plainT true true cs
theorem plainT_nil (b u : Bool) : plainT b u [] = [] := by cases b <;> cases u <;> rfl
theorem plainT_cons (b u : Bool) (c : Int) (cs : List Int) : plainT b u (c :: cs) = if (!b && (c == 65279)) = true then [14, 254, 255] ++ plainT true u cs
    else if u = true then unitsC c ++ plainT true true cs
    else match simp0 c with
      | some bs => bs ++ plainT true false cs
      | none => 15 :: unitsC c ++ plainT true true cs := by rw [plainT]
structure PL (e : E) : Prop where
  pl : e.plain = true
  o : e.o = firsts
  act : e.act = 0
theorem simple_plain {e : E} (h : PL e) (c : Int) : simpleC { e with beh := true } c = simp0 c := by
  have hw : wAt e.o e.act = 128 := by rw [h.o, h.act]; decide +kernel
  have e1 : 128 + c - 128 = c := by omega
  unfold simpleC simp0
  show (if _ then _ else if _ then _ else if hld (wAt e.o e.act) c = true then some [128 + c - wAt e.o e.act] else none) = _
  rw [hw, e1]
theorem plain_work {e : E} (h : PL e) (c d : Int) (cs : List Int) :
    PL (workC e c d).1 ∧ (workC e c d).1.beh = true ∧ (workC e c d).2 ++ plainT true (workC e c d).1.uni cs = plainT e.beh e.uni (c :: cs) := by
  have hs := simple_plain h c
  rw [plainT_cons]
  unfold workC
  rw [if_pos h.pl, hs]
  split
  · exact ⟨⟨h.pl, h.o, h.act⟩, rfl, rfl⟩
  · split
    · rename_i hu
      refine ⟨⟨h.pl, h.o, h.act⟩, rfl, ?_⟩
      show unitsC c ++ plainT true e.uni cs = _
      rw [hu]
    · rename_i hu
      have hu2 : e.uni = false := by simpa using hu
      cases simp0 c with
      | some bs =>
        refine ⟨⟨h.pl, h.o, h.act⟩, rfl, ?_⟩
        show bs ++ plainT true e.uni cs = _
        rw [hu2]
      | none => exact ⟨⟨h.pl, h.o, h.act⟩, rfl, rfl⟩
theorem plain_total : ∀ {cs : List Int} {e : E}, PL e → (∀ c ∈ cs, c ≤ 1114111) → totalM e cs = plainT e.beh e.uni (readAll e cs)
  | [], e, h, _ => by
    unfold readAll
    by_cases hn : e.wt = 2147483648
    · have hfl : flushC e = (e, []) := by unfold flushC; rw [if_pos hn]
      show [] ++ (flushC e).2 = _
      rw [hfl, if_pos hn, plainT_nil]
      rfl
    · have hfl : (flushC e).2 = (workC e e.wt 2147483648).2 := by unfold flushC; rw [if_neg hn]
      have := (plain_work h e.wt 2147483648 []).2.2
      show [] ++ (flushC e).2 = _
      rw [hfl, if_neg hn, ← this, plainT_nil]
      simp
  | c :: cs, e, h, ha => by
    have hne : c ≠ 2147483648 := by have := ha c List.mem_cons_self; omega
    rw [totalM_cons]
    unfold readAll
    by_cases hn : e.wt = 2147483648
    · have hpc : pushC e c = ({ e with wt := c }, []) := by unfold pushC; rw [if_pos hn]
      have ih := plain_total (cs := cs) (e := { e with wt := c }) ⟨h.pl, h.o, h.act⟩ (fun y hy => ha y (List.mem_cons_of_mem _ hy))
      unfold readAll at ih
      rw [if_neg (show ¬ c = 2147483648 from hne)] at ih
      rw [hpc, if_pos hn]
      exact ih
    · have hpc : pushC e c = ({ (workC e e.wt c).1 with wt := c }, (workC e e.wt c).2) := by unfold pushC; rw [if_neg hn]
      obtain ⟨h1, h2, h3⟩ := plain_work h e.wt c (c :: cs)
      have ih := plain_total (cs := cs) (e := { (workC e e.wt c).1 with wt := c }) ⟨h1.pl, h1.o, h1.act⟩ (fun y hy => ha y (List.mem_cons_of_mem _ hy))
      unfold readAll at ih
      rw [if_neg (show ¬ c = 2147483648 from hne)] at ih
      rw [hpc, if_neg hn, ← h3]
      show (workC e e.wt c).2 ++ totalM { (workC e e.wt c).1 with wt := c } cs = _
      rw [ih]
      show (workC e e.wt c).2 ++ plainT (workC e e.wt c).1.beh (workC e e.wt c).1.uni (c :: cs) = _
      rw [h2]
theorem text_plain {l : List Int} (ha : ∀ c ∈ l, c ≤ 1114111) : textC true l = plainT false false l :=
  plain_total (cs := l) (e := e0 true) ⟨rfl, rfl, rfl⟩ ha
theorem plain_uni : ∀ cs : List Int, plainT true true cs = cs.flatMap unitsC
  | [] => plainT_nil _ _
  | c :: cs => by
    rw [plainT_cons, if_neg (by simp), if_pos rfl, plain_uni cs, List.flatMap_cons]
theorem simp0_lo {c : Int} (h0 : 0 ≤ c) (h1 : c ≤ 255) : ∃ bs, simp0 c = some bs := by
  unfold simp0
  by_cases hp : passB c = true
  · exact ⟨_, if_pos hp⟩
  · rw [if_neg hp]
    by_cases h32 : c < 32
    · exact ⟨_, if_pos h32⟩
    · rw [if_neg h32]
      have : ¬ (32 ≤ c ∧ c < 128) := fun h => hp (passB_iff.2 (.inl h))
      exact ⟨_, if_pos (hld_iff.2 (by omega))⟩
theorem simp0_hi {c : Int} (h : 255 < c) : simp0 c = none := by
  unfold simp0
  have hp : ¬ passB c = true := by rw [passB_iff]; omega
  rw [if_neg hp, if_neg (by omega), if_neg (by rw [hld_iff]; omega)]
theorem plain_cut : ∀ {pre : List Int} {b : Bool} {c : Int} {cs : List Int}, (∀ x ∈ pre, 0 ≤ x ∧ x ≤ 255) → 255 < c → (b = false → pre = [] → c ≠ 65279) →
    plainT b false (pre ++ c :: cs) = plainT b false pre ++ 15 :: (c :: cs).flatMap unitsC
  | [], b, c, cs, _, hc, hb => by
    rw [plainT_nil]
    show plainT b false (c :: cs) = _
    have e2 : (!b && (c == 65279)) = false := by
      cases b with
      | true => rfl
      | false => simpa using hb rfl rfl
    rw [plainT_cons, if_neg (by rw [e2]; simp), if_neg (by simp), simp0_hi hc]
    show 15 :: unitsC c ++ plainT true true cs = _
    rw [plain_uni, List.flatMap_cons]
    rfl
  | x :: pre, b, c, cs, ha, hc, hb => by
    have hx := ha x List.mem_cons_self
    obtain ⟨bs, hbs⟩ := simp0_lo hx.1 hx.2
    have ih := plain_cut (pre := pre) (b := true) (c := c) (cs := cs) (fun y hy => ha y (List.mem_cons_of_mem _ hy)) hc (fun h => by cases h)
    have e2 : (!b && (x == 65279)) = false := by
      have : (x == 65279) = false := by rw [beq_eq_false_iff_ne]; omega
      rw [this, Bool.and_false]
    rw [List.cons_append, plainT_cons, plainT_cons, if_neg (by rw [e2]; simp), if_neg (by simp), if_neg (by rw [e2]; simp), if_neg (by simp), hbs]
    show bs ++ plainT true false (pre ++ c :: cs) = (bs ++ plainT true false pre) ++ _
    rw [ih, List.append_assoc]
theorem flat_size : ∀ {l : List Int}, (∀ c ∈ l, 0 ≤ c) → (l.flatMap unitsC).length = 2 * sumN unitN l + sumN tagN l
  | [], _ => rfl
  | c :: cs, h => by
    have e1 : sumN unitN (c :: cs) = unitN c + sumN unitN cs := rfl
    have e2 : sumN tagN (c :: cs) = tagN c + sumN tagN cs := rfl
    rw [List.flatMap_cons, List.length_append, units_size c (h c List.mem_cons_self), flat_size (fun x hx => h x (List.mem_cons_of_mem _ hx)), e1, e2]
    omega
theorem flat_back : ∀ {l : List Int} {m : M} {o : List Int} {act : Int}, Mir o true act m → (∀ c ∈ l, 0 ≤ c ∧ isS c = true) → ∃ m' e, steps m (l.flatMap unitsC) = some (m', e) ∧ e = l ∧ Mir o true act m'
  | [], m, o, act, h, _ => ⟨m, [], rfl, rfl, h⟩
  | c :: cs, m, o, act, h, ha => by
    obtain ⟨m1, e1, q1, q2, q3⟩ := units_back h (ha c List.mem_cons_self).1 (ha c List.mem_cons_self).2
    obtain ⟨m2, e2, p1, p2, p3⟩ := flat_back q3 (fun x hx => ha x (List.mem_cons_of_mem _ hx))
    refine ⟨m2, e1 ++ e2, ?_, by rw [q2, p2]; rfl, p3⟩
    rw [List.flatMap_cons]
    exact steps_append q1 p1
theorem rest_back {l : List Int} (ha : ∀ c ∈ l, 0 ≤ c ∧ isS c = true) : ∃ m', steps m0 (15 :: l.flatMap unitsC) = some (m', l) ∧ m'.beg = 0 ∧ m'.upper = 0 := by
  obtain ⟨m', e, q1, q2, q3⟩ := flat_back (m := { m0 with uni := true }) (o := firsts) (act := 0) ⟨rfl, rfl, rfl, rfl, rfl⟩ ha
  have h15 : Mach.step m0 15 = some ({ m0 with uni := true }, []) := by rw [sgl rfl rfl, s_15 rfl]
  have := steps_cons h15 q1
  rw [q2] at this
  exact ⟨m', this, q3.beg, q3.up⟩
end Go.Proofs.Ytkfiahildoljfaa.Enc
end
section
/- How many units a list has, and how many of them are tagged: the reference's functions. -/
namespace Go.Proofs.Ytkfiahildoljfaa.Enc
open Go.RowKit Go.Proofs.Ytkfiahildoljfaa.Win Go.Proofs.Ytkfiahildoljfaa.Stp Go.Proofs.Ytkfiahildoljfaa.Lst
set_option linter.unusedVariables false
set_option linter.unusedSimpArgs false
theorem sumN_take (f : Int → Nat) {l : List Int} {k : Nat} (h : k < l.length) : sumN f (l.take (k + 1)) = sumN f (l.take k) + f (l.getD k 0) := by rw [take_succ' h, sumN_snoc]
theorem sumN_le {f : Int → Nat} {B : Nat} (hf : ∀ c, f c ≤ B) : ∀ l : List Int, sumN f l ≤ B * l.length
  | [] => Nat.zero_le _
  | c :: cs => by
    have h1 := hf c
    have h2 := sumN_le hf cs
    have e : sumN f (c :: cs) = f c + sumN f cs := rfl
    rw [e, List.length_cons, Nat.mul_succ]
    omega
theorem sumN_take_le {f : Int → Nat} {B : Nat} (hf : ∀ c, f c ≤ B) (l : List Int) (k : Nat) (hk : k ≤ l.length) : sumN f (l.take k) ≤ B * k := by
  have := sumN_le hf (l.take k)
  rw [List.length_take, Nat.min_eq_left hk] at this
  exact this
theorem tagN_le (c : Int) : tagN c ≤ 1 := by unfold tagN; split <;> omega
def CntRel (w : World) (f : Int → Nat) (l : List Int) (n i : Value) (wr : World) : Prop := ∃ k z : Nat, k ≤ l.length ∧ i = .int .i64 k ∧ n = .int .i64 z ∧ z = sumN f (l.take k) ∧ Drew w wr
def CntPost (w : World) (n : Nat) (e : Ending) (w' : World) : Prop := e = .returned (.int .i64 n) ∧ Drew w w'
set_option maxHeartbeats 2000000 in
theorem tagged_calls15 {w : World} {A : Option Addr} {c : Nat} {l : List Int} (h : Lst w .u32 A l) (hl : l.length ≤ 1000000) : Calls Try.prog 16 #[.slice A l.length c] w (CntPost w (sumN tagN l)) := by
  have H := Lib.hid h
  clear h
  go_enter Try.func16, Try.ntmps16
  go_wp2_with fail
  go_loopw [3, 4] (fun n i wr => CntRel w tagN l n i wr) (fun _ i _ => l.length - (intOf i).toNat)
  case atStart => exact ⟨0, 0, Nat.zero_le _, rfl, rfl, rfl, Drew.refl _⟩
  case round =>
    obtain ⟨k, z, hk, rfl, rfl, hz, hd⟩ := hrel
    have hzb := sumN_take_le tagN_le l k hk
    rw [← hz] at hzb
    have HD := Lib.hid hd
    have HZ := Lib.hid hz
    clear hd hz
    by_cases hlt : k < l.length
    · obtain ⟨a, rfl, q⟩ := (Lst.drew H.out HD.out) k hlt
      have htk := sumN_take tagN hlt
      generalize l.getD k 0 = x at q htk
      rw [← HZ.out] at htk
      have HTK := Lib.hid htk
      clear htk
      by_cases h1 : 57344 ≤ x
      · by_cases h2 : x ≤ 62207
        · go_wp2_with fail
          go_roundw
          case rel => exact ⟨k + 1, z + 1, hlt, by go_num, by go_num, by rw [HTK.out]; unfold tagN tagB; simp [h1, h2], HD.out⟩
          case measure => simp [intOf]; omega
        · go_wp2_with fail
          go_roundw
          case rel => exact ⟨k + 1, z, hlt, by go_num, rfl, by rw [HTK.out]; unfold tagN tagB; simp [h1, h2], HD.out⟩
          case measure => simp [intOf]; omega
      · go_wp2_with fail
        go_roundw
        case rel => exact ⟨k + 1, z, hlt, by go_num, rfl, by rw [HTK.out]; unfold tagN tagB; simp [h1], HD.out⟩
        case measure => simp [intOf]; omega
    · obtain rfl : k = l.length := by omega
      go_wp2_with fail
      go_ret
      have := HZ.out
      rw [List.take_length] at this
      exact ⟨by rw [this]; rfl, HD.out⟩
set_option maxHeartbeats 2000000 in
theorem units_calls01 {w : World} {A : Option Addr} {c : Nat} {l : List Int} (h : Lst w .u32 A l) (hs : ∀ x ∈ l, isS x = true) (hl : l.length ≤ 1000000) : Calls Try.prog 25 #[.slice A l.length c] w (CntPost w (sumN unitN l)) := by
  have H := Lib.hid h
  have HS := Lib.hid (show ∀ k, k < l.length → isS (l.getD k 0) = true from fun k hk => by
    rw [List.getD_eq_getElem?_getD, List.getElem?_eq_getElem hk]
    exact hs _ (List.getElem_mem _))
  clear h hs
  go_enter Try.func25, Try.ntmps25
  go_wp2_with fail
  go_loopw [3, 4] (fun n i wr => CntRel w unitN l n i wr) (fun _ i _ => l.length - (intOf i).toNat)
  case atStart => exact ⟨0, 0, Nat.zero_le _, rfl, rfl, rfl, Drew.refl _⟩
  case round =>
    obtain ⟨k, z, hk, rfl, rfl, hz, hd⟩ := hrel
    have hzb := sumN_take_le (fun c => (unitN_rng c).2) l k hk
    rw [← hz] at hzb
    have HD := Lib.hid hd
    have HZ := Lib.hid hz
    clear hd hz
    by_cases hlt : k < l.length
    · obtain ⟨a, rfl, q⟩ := (Lst.drew H.out HD.out) k hlt
      have htk := sumN_take unitN hlt
      have his := HS.out k hlt
      generalize l.getD k 0 = x at q htk his
      have hisx := ris_calls x
      rw [his] at hisx
      have HIS := Lib.hid hisx
      rw [← HZ.out] at htk
      have HTK := Lib.hid htk
      clear htk his hisx
      by_cases h1 : 65535 < x
      · go_wp2_with (go_at_call 20; refine (HIS.out _).mono ?_; rintro e w1 ⟨rfl, rfl⟩)
        go_roundw
        case rel => exact ⟨k + 1, z + 2, hlt, by go_num, by go_num, by rw [HTK.out]; unfold unitN; rw [if_neg (by omega)], HD.out⟩
        case measure => simp [intOf]; omega
      · go_wp2_with (go_at_call 20; refine (HIS.out _).mono ?_; rintro e w1 ⟨rfl, rfl⟩)
        go_roundw
        case rel => exact ⟨k + 1, z + 1, hlt, by go_num, by go_num, by rw [HTK.out]; unfold unitN; rw [if_pos (by omega)], HD.out⟩
        case measure => simp [intOf]; omega
    · obtain rfl : k = l.length := by omega
      go_wp2_with fail
      go_ret
      have := HZ.out
      rw [List.take_length] at this
      exact ⟨by rw [this]; rfl, HD.out⟩
theorem units_calls15 {w : World} {A : Option Addr} {c : Nat} {l : List Int} (h : Lst w .u32 A l) (hs : ∀ x ∈ l, isS x = true) (hl : l.length ≤ 1000000) : Calls Try.prog 15 #[.slice A l.length c] w (CntPost w (sumN unitN l)) := by
  have HU := Lib.hid (units_calls01 (c := c) h hs hl)
  clear h hs
  go_enter Try.func15, Try.ntmps15
  go_wp2_with (go_at_call 25; refine HU.out.mono ?_; rintro e w1 ⟨rfl, hd⟩; have HD := Lib.hid hd; clear hd)
  go_ret
  exact ⟨rfl, HD.out⟩
end Go.Proofs.Ytkfiahildoljfaa.Enc
end
section
/- The reference's parts are some bytes of the machine; plain. -/
namespace Go.Proofs.Ytkfiahildoljfaa.Sim
open Go.RowKit Go.Proofs.Ytkfiahildoljfaa.Win Go.Proofs.Ytkfiahildoljfaa.Stp Go.Proofs.Ytkfiahildoljfaa.Mach Go.Proofs.Ytkfiahildoljfaa.Dec
open Go.Proofs.Ytkfiahildoljfaa.Rst (R rwrong rcut runit rlay rpartU rpartS rpart rpush)
set_option linter.unusedVariables false
set_option linter.unusedSimpArgs false
structure Sm (m : M) (t : R) : Prop where
  o : m.o = t.o
  uni : m.uni = t.uni
  act : m.act = t.act
  beg : m.beg = 0
  up : m.upper = t.high
/-- What a part has done. -/
def Did (m : M) (t : R) (l : List Int) (k : Nat) (r : R × Nat) : Prop :=
  (r.1.err = t.err ∧ k < r.2 ∧ r.2 ≤ l.length ∧ ∃ m' e, steps m ((l.drop k).take (r.2 - k)) = some (m', e) ∧ Sm m' r.1 ∧ r.1.out = t.out ++ e) ∨
  (r.1.err = 3 ∧ r.1.pl = (r.2 : Int) ∧ k ≤ r.2 ∧ r.2 < l.length ∧ r.1.out = t.out ∧ ∃ m', steps m ((l.drop k).take (r.2 - k)) = some (m', []) ∧ Mach.step m' (l.getD r.2 0) = none) ∨
  (r.1.err = 4 ∧ r.1.pl = (r.2 : Int) ∧ r.2 = l.length ∧ r.1.out = t.out ∧ ∃ m', steps m (l.drop k) = some (m', []) ∧ m'.beg ≠ 0)
theorem drop_at {l : List Int} {k : Nat} (h : k < l.length) : l.drop k = l.getD k 0 :: l.drop (k + 1) := Lst.drop_cons h
/-- One byte more ahead. -/
theorem did_cons {m m1 : M} {t : R} {l : List Int} {k : Nat} {r : R × Nat} (hk : k < l.length) (h1 : Mach.step m (l.getD k 0) = some (m1, [])) (h : Did m1 t l (k + 1) r) : Did m t l k r := by
  have hd := drop_at hk
  have hst : ∀ n m' e, steps m1 ((l.drop (k + 1)).take n) = some (m', e) → steps m ((l.drop k).take (n + 1)) = some (m', e) := by
    intro n m' e h2
    rw [hd, List.take_succ_cons]
    simp only [steps, h1, h2]
    rfl
  rcases h with ⟨a1, a2, a3, m', e, a4, a5, a6⟩ | ⟨a1, a2, a3, a4, a5, m', a6, a7⟩ | ⟨a1, a2, a3, a4, m', a5, a6⟩
  · refine .inl ⟨a1, by omega, a3, m', e, ?_, a5, a6⟩
    have := hst _ _ _ a4
    rw [show r.2 - (k + 1) + 1 = r.2 - k by omega] at this
    exact this
  · refine .inr (.inl ⟨a1, a2, by omega, a4, a5, m', ?_, a7⟩)
    have := hst _ _ _ a6
    rw [show r.2 - (k + 1) + 1 = r.2 - k by omega] at this
    exact this
  · refine .inr (.inr ⟨a1, a2, a3, a4, m', ?_, a6⟩)
    rw [hd]
    simp only [steps, h1, a5]
    rfl
/-- One byte does it. -/
theorem did_one {m m1 : M} {t t1 : R} {l : List Int} {k : Nat} {e : List Int} (hk : k < l.length) (h1 : Mach.step m (l.getD k 0) = some (m1, e)) (hs : Sm m1 t1) (he : t1.err = t.err) (ho : t1.out = t.out ++ e) : Did m t l k (t1, k + 1) := by
  refine .inl ⟨he, Nat.lt_succ_self k, hk, m1, e, ?_, hs, ho⟩
  show steps m ((l.drop k).take (k + 1 - k)) = some (m1, e)
  rw [drop_at hk, show k + 1 - k = 1 by omega, List.take_succ_cons, List.take_zero]
  simp only [steps, h1]
  simp
theorem did_wrong {m : M} {t : R} {l : List Int} {k : Nat} (hk : k < l.length) (h1 : Mach.step m (l.getD k 0) = none) : Did m t l k (rwrong t k) := by
  refine .inr (.inl ⟨rfl, rfl, Nat.le_refl k, hk, rfl, m, ?_, h1⟩)
  show steps m ((l.drop k).take (k - k)) = some (m, [])
  rw [Nat.sub_self]; rfl
theorem did_cut {m : M} {t : R} {l : List Int} {k : Nat} (hk : l.length ≤ k) (h1 : m.beg ≠ 0) : Did m t l k (rcut t l.length) := by
  refine .inr (.inr ⟨rfl, rfl, rfl, rfl, m, ?_, h1⟩)
  rw [List.drop_eq_nil_of_le hk]; rfl
/-- A unit's second byte, or none. -/
theorem did_second {m : M} {t : R} {l : List Int} {k : Nat} (hb : m.beg = 6) (hf : m.first = l.getD k 0) (hs : m.uni = t.uni) (ho : m.o = t.o) (ha : m.act = t.act) (hu : m.upper = t.high) (hhi : t.high = 0 ∨ 55296 ≤ t.high ∧ t.high < 56320)
    (hlow : low8 (l.getD k 0) = decide (t.high > 0)) (hr : ∀ x ∈ l, 0 ≤ x ∧ x ≤ 255) (hk : k < l.length) :
    Did m t l (k + 1) (if l.length ≤ k + 1 then rcut t l.length
      else if low8 (l.getD k 0) = true then ({ t with out := t.out ++ [65536 + (t.high - 55296) * 1024 + (l.getD k 0 * 256 + l.getD (k + 1) 0) - 56320], high := 0 }, k + 2)
      else if 55296 ≤ l.getD k 0 * 256 + l.getD (k + 1) 0 ∧ l.getD k 0 * 256 + l.getD (k + 1) 0 ≤ 56319 then ({ t with high := l.getD k 0 * 256 + l.getD (k + 1) 0 }, k + 2)
      else ({ t with out := t.out ++ [l.getD k 0 * 256 + l.getD (k + 1) 0] }, k + 2)) := by
  by_cases hl : l.length ≤ k + 1
  · rw [if_pos hl]
    exact did_cut hl (by rw [hb]; decide)
  · rw [if_neg hl]
    have hk1 : k + 1 < l.length := by omega
    have hx := hr (l.getD k 0) (by rw [List.getD_eq_getElem?_getD, List.getElem?_eq_getElem hk]; exact List.getElem_mem _)
    have hy := hr (l.getD (k + 1) 0) (by rw [List.getD_eq_getElem?_getD, List.getElem?_eq_getElem hk1]; exact List.getElem_mem _)
    have hstep : Mach.step m (l.getD (k + 1) 0) = some (whole m (l.getD k 0 * 256 + l.getD (k + 1) 0)) := by
      rw [mor (by rw [hb]; decide)]
      unfold more
      rw [hb, if_neg (by decide), if_neg (by decide), if_neg (by decide), if_neg (by decide), if_neg (by decide), hf]
    generalize l.getD k 0 = x at hf hlow hstep hx ⊢
    obtain ⟨y, hy2⟩ : ∃ y, l.getD (k + 1) 0 = y := ⟨_, rfl⟩
    rw [hy2] at hstep hy ⊢
    by_cases hlo : low8 x = true
    · rw [if_pos hlo]
      have hh : 0 < t.high := by
        rw [hlo] at hlow
        simpa using hlow.symm
      have hxx : 220 ≤ x ∧ x ≤ 223 := by unfold low8 at hlo; simpa using hlo
      have e1 : whole m (x * 256 + y) = ({ m with beg := 0, upper := 0 }, [65536 + (t.high - 55296) * 1024 + (x * 256 + y) - 56320]) := by
        unfold whole
        rw [hu, if_pos (by omega)]
        congr 2
        omega
      rw [e1] at hstep
      subst hy2
      exact did_one hk1 hstep ⟨ho, hs, ha, rfl, rfl⟩ rfl rfl
    · rw [if_neg hlo]
      have hh : t.high = 0 := by
        have : low8 x = false := by simpa using hlo
        rw [this] at hlow
        have : ¬ t.high > 0 := by simpa using hlow.symm
        omega
      by_cases hs1 : 55296 ≤ x * 256 + y ∧ x * 256 + y ≤ 56319
      · rw [if_pos hs1]
        have e1 : whole m (x * 256 + y) = ({ m with beg := 0, upper := x * 256 + y }, []) := by
          unfold whole
          rw [hu, if_neg (by omega), if_pos (by omega)]
        rw [e1] at hstep
        subst hy2
        exact did_one hk1 hstep ⟨ho, hs, ha, rfl, rfl⟩ rfl (by simp)
      · rw [if_neg hs1]
        have e1 : whole m (x * 256 + y) = ({ m with beg := 0 }, [x * 256 + y]) := by
          unfold whole
          rw [hu, if_neg (by omega), if_neg (by omega)]
        rw [e1] at hstep
        subst hy2
        exact did_one hk1 hstep ⟨ho, hs, ha, rfl, hu⟩ rfl rfl
theorem m_low {m : M} {b : Int} (h : m.beg = 1) (hb : ¬ 128 ≤ b) : more m b = some ({ m with beg := 0 }, [(wStatic m.n).1 + b]) := by
  unfold more
  rw [if_pos h, if_neg hb]
theorem more5 {m : M} {b : Int} (h : m.beg = 5) : more m b = if m.fits b = true then some (({ m with first := b } : M).begin 6 0, []) else none := by
  unfold more
  rw [if_neg (by rw [h]; decide), if_neg (by rw [h]; decide), if_neg (by rw [h]; decide), if_neg (by rw [h]; decide), if_pos h]
theorem fits_eq {m : M} {t : R} (hu : m.upper = t.high) (hhi : t.high = 0 ∨ 55296 ≤ t.high ∧ t.high < 56320) (b : Int) : m.fits b = (low8 b == decide (t.high > 0)) := by
  unfold M.fits
  rw [hu]
  congr 1
  rw [Bool.eq_iff_iff]
  simp
  omega
/-- A state behind which a unit comes; how its first byte is taken. -/
theorem did_unit {m : M} {t : R} {l : List Int} {k : Nat} (hs : m.uni = t.uni) (ho : m.o = t.o) (ha : m.act = t.act) (hu : m.upper = t.high) (hhi : t.high = 0 ∨ 55296 ≤ t.high ∧ t.high < 56320) (hr : ∀ x ∈ l, 0 ≤ x ∧ x ≤ 255)
    (hend : l.length ≤ k → m.beg ≠ 0) (hst : k < l.length → Mach.step m (l.getD k 0) = if m.fits (l.getD k 0) = true then some (({ m with first := l.getD k 0 } : M).begin 6 0, []) else none) : Did m t l k (runit t l k) := by
  unfold runit
  by_cases hl : l.length ≤ k
  · rw [if_pos hl]
    exact did_cut hl (hend hl)
  · rw [if_neg hl]
    have hk : k < l.length := by omega
    have h1 := hst hk
    rw [fits_eq hu hhi] at h1
    by_cases hlow : low8 (l.getD k 0) = decide (t.high > 0)
    · rw [if_neg (fun h => h hlow)]
      rw [if_pos (by rw [hlow]; simp)] at h1
      exact did_cons hk h1 (did_second (m := ({ m with first := l.getD k 0 } : M).begin 6 0) rfl rfl hs ho ha hu hhi hlow hr hk)
    · rw [if_pos hlow]
      rw [if_neg (by simpa using hlow)] at h1
      exact did_wrong hk h1
theorem did_lay2 {m : M} {t : R} {l : List Int} {k : Nat} {n : Int} (hn : 0 ≤ n) (hb : m.beg = 2) (hmn : m.n = n) (ho : m.o = t.o) (hu : m.upper = t.high) : Did m t l k (rlay t l k n) := by
  unfold rlay
  by_cases hl : l.length ≤ k
  · rw [if_pos hl]
    exact did_cut hl (by rw [hb]; decide)
  · rw [if_neg hl, if_neg (by omega)]
    have hk : k < l.length := by omega
    have h1 : Mach.step m (l.getD k 0) = _ := (mor (by rw [hb]; decide)).trans (m_lay hb)
    by_cases ho2 : (wOffset (l.getD k 0)).2 = true
    · rw [if_pos ho2]
      rw [if_pos ho2, hmn, ho] at h1
      exact did_one hk h1 ⟨rfl, rfl, rfl, rfl, hu⟩ rfl (by simp)
    · rw [if_neg ho2]
      rw [if_neg ho2] at h1
      exact did_wrong hk h1
theorem did_lay3 {m : M} {t : R} {l : List Int} {k : Nat} (hb : m.beg = 3) (ho : m.o = t.o) (hu : m.upper = t.high) : Did m t l k (rlay t l k (-1)) := by
  unfold rlay
  by_cases hl : l.length ≤ k
  · rw [if_pos hl]
    exact did_cut hl (by rw [hb]; decide)
  · rw [if_neg hl, if_pos (by decide)]
    have hk : k < l.length := by omega
    have h1 : Mach.step m (l.getD k 0) = some ({ m with first := l.getD k 0, beg := 4 }, []) := by
      rw [mor (by rw [hb]; decide)]
      unfold more
      rw [hb, if_neg (by decide), if_neg (by decide), if_pos rfl]
    by_cases hl2 : l.length ≤ k + 1
    · rw [if_pos hl2]
      exact did_cons hk h1 (did_cut hl2 (by show (4 : Int) ≠ 0; decide))
    · rw [if_neg hl2]
      have hk1 : k + 1 < l.length := by omega
      have h2 : Mach.step ({ m with first := l.getD k 0, beg := 4 } : M) (l.getD (k + 1) 0) = some (({ m with first := l.getD k 0, beg := 4, o := m.o.set (l.getD k 0 / 32).toNat (65536 + 128 * (l.getD k 0 % 32 * 256 + l.getD (k + 1) 0)) } : M).activate (l.getD k 0 / 32), []) := by
        rw [mor (show (4 : Int) ≠ 0 by decide)]
        unfold more
        rw [if_neg (show ¬ (4 : Int) = 1 by decide), if_neg (show ¬ (4 : Int) = 2 by decide), if_neg (show ¬ (4 : Int) = 3 by decide), if_pos rfl]
      exact did_cons hk h1 (did_one hk1 h2 ⟨congrArg (fun o => o.set (l.getD k 0 / 32).toNat (65536 + 128 * (l.getD k 0 % 32 * 256 + l.getD (k + 1) 0))) ho, rfl, rfl, rfl, hu⟩ rfl (by simp))
/-- A part, in either mode. -/
theorem did_part {m : M} {t : R} {l : List Int} {k : Nat} (h : Sm m t) (hhi : t.high = 0 ∨ 55296 ≤ t.high ∧ t.high < 56320) (hr : ∀ x ∈ l, 0 ≤ x ∧ x ≤ 255) (hk : k < l.length) : Did m t l k (rpart t l k) := by
  have hx := hr (l.getD k 0) (by rw [List.getD_eq_getElem?_getD, List.getElem?_eq_getElem hk]; exact List.getElem_mem _)
  have hupp : (m.upper ≠ 0) ↔ 0 < t.high := by rw [h.up]; omega
  unfold rpart
  cases hu : t.uni with
  | true =>
    rw [if_pos rfl]
    have hmu : m.uni = true := h.uni.trans hu
    have hd : ∀ b, Mach.step m b = double m b := fun b => dbl h.beg hmu
    unfold rpartU
    split
    · rename_i hb
      refine did_unit h.uni h.o h.act h.up hhi hr (fun hl => absurd hl (by omega)) (fun _ => ?_)
      rw [hd]
      unfold double
      rw [if_pos hb]
    · rename_i hb
      split
      · rename_i hq
        refine did_cons (m1 := m.begin 5 0) hk ?_ (did_unit (m := m.begin 5 0) h.uni h.o h.act h.up hhi hr (fun _ => by unfold M.begin; simp) (fun _ => ?_))
        · rw [hd]
          unfold double
          rw [if_neg hb, if_pos hq]
        · rw [mor (by unfold M.begin; simp), more5 rfl]
      · rename_i hq
        split
        · rename_i hw
          refine did_wrong hk ?_
          rw [hd]
          unfold double
          rw [if_neg hb, if_neg hq, if_pos (by rw [hupp]; exact hw)]
        · rename_i hw
          split
          · rename_i h241
            refine did_cons (m1 := m.begin 3 0) hk ?_ (did_lay3 (m := m.begin 3 0) rfl h.o h.up)
            rw [hd]
            unfold double
            rw [if_neg hb, if_neg hq, if_neg (by rw [hupp]; exact hw), if_pos h241]
          · rename_i h241
            split
            · rename_i h232
              refine did_cons (m1 := m.begin 2 (l.getD k 0 - 232)) hk ?_ (did_lay2 (m := m.begin 2 (l.getD k 0 - 232)) (by omega) rfl rfl h.o h.up)
              rw [hd]
              unfold double
              rw [if_neg hb, if_neg hq, if_neg (by rw [hupp]; exact hw), if_neg h241, if_pos h232]
            · rename_i h232
              refine did_one (m1 := m.activate (l.getD k 0 - 224)) (e := []) hk ?_ ⟨h.o, rfl, rfl, rfl, h.up⟩ rfl (by simp)
              rw [hd]
              unfold double
              rw [if_neg hb, if_neg hq, if_neg (by rw [hupp]; exact hw), if_neg h241, if_neg h232]
  | false =>
    rw [if_neg (by simp)]
    have hmu : m.uni = false := h.uni.trans hu
    have hd : ∀ b, Mach.step m b = single m b := fun b => sgl h.beg hmu
    unfold rpartS
    split
    · rename_i h14
      refine did_cons (m1 := m.begin 5 0) hk ?_ (did_unit (m := m.begin 5 0) h.uni h.o h.act h.up hhi hr (fun _ => by unfold M.begin; simp) (fun _ => ?_))
      · rw [hd, h14]
        unfold single
        rw [if_neg (by simp), if_neg (by decide), if_neg (by decide), if_neg (by decide), if_neg (by decide), if_neg (by decide), if_pos rfl]
      · rw [mor (by unfold M.begin; simp), more5 rfl]
    · rename_i h14
      split
      · rename_i hw
        refine did_wrong hk ?_
        rw [hd]
        unfold single
        rw [if_pos]
        rcases hw with hw | hw
        · exact .inl ⟨hupp.2 hw, h14⟩
        · exact .inr hw
      · rename_i hw
        have hup0 : m.upper = 0 := by rw [h.up]; omega
        split
        · rename_i h18
          have h1 : Mach.step m (l.getD k 0) = some (m.begin 1 (l.getD k 0 - 1), []) := by rw [hd]; exact s_quo hup0 h18.1 h18.2
          by_cases hl : l.length ≤ k + 1
          · rw [if_pos hl]
            exact did_cons hk h1 (did_cut hl (by unfold M.begin; simp))
          · rw [if_neg hl]
            have hk1 : k + 1 < l.length := by omega
            by_cases hc : l.getD (k + 1) 0 < 128
            · rw [if_pos hc]
              refine did_cons hk h1 (did_one (m1 := { (m.begin 1 (l.getD k 0 - 1)) with beg := 0 }) (e := [(wStatic (l.getD k 0 - 1)).1 + l.getD (k + 1) 0]) hk1 ?_ ⟨h.o, h.uni, h.act, rfl, h.up⟩ rfl rfl)
              rw [mor (by unfold M.begin; simp), m_low rfl (by omega)]
              rfl
            · rw [if_neg hc]
              refine did_cons hk h1 (did_one (m1 := { (m.begin 1 (l.getD k 0 - 1)) with beg := 0 }) (e := [wAt t.o (l.getD k 0 - 1) + l.getD (k + 1) 0 - 128]) hk1 ?_ ⟨h.o, h.uni, h.act, rfl, h.up⟩ rfl rfl)
              rw [mor (by unfold M.begin; simp), m_quo rfl (by omega)]
              have e : wAt (m.begin 1 (l.getD k 0 - 1)).o (m.begin 1 (l.getD k 0 - 1)).n = wAt t.o (l.getD k 0 - 1) := by rw [← h.o]; rfl
              rw [e]
              congr 3
              omega
        · rename_i h18
          split
          · rename_i h11
            refine did_cons (m1 := m.begin 3 0) hk ?_ (did_lay3 (m := m.begin 3 0) rfl h.o h.up)
            rw [hd, h11]
            unfold single
            rw [if_neg (by rw [hup0]; simp), if_neg (by decide), if_neg (by decide), if_neg (by decide), if_neg (by decide), if_neg (by decide), if_neg (by decide), if_pos rfl]
          · rename_i h11
            split
            · rename_i h24
              refine did_cons (m1 := m.begin 2 (l.getD k 0 - 24)) hk ?_ (did_lay2 (m := m.begin 2 (l.getD k 0 - 24)) (by omega) rfl rfl h.o h.up)
              rw [hd]
              exact s_lay hup0 h24.1 h24.2
            · rename_i h24
              split
              · rename_i h16
                refine did_one (m1 := m.activate (l.getD k 0 - 16)) (e := []) hk ?_ ⟨h.o, by rw [hu]; rfl, rfl, rfl, h.up⟩ rfl (by simp)
                rw [hd]
                exact s_act hup0 h16.1 h16.2
              · rename_i h16
                split
                · rename_i h15
                  refine did_one (m1 := { m with uni := true }) (e := []) hk ?_ ⟨h.o, rfl, h.act, h.beg, h.up⟩ rfl (by simp)
                  rw [hd, h15]
                  exact s_15 hup0
                · rename_i h15
                  split
                  · rename_i h128
                    refine did_one (m1 := m) (e := [wAt t.o t.act + l.getD k 0 - 128]) hk ?_ ⟨h.o, h.uni, h.act, h.beg, h.up⟩ rfl rfl
                    rw [hd, s_hi hup0 h128, h.o, h.act]
                  · rename_i h128
                    refine did_one (m1 := m) (e := [l.getD k 0]) hk ?_ ⟨h.o, h.uni, h.act, h.beg, h.up⟩ rfl rfl
                    rw [hd]
                    unfold single
                    have h12 : l.getD k 0 ≠ 12 := fun e => hw (.inr e)
                    rw [if_neg (by rw [hup0]; simp; exact h12), if_neg h128, if_pos]
                    unfold pass
                    simp only [Bool.or_eq_true, decide_eq_true_eq]
                    omega
/-- Where the reference's reading stands. -/
def Way (l : List Int) (t : R) (k : Nat) : Prop :=
  (t.err = 0 ∧ k ≤ l.length ∧ ∃ m, steps m0 (l.take k) = some (m, t.out) ∧ Sm m t) ∨
  (t.err = 3 ∧ t.pl = (k : Int) ∧ k < l.length ∧ ∃ m, steps m0 (l.take k) = some (m, t.out) ∧ Mach.step m (l.getD k 0) = none) ∨
  (t.err = 4 ∧ t.pl = (k : Int) ∧ k = l.length ∧ ∃ m, steps m0 l = some (m, t.out) ∧ m.beg ≠ 0)
theorem way_next {l : List Int} {t : R} {k : Nat} (h : Way l t k) (h0 : t.err = 0) (hhi : t.high = 0 ∨ 55296 ≤ t.high ∧ t.high < 56320) (hr : ∀ x ∈ l, 0 ≤ x ∧ x ≤ 255) (hk : k < l.length) : Way l (rpart t l k).1 (rpart t l k).2 ∧ k ≤ (rpart t l k).2 ∧ (rpart t l k).2 ≤ l.length ∧ ((rpart t l k).1.err = 0 → k < (rpart t l k).2) := by
  rcases h with ⟨_, a2, m, a3, a4⟩ | ⟨a1, _⟩ | ⟨a1, _⟩
  · have hd := did_part a4 hhi hr hk
    generalize rpart t l k = r at hd ⊢
    rcases hd with ⟨b1, b2, b3, m', e, b4, b5, b6⟩ | ⟨b1, b2, b3, b4, b5, m', b6, b7⟩ | ⟨b1, b2, b3, b4, m', b5, b6⟩
    · refine ⟨.inl ⟨by rw [b1, h0], b3, m', ?_, b5⟩, by omega, b3, fun _ => b2⟩
      rw [show r.2 = k + (r.2 - k) by omega, List.take_add, b6]
      exact steps_append a3 b4
    · refine ⟨.inr (.inl ⟨b1, b2, b4, m', ?_, b7⟩), b3, by omega, fun h => absurd (b1.symm.trans h) (by decide)⟩
      rw [show r.2 = k + (r.2 - k) by omega, List.take_add, b5]
      have := steps_append a3 b6
      simpa using this
    · refine ⟨.inr (.inr ⟨b1, b2, b3, m', ?_, b6⟩), by omega, by omega, fun h => absurd (b1.symm.trans h) (by decide)⟩
      have := steps_append a3 b5
      rw [List.take_append_drop] at this
      rw [b4]
      simpa using this
  · rw [h0] at a1; cases a1
  · rw [h0] at a1; cases a1
theorem way_start (l : List Int) (o : List Int) (ho : o = firsts) : Way l { out := [], o := o, act := 0, uni := false, high := 0, err := 0, pl := 0 } 0 := .inl ⟨rfl, Nat.zero_le _, m0, rfl, ⟨ho.symm, rfl, rfl, rfl, rfl⟩⟩
/-- The reference's answer is the machine's. -/
def Same (l : List Int) (t : R) : Prop := ∃ b, Ran l t.out b ∧ b.err = t.err ∧ b.at_ = t.pl
theorem way_wrong {l : List Int} {t : R} {k : Nat} (h : Way l t k) (h0 : t.err ≠ 0) : Same l t := by
  rcases h with ⟨a1, _⟩ | ⟨a1, a2, a3, m, a4, a5⟩ | ⟨a1, a2, a3, m, a4, a5⟩
  · exact absurd a1 h0
  · exact ⟨_, .inr (.inr ⟨k, m, a3, a4, a5, rfl⟩), a1.symm, a2.symm⟩
  · exact ⟨_, .inr (.inl ⟨m, a4, .inl a5, rfl⟩), a1.symm, by rw [a2, a3]⟩
theorem way_end {l : List Int} {t : R} (h : Way l t l.length) (h0 : t.err = 0) : (t.high = 0 → Same l { t with pl := l.length }) ∧ (t.high ≠ 0 → Same l (rcut t l.length).1) := by
  rcases h with ⟨_, a2, m, a3, a4⟩ | ⟨a1, _⟩ | ⟨a1, _⟩
  · rw [List.take_length] at a3
    exact ⟨fun hh => ⟨_, .inl ⟨m, a3, a4.beg, a4.up.trans hh, rfl⟩, h0.symm, rfl⟩, fun hh => ⟨_, .inr (.inl ⟨m, a3, .inr (by rw [a4.up]; exact hh), rfl⟩), rfl, rfl⟩⟩
  · rw [h0] at a1; cases a1
  · rw [h0] at a1; cases a1
theorem ran_one {l o1 o2 : List Int} {b1 b2 : B4} (h1 : Ran l o1 b1) (h2 : Ran l o2 b2) : o1 = o2 ∧ b1 = b2 := by
  rcases h1 with ⟨m, a1, a2, a3, rfl⟩ | ⟨m, a1, a2, rfl⟩ | ⟨k, m, a1, a2, a3, rfl⟩
  · rcases h2 with ⟨m', c1, c2, c3, rfl⟩ | ⟨m', c1, c2, rfl⟩ | ⟨k', m', c1, c2, c3, rfl⟩
    · rw [a1] at c1; simp only [Option.some.injEq, Prod.mk.injEq] at c1; exact ⟨c1.2, rfl⟩
    · rw [a1] at c1; simp only [Option.some.injEq, Prod.mk.injEq] at c1
      obtain ⟨rfl, _⟩ := c1
      rcases c2 with c2 | c2
      · exact absurd a2 c2
      · exact absurd a3 c2
    · have := stop_le c1 c2 c3 (j := l.length) (by rw [List.take_length]; exact a1)
      omega
  · rcases h2 with ⟨m', c1, c2, c3, rfl⟩ | ⟨m', c1, c2, rfl⟩ | ⟨k', m', c1, c2, c3, rfl⟩
    · rw [a1] at c1; simp only [Option.some.injEq, Prod.mk.injEq] at c1
      obtain ⟨rfl, _⟩ := c1
      rcases a2 with a2 | a2
      · exact absurd c2 a2
      · exact absurd c3 a2
    · rw [a1] at c1; simp only [Option.some.injEq, Prod.mk.injEq] at c1; exact ⟨c1.2, rfl⟩
    · have := stop_le c1 c2 c3 (j := l.length) (by rw [List.take_length]; exact a1)
      omega
  · obtain ⟨q1, q2⟩ := ran_stop a1 a2 a3 h2
    exact ⟨q1.symm, q2.symm⟩
structure Inv (m : M) : Prop where
  up : m.upper ≠ 0 → m.beg = 0 ∨ m.beg = 5 ∨ m.beg = 6
  six : m.beg = 6 → low8 m.first = decide (m.upper ≠ 0)
theorem inv_step {m m' : M} {b : Int} {e : List Int} (h : Inv m) (hs : Mach.step m b = some (m', e)) : Inv m' := by
  obtain ⟨h1, h2⟩ := h
  have hf : m.fits b = true → low8 b = decide (m.upper ≠ 0) := fun h => by unfold M.fits at h; simpa using h
  unfold Mach.step at hs
  split at hs
  · unfold more whole at hs
    repeat' split at hs
    all_goals first
      | (cases hs; done)
      | (simp only [Option.some.injEq, Prod.mk.injEq] at hs
         obtain ⟨rfl, _⟩ := hs
         first
         | exact ⟨fun _ => .inl rfl, fun h => absurd h (show ¬ (0 : Int) = 6 by decide)⟩
         | exact ⟨fun h => absurd (h1 h) (by omega), fun h => absurd h (show ¬ (4 : Int) = 6 by decide)⟩
         | exact ⟨fun _ => .inr (.inr rfl), fun _ => hf ‹_›⟩)
  · split at hs
    · unfold double at hs
      repeat' split at hs
      all_goals first
        | (cases hs; done)
        | (simp only [Option.some.injEq, Prod.mk.injEq] at hs
           obtain ⟨rfl, _⟩ := hs
           first
           | exact ⟨fun _ => .inr (.inr rfl), fun _ => hf ‹_›⟩
           | exact ⟨fun _ => .inr (.inl rfl), fun h => absurd h (show ¬ (5 : Int) = 6 by decide)⟩
           | exact ⟨fun h => absurd h (by simp only [M.begin]; omega), fun h => absurd h (show ¬ (3 : Int) = 6 by decide)⟩
           | exact ⟨fun h => absurd h (by simp only [M.begin]; omega), fun h => absurd h (show ¬ (2 : Int) = 6 by decide)⟩
           | exact ⟨fun _ => .inl rfl, fun h => absurd h (show ¬ (0 : Int) = 6 by decide)⟩)
    · unfold single at hs
      have hb : m.beg = 0 := by omega
      repeat' split at hs
      all_goals first
        | (cases hs; done)
        | (simp only [Option.some.injEq, Prod.mk.injEq] at hs
           obtain ⟨rfl, _⟩ := hs
           first
           | exact ⟨h1, h2⟩
           | exact ⟨fun _ => .inr (.inl rfl), fun h => absurd h (show ¬ (5 : Int) = 6 by decide)⟩
           | exact ⟨fun h => absurd h (by simp only [M.begin]; omega), fun h => absurd h (show ¬ (2 : Int) = 6 by decide)⟩
           | exact ⟨fun h => absurd h (by simp only [M.begin]; omega), fun h => absurd h (show ¬ (3 : Int) = 6 by decide)⟩
           | exact ⟨fun h => absurd h (by simp only [M.begin]; omega), fun h => absurd h (show ¬ (1 : Int) = 6 by decide)⟩
           | exact ⟨fun _ => .inl rfl, fun h => absurd h (show ¬ (0 : Int) = 6 by decide)⟩
           | exact ⟨fun _ => .inl hb, fun h => absurd (hb.symm.trans h) (by decide)⟩)
theorem inv_steps {m m' : M} : ∀ {l e : List Int}, Inv m → steps m l = some (m', e) → Inv m' := by
  intro l
  induction l generalizing m with
  | nil =>
    intro e h hs
    simp only [steps, Option.some.injEq, Prod.mk.injEq] at hs
    rw [← hs.1]; exact h
  | cons x xs ih =>
    intro e h hs
    simp only [steps] at hs
    cases hx : Mach.step m x with
    | none => rw [hx] at hs; cases hs
    | some r =>
      obtain ⟨m3, e3⟩ := r
      rw [hx] at hs
      simp only at hs
      cases h2 : steps m3 xs with
      | none => rw [h2] at hs; cases hs
      | some r =>
        obtain ⟨m4, e4⟩ := r
        rw [h2] at hs
        simp only [Option.some.injEq, Prod.mk.injEq] at hs
        obtain ⟨rfl, _⟩ := hs
        exact ih (inv_step h hx) h2
theorem good_steps {m m' : M} : ∀ {l e : List Int}, Mach.Good m → (∀ x ∈ l, 0 ≤ x ∧ x ≤ 255) → steps m l = some (m', e) → Mach.Good m' := by
  intro l
  induction l generalizing m with
  | nil =>
    intro e h _ hs
    simp only [steps, Option.some.injEq, Prod.mk.injEq] at hs
    rw [← hs.1]; exact h
  | cons x xs ih =>
    intro e h hr hs
    simp only [steps] at hs
    cases hx : Mach.step m x with
    | none => rw [hx] at hs; cases hs
    | some r =>
      obtain ⟨m3, e3⟩ := r
      rw [hx] at hs
      simp only at hs
      cases h2 : steps m3 xs with
      | none => rw [h2] at hs; cases hs
      | some r =>
        obtain ⟨m4, e4⟩ := r
        rw [h2] at hs
        simp only [Option.some.injEq, Prod.mk.injEq] at hs
        obtain ⟨rfl, _⟩ := hs
        exact ih (good_step h (hr x List.mem_cons_self).1 (hr x List.mem_cons_self).2 hx) (fun y hy => hr y (List.mem_cons_of_mem _ hy)) h2
theorem inv0 : Inv m0 := ⟨fun h => absurd rfl h, fun h => absurd h (by decide)⟩
/-- A text ends there well. -/
def Ends (m : M) (l : List Int) : Prop := ∃ m' e, steps m l = some (m', e) ∧ m'.beg = 0 ∧ m'.upper = 0
theorem ends_cons {m m1 : M} {x : Int} {xs : List Int} {e : List Int} (h : Mach.step m x = some (m1, e)) (h2 : Ends m1 xs) : Ends m (x :: xs) := by
  obtain ⟨m', e2, q1, q2, q3⟩ := h2
  exact ⟨m', e ++ e2, by simp only [steps, h, q1], q2, q3⟩
theorem ends_nil {m : M} (h1 : m.beg = 0) (h2 : m.upper = 0) : Ends m [] := ⟨m, [], rfl, h1, h2⟩
theorem six_up {m : M} (hb : m.beg = 6) (hu : m.upper ≠ 0) (x : Int) : Ends m [x] := by
  refine ends_cons (m1 := { m with beg := 0, upper := 0 }) (e := [65536 + m.upper % 1024 * 1024 + (m.first * 256 + x) % 1024]) ?_ (ends_nil rfl rfl)
  rw [mor (by rw [hb]; decide)]
  unfold more whole
  rw [if_neg (by rw [hb]; decide), if_neg (by rw [hb]; decide), if_neg (by rw [hb]; decide), if_neg (by rw [hb]; decide), if_neg (by rw [hb]; decide), if_pos hu]
theorem low_220 {m : M} (hu : m.upper ≠ 0) : m.fits 220 = true := by
  unfold M.fits
  have : low8 220 = true := by decide
  rw [this]
  simpa using hu
theorem five_up {m : M} (hb : m.beg = 5) (hu : m.upper ≠ 0) : Ends m [220, 0] := by
  refine ends_cons (m1 := ({ m with first := 220 } : M).begin 6 0) (e := []) ?_ (six_up (m := ({ m with first := 220 } : M).begin 6 0) rfl hu 0)
  rw [mor (by rw [hb]; decide), more5 hb, if_pos (low_220 hu)]
theorem uni_up {m : M} (hb : m.beg = 0) (hn : m.uni = true) (hu : m.upper ≠ 0) : Ends m [220, 0] := by
  refine ends_cons (m1 := ({ m with first := 220 } : M).begin 6 0) (e := []) ?_ (six_up (m := ({ m with first := 220 } : M).begin 6 0) rfl hu 0)
  rw [dbl hb hn]
  unfold double
  rw [if_pos (by decide), if_pos (low_220 hu)]
theorem sgl_up {m : M} (hb : m.beg = 0) (hn : m.uni = false) (hu : m.upper ≠ 0) : Ends m [14, 220, 0] := by
  refine ends_cons (m1 := m.begin 5 0) (e := []) ?_ (five_up rfl hu)
  rw [sgl hb hn]
  unfold single
  rw [if_neg (by simp), if_neg (by decide), if_neg (by decide), if_neg (by decide), if_neg (by decide), if_neg (by decide), if_pos rfl]
theorem six_0 {m : M} (hb : m.beg = 6) (hu : m.upper = 0) (x : Int) : Mach.step m x = some (if 55296 ≤ m.first * 256 + x ∧ m.first * 256 + x < 56320 then ({ m with beg := 0, upper := m.first * 256 + x }, []) else ({ m with beg := 0 }, [m.first * 256 + x])) := by
  rw [mor (by rw [hb]; decide)]
  unfold more whole
  rw [if_neg (by rw [hb]; decide), if_neg (by rw [hb]; decide), if_neg (by rw [hb]; decide), if_neg (by rw [hb]; decide), if_neg (by rw [hb]; decide), if_neg (by rw [hu]; simp)]
def tries : List (List Int) := [[], [1], [1, 1], [14, 220, 0], [220, 0], [0, 14, 220, 0], [0, 220, 0]]
theorem complete {m : M} (hg : Mach.Good m) (hi : Inv m) : ∃ x ∈ tries, Ends m x := by
  have hbeg := hg.beg
  by_cases hu : m.upper = 0
  · have hcs : m.beg = 0 ∨ m.beg = 1 ∨ m.beg = 2 ∨ m.beg = 3 ∨ m.beg = 4 ∨ m.beg = 5 ∨ m.beg = 6 := by omega
    rcases hcs with e | e | e | e | e | e | e
    · exact ⟨[], by simp [tries], ends_nil e hu⟩
    · refine ⟨[1], by simp [tries], ends_cons (m1 := { m with beg := 0 }) (e := [(wStatic m.n).1 + 1]) ?_ (ends_nil rfl hu)⟩
      rw [mor (by rw [e]; decide), m_low e (by decide)]
    · have hw : (wOffset 1).2 = true := by decide +kernel
      refine ⟨[1], by simp [tries], ends_cons (m1 := ({ m with o := m.o.set m.n.toNat (wOffset 1).1 } : M).activate m.n) (e := []) ?_ (ends_nil rfl hu)⟩
      rw [mor (by rw [e]; decide), m_lay e, if_pos hw]
    · refine ⟨[1, 1], by simp [tries], ends_cons (m1 := { m with first := 1, beg := 4 }) (e := []) ?_ (ends_cons (m1 := ({ m with first := 1, beg := 4, o := m.o.set ((1 : Int) / 32).toNat (65536 + 128 * (1 % 32 * 256 + 1)) } : M).activate (1 / 32)) (e := []) ?_ (ends_nil rfl hu))⟩
      · rw [mor (by rw [e]; decide)]
        unfold more
        rw [if_neg (by rw [e]; decide), if_neg (by rw [e]; decide), if_pos e]
      · rw [mor (show (4 : Int) ≠ 0 by decide)]
        unfold more
        rw [if_neg (show ¬ (4 : Int) = 1 by decide), if_neg (show ¬ (4 : Int) = 2 by decide), if_neg (show ¬ (4 : Int) = 3 by decide), if_pos rfl]
    · refine ⟨[1], by simp [tries], ends_cons (m1 := ({ m with o := m.o.set (m.first / 32).toNat (65536 + 128 * (m.first % 32 * 256 + 1)) } : M).activate (m.first / 32)) (e := []) ?_ (ends_nil rfl hu)⟩
      rw [mor (by rw [e]; decide)]
      unfold more
      rw [if_neg (by rw [e]; decide), if_neg (by rw [e]; decide), if_neg (by rw [e]; decide), if_pos e]
    · refine ⟨[1, 1], by simp [tries], ends_cons (m1 := ({ m with first := 1 } : M).begin 6 0) (e := []) ?_ (ends_cons (m1 := { (({ m with first := 1 } : M).begin 6 0) with beg := 0 }) (e := [257]) ?_ (ends_nil rfl hu))⟩
      · rw [mor (by rw [e]; decide), more5 e, if_pos]
        unfold M.fits
        have : low8 1 = false := by decide
        rw [this, hu]
        rfl
      · have h6 := six_0 (m := ({ m with first := 1 } : M).begin 6 0) rfl hu 1
        rw [if_neg (by show ¬ (55296 ≤ (1 : Int) * 256 + 1 ∧ (1 : Int) * 256 + 1 < 56320); decide)] at h6
        exact h6
    · have h1 := six_0 e hu 1
      by_cases hs : 55296 ≤ m.first * 256 + 1 ∧ m.first * 256 + 1 < 56320
      · have h0 := six_0 e hu 0
        rw [if_pos (by omega)] at h0
        have hup : m.first * 256 + 0 ≠ 0 := by omega
        cases hn : m.uni with
        | true => exact ⟨[0, 220, 0], by simp [tries], ends_cons h0 (uni_up rfl hn hup)⟩
        | false => exact ⟨[0, 14, 220, 0], by simp [tries], ends_cons h0 (sgl_up rfl hn hup)⟩
      · rw [if_neg hs] at h1
        exact ⟨[1], by simp [tries], ends_cons h1 (ends_nil rfl hu)⟩
  · rcases hi.up hu with e | e | e
    · cases hn : m.uni with
      | true => exact ⟨[220, 0], by simp [tries], uni_up e hn hu⟩
      | false => exact ⟨[14, 220, 0], by simp [tries], sgl_up e hn hu⟩
    · exact ⟨[220, 0], by simp [tries], five_up e hu⟩
    · exact ⟨[1], by simp [tries], six_up e hu 1⟩
/-- A beginning goes on to an end. -/
theorem goes_on {l out : List Int} {m : M} (hr : ∀ x ∈ l, 0 ≤ x ∧ x ≤ 255) (h : steps m0 l = some (m, out)) : ∃ x ∈ tries, ∃ o b, Ran (l ++ x) o b ∧ b.err = 0 := by
  obtain ⟨x, hx, m', e, q1, q2, q3⟩ := complete (good_steps good0 hr h) (inv_steps inv0 h)
  exact ⟨x, hx, _, _, .inl ⟨m', steps_append h q1, q2, q3, rfl⟩, rfl⟩
end Go.Proofs.Ytkfiahildoljfaa.Sim
end
section
/- The reference's text: run, read. -/
namespace Go.Proofs.Ytkfiahildoljfaa.Rst
open Go.RowKit Go.Proofs.Ytkfiahildoljfaa.Win Go.Proofs.Ytkfiahildoljfaa.Stp Go.Proofs.Ytkfiahildoljfaa.Mach Go.Proofs.Ytkfiahildoljfaa.Sim
set_option linter.unusedVariables false
set_option linter.unusedSimpArgs false
theorem rpart_calls {w : World} {g go rb : Nat} {v : Value} {t : R} (s : ByteArray) (k : Nat) (h : RAt w g go rb v t) (hs : s.size ≤ 100000) (hk : k < s.size) (hl : t.out.length < 1000000) :
    Calls Try.prog 36 #[.pointer (some ⟨g, 0, none⟩), .string s, .int .i64 k] w (RPost w g go rb v (rpart t (byt s) k)) := by
  unfold rpart
  cases hu : t.uni with
  | true => rw [if_pos rfl]; exact rpartU_calls s k h hs hk hl hu
  | false => rw [if_neg (by simp)]; exact rpartS_calls s k h hs hk hl hu
theorem way_len {l : List Int} {t : R} {k : Nat} (h : Sim.Way l t k) : t.out.length ≤ l.length := by
  have key : ∀ {m : M} {e : List Int} {n : Nat}, Dec.steps Dec.m0 (l.take n) = some (m, e) → e.length ≤ l.length := fun h => by
    have := Dec.steps_length h
    rw [List.length_take] at this
    omega
  rcases h with ⟨_, _, m, h, _⟩ | ⟨_, _, _, m, h, _⟩ | ⟨_, _, _, m, h, _⟩
  · exact key h
  · exact key h
  · exact Dec.steps_length h
def t0 : R := { out := [], o := firsts, act := 0, uni := false, high := 0, err := 0, pl := 0 }
def RunRel (w : World) (g go rb : Nat) (s : ByteArray) (gh : Nat) (i : Value) (wr : World) : Prop :=
  ∃ (k : Nat) (v : Value) (t : R), k ≤ s.size ∧ i = .int .i64 k ∧ RAt wr g go rb v t ∧ Sim.Way (byt s) t k ∧ Below w.heap.size w wr ∧ gh = (s.size - k) + (if t.err = 0 then 1 else 0)
def RunMid (w : World) (g go rb : Nat) (s : ByteArray) (wr : World) : Prop :=
  ∃ (k : Nat) (v : Value) (t : R), RAt wr g go rb v t ∧ Sim.Way (byt s) t k ∧ Below w.heap.size w wr ∧ (t.err = 0 → k = s.size)
def RunPost (w : World) (s : ByteArray) (e : Ending) (w' : World) : Prop :=
  ∃ (g go rb : Nat) (v : Value) (t : R), e = .returned (.pointer (some ⟨g, 0, none⟩)) ∧ RAt w' g go rb v t ∧ Sim.Same (byt s) t ∧ Below w.heap.size w w' ∧ w.heap.size ≤ g ∧ w.heap.size ≤ rb
theorem rs_below {w w1 w2 : World} {g go rb : Nat} {v : Value} {t : R} (hb : Below w.heap.size w w1) (h : RAt w1 g go rb v t) (hg : w.heap.size ≤ g) (hgo : w.heap.size ≤ go) (hrb : w.heap.size ≤ rb) (hc : Chg (RS g go v) w1 w2) : Below w.heap.size w w2 :=
  Chg.below hb hc (fun i hi => by
    rcases hi with rfl | rfl | hi
    · exact hg
    · exact hgo
    · have := (h.row.lt i hi).1; omega)
set_option maxHeartbeats 8000000 in
theorem run_calls (s : ByteArray) (w : World) (hs : s.size ≤ 100000) : Calls Try.prog 23 #[.string s] w (RunPost w s) := by
  go_enter Try.func23, Try.ntmps23
  go_wp2_with fail
  refine (rfirsts_calls w).mono ?_
  rintro e w1 ⟨rfl, hrow, hb, hz⟩
  have HRow := Lib.hid hrow
  have HB := Lib.hid hb
  have HZ := Lib.hid hz
  clear hrow hb hz
  go_upto_block 0 with fail
  obtain ⟨w2, hw2⟩ : ∃ w2, w2 = w1.alloc (.cells (rCells t0 (.slice none 0 0) w.heap.size) 58) := ⟨_, rfl⟩
  obtain ⟨g, hg⟩ : ∃ g, g = w1.heap.size := ⟨_, rfl⟩
  have hR : RAt w2 g w.heap.size w2.heap.size (.slice none 0 0) t0 := by
    rw [hw2, hg]
    refine ⟨heap_alloc_new _ _, HRow.out.keep (Below.heap_alloc _ _ _ HZ.out), World.ownsRow_nil _ _ _ _, rfl, Dec.good0.ro, by decide, .inl rfl, by decide, ?_, Nat.le_refl _⟩
    have := HZ.out
    simp
    omega
  have hB2 : Below w.heap.size w w2 := by rw [hw2]; exact HB.out.alloc HB.out.size _
  have hgw : w.heap.size ≤ g := by rw [hg]; exact HB.out.size
  have HR := Lib.hid hR
  have HB2 := Lib.hid hB2
  have HGW := Lib.hid hgw
  have hw2' : w1.alloc (.cells #[.slice none 0 0, .slice (some ⟨w.heap.size, 0, none⟩) 8 8, .int .i64 0, .bool false, .int .u32 0, .int .i64 0, .int .i64 0] 58) = w2 := hw2.symm
  rw [hw2', ← hg]
  clear hR hB2 hgw hw2 hw2' hg
  go_cut [] (fun wx => RunMid w g w.heap.size w2.heap.size s wx)
  case first =>
    go_wp2_with fail
    go_loopg [4] (s.size + 1) (fun gh i wr => RunRel w g w.heap.size w2.heap.size s gh i wr)
    case atStart => exact ⟨0, _, _, Nat.zero_le _, rfl, HR.out, Sim.way_start _ _ rfl, HB2.out, rfl⟩
    case round =>
      obtain ⟨k, v, t, hk, rfl, hR, hW, hB, hgh⟩ := hrel
      have q5 := hR.f5
      have hlen := way_len hW
      rw [byt_length] at hlen
      have HRr := Lib.hid hR
      have HWy := Lib.hid hW
      have HBr := Lib.hid hB
      have HGh := Lib.hid hgh
      clear hR hW hB hgh
      by_cases hlt : k < s.size
      · by_cases he : t.err = 0
        · have hbe : (t.err == 0) = true := by simp [he]
          have hp := rpart_calls s k HRr.out (by omega) hlt (by omega)
          have hn := Sim.way_next HWy.out he HRr.out.hi (Dec.byt_rng s) (by rw [byt_length]; exact hlt)
          have HP := Lib.hid hp
          have HNx := Lib.hid hn
          have HE := Lib.hid he
          clear hp hn he
          go_wp2_with fail
          refine HP.out.mono ?_
          rintro e w3 ⟨rfl, v', hR', hC'⟩
          have hb3 := rs_below HBr.out HRr.out HGW.out (Nat.le_refl _) HB2.out.size hC'
          obtain ⟨n1, n2, n3, n4⟩ := HNx.out
          rw [byt_length] at n3
          generalize rpart t (byt s) k = r at hR' n1 n2 n3 n4
          obtain ⟨t', k'⟩ := r
          simp only at hR' n1 n2 n3 n4
          have HR' := Lib.hid hR'
          have HN1 := Lib.hid n1
          have HN4 := Lib.hid n4
          have HB3 := Lib.hid hb3
          clear hR' n1 n4 hb3 hC'
          go_wp2_with fail
          go_roundg ((s.size - k') + (if t'.err = 0 then 1 else 0))
          case rel => exact ⟨k', v', t', n3, rfl, HR'.out, HN1.out, HB3.out, rfl⟩
          case measure =>
            have h1 := HGh.out
            have h2 := HN4.out
            rw [if_pos HE.out] at h1
            split
            · have := h2 ‹_›; omega
            · omega
        · have hbe : (t.err == 0) = false := by simp [he]
          go_wp2_with fail
          go_meet
          exact ⟨k, v, t, HRr.out, HWy.out, HBr.out, fun h => absurd h he⟩
      · obtain rfl : k = s.size := by omega
        go_wp2_with fail
        go_meet
        exact ⟨s.size, v, t, HRr.out, HWy.out, HBr.out, fun _ => rfl⟩
  case rest =>
    obtain ⟨k, v, t, hR, hW, hB, hend⟩ := hcut
    have q5 := hR.f5
    have q4 := hR.f4
    have HRr := Lib.hid hR
    have HBr := Lib.hid hB
    by_cases he : t.err = 0
    · obtain rfl := hend he
      have hws := Sim.way_end (by rw [byt_length]; exact hW) he
      rw [byt_length] at hws
      have hbe : (t.err == 0) = true := by simp [he]
      have hhi := hR.hi
      by_cases hh : t.high = 0
      · have hhb : decide (0 < t.high) = false := by simp [hh]
        have q6 := hR.f6
        have z6 := hR.fz 6
        have HS := Lib.hid (hws.1 hh)
        clear hR hW hB hend he hh hws hhi
        go_wp2_with fail
        go_ret
        refine ⟨g, _, _, v, { t with pl := s.size }, rfl, HRr.out.set 6 (.int .i64 s.size) rfl rfl rfl HRr.out.ac HRr.out.hi, HS.out, ?_, HGW.out, HB2.out.size⟩
        exact rs_below HBr.out HRr.out HGW.out (Nat.le_refl _) HB2.out.size (rs_g 6 _)
      · have hhb : decide (0 < t.high) = true := by simp; omega
        have HS := Lib.hid (hws.2 hh)
        have hcut := rcut_calls s HRr.out hs
        have HCUT := Lib.hid hcut
        clear hR hW hB hend he hh hws hhi hcut
        go_wp2_with fail
        refine HCUT.out.mono ?_
        rintro e w3 ⟨rfl, v', hR', hC'⟩
        have hb3 := rs_below HBr.out HRr.out HGW.out (Nat.le_refl _) HB2.out.size hC'
        have q5' := hR'.f5
        have HR' := Lib.hid hR'
        have HB3 := Lib.hid hb3
        have hbe2 : ((rcut t s.size).1.err == 0) = false := rfl
        clear hR' hb3 hC'
        go_wp2_with fail
        go_ret
        exact ⟨g, _, _, v', (rcut t s.size).1, rfl, HR'.out, HS.out, HB3.out, HGW.out, HB2.out.size⟩
    · have hbe : (t.err == 0) = false := by simp [he]
      have HS := Lib.hid (Sim.way_wrong hW he)
      clear hR hW hB hend he
      go_wp2_with fail
      go_ret
      exact ⟨g, _, _, v, t, rfl, HRr.out, HS.out, HBr.out, HGW.out, HB2.out.size⟩
end Go.Proofs.Ytkfiahildoljfaa.Rst
end
section
/- The reference's reading. -/
namespace Go.Proofs.Ytkfiahildoljfaa.Rst
open Go.RowKit Go.Proofs.Ytkfiahildoljfaa.Win Go.Proofs.Ytkfiahildoljfaa.Stp Go.Proofs.Ytkfiahildoljfaa.Mach
set_option linter.unusedVariables false
set_option linter.unusedSimpArgs false
def RReadPost (w : World) (s : ByteArray) (e : Ending) (w' : World) : Prop :=
  ∃ (A : Option Addr) (c : Nat) (out : List Int) (b : B4), e = .returned (.tuple #[.slice A out.length c, .int .i64 b.err, .int .i64 b.at_]) ∧ Dec.Ran (Dec.byt s) out b ∧ w'.ownsRow w.heap.size 35 1 (.slice A out.length c) out.length (u32s out) ∧ Below w.heap.size w w'
theorem rread_calls (s : ByteArray) (w : World) (hs : s.size ≤ 100000) : Calls Try.prog 13 #[.string s] w (RReadPost w s) := by
  have HRun := Lib.hid (run_calls s w hs)
  go_enter Try.func13, Try.ntmps13
  go_wp2_with fail
  refine HRun.out.mono ?_
  rintro e w1 ⟨g, go, rb, v, t, rfl, hR, hS, hB, h1, h2⟩
  have q0 := hR.f0
  have q5 := hR.f5
  have q6 := hR.f6
  have HR := Lib.hid hR
  have HS := Lib.hid hS
  have HB := Lib.hid hB
  have H2 := Lib.hid h2
  obtain ⟨A, c, rfl⟩ := Lst.owns_form hR.row
  clear hR hS hB h1 h2
  go_wp2_with fail
  go_quiet (fail)
  go_wp2_with fail
  obtain ⟨b, r1, r2, r3⟩ := HS.out
  refine bodyPost_ret (v := .tuple #[.slice A t.out.length c, .int .i64 t.err, .int .i64 t.pl]) (by simp [results, Try.results13, go_sem]) rfl ⟨A, c, t.out, b, ?_, r1, Dec.own_weaken (HR.out.row) H2.out, below_drewN HB.out _⟩
  rw [r2, r3]
end Go.Proofs.Ytkfiahildoljfaa.Rst
end
section
/- A region of open order by facts on what is listed so far: each operation is shown once. -/
namespace Go.Proofs.Ytkfiahildoljfaa.Phi
open Go.RowKit Go.Proofs.YtkfiahildoljfaaW.PrintWords Go.Proofs.YtkfiahildoljfaaW.PrintLast Go.Proofs.YtkfiahildoljfaaW.PrintMore
set_option linter.unusedVariables false
def dstOf (ops : Array Oper) (j : Nat) : Option Tmp := (ops[j]?).bind (·.dst)
section
variable {P : Program} {ops : Array Oper} {Q : Exit → Act → World → Prop} {md : Region.Mode} {T : Bool × List (List Nat × List Nat)} {B : List Nat}
def PhiStep (P : Program) (ops : Array Oper) (Q : Exit → Act → World → Prop) (B : List Nat) (O : List Nat) (a0 : Act) (G : World → Prop) (R : World → World → Prop) (F : Nat → Value → World → Prop) (i : Nat) : Prop :=
  ∀ (a : Act) (w : World), G w → (∀ t, (O.all fun j => !(dstOf ops j == some t)) = true → a.tmps[t]? = a0.tmps[t]?) →
    (∀ j, (O.contains j && (B.getD i 0).testBit j) = true → ∃ v, (∀ t, dstOf ops j = some t → a.tmps[t]? = some v) ∧ F j v w) →
    ∃ oi, ops[i]? = some oi ∧ ∀ K : Act → World → Prop, Shut (∀ v w', F i v w' → G w' → R w w' → K (a.put oi.dst v) w') →
      if Region.wanted oi (yielded ops a.tmps) = true then Oper.wp P oi a w K Q else K (a.put oi.dst undef) w
theorem phi_nil {O : List Nat} {a0 : Act} {G : World → Prop} {R : World → World → Prop} {F : Nat → Value → World → Prop} : ∀ i ∈ ([] : List Nat), PhiStep P ops Q B O a0 G R F i := fun _ h => by cases h
theorem phi_cons {O : List Nat} {a0 : Act} {G : World → Prop} {R : World → World → Prop} {F : Nat → Value → World → Prop} {i : Nat} {rs : List Nat} (h : PhiStep P ops Q B O a0 G R F i) (hs : ∀ j ∈ rs, PhiStep P ops Q B O a0 G R F j) : ∀ j ∈ i :: rs, PhiStep P ops Q B O a0 G R F j := fun j hj => by
  rcases List.mem_cons.1 hj with rfl | hj
  · exact h
  · exact hs j hj
def putAll (ops : Array Oper) (vals : Nat → Value) : List Nat → Act → Act
  | [], a => a
  | j :: r, a => putAll ops vals r (a.put (dstOf ops j) (vals j))
/-- Destinations stand in the frame, each once. -/
def dstOk (ops : Array Oper) (n : Nat) : List Nat → Bool
  | [] => true
  | j :: r => (match dstOf ops j with | none => true | some t => decide (t < n) && r.all fun i => !(dstOf ops i == some t)) && dstOk ops n r
theorem put_get (a : Act) (d : Option Tmp) (v : Value) (t : Nat) : (a.put d v).tmps[t]? = if d = some t ∧ t < a.tmps.size then some v else a.tmps[t]? := by
  cases d with
  | none => simp [Act.put]
  | some s =>
    simp only [Act.put, Array.getElem?_setIfInBounds, Option.some.injEq]
    by_cases h : s = t
    · subst h
      by_cases h2 : s < a.tmps.size
      · simp [h2]
      · simp [h2]
    · simp [h]
theorem put_size (a : Act) (d : Option Tmp) (v : Value) : (a.put d v).tmps.size = a.tmps.size := by cases d <;> simp [Act.put]
theorem put_defers (a : Act) (d : Option Tmp) (v : Value) : (a.put d v).defers = a.defers := by cases d <;> simp [Act.put]
theorem putAll_size (vals : Nat → Value) : ∀ (O : List Nat) (a : Act), (putAll ops vals O a).tmps.size = a.tmps.size ∧ (putAll ops vals O a).defers = a.defers
  | [], a => ⟨rfl, rfl⟩
  | j :: r, a => by
    have := putAll_size vals r (a.put (dstOf ops j) (vals j))
    rw [put_size, put_defers] at this
    exact this
theorem putAll_off (vals : Nat → Value) : ∀ (O : List Nat) (a : Act) (t : Nat), (O.all fun j => !(dstOf ops j == some t)) = true → (putAll ops vals O a).tmps[t]? = a.tmps[t]?
  | [], a, t, _ => rfl
  | j :: r, a, t, h => by
    rw [List.all_cons, Bool.and_eq_true] at h
    have h1 : ¬ dstOf ops j = some t := by simpa using h.1
    rw [putAll, putAll_off vals r _ t h.2, put_get, if_neg (fun h2 => h1 h2.1)]
theorem putAll_on (vals : Nat → Value) (n : Nat) : ∀ (O : List Nat) (a : Act) (j t : Nat), dstOk ops n O = true → n ≤ a.tmps.size → j ∈ O → dstOf ops j = some t → (putAll ops vals O a).tmps[t]? = some (vals j)
  | [], a, j, t, _, _, hj, _ => by cases hj
  | i :: r, a, j, t, hd, hn, hj, ht => by
    unfold dstOk at hd
    rw [Bool.and_eq_true] at hd
    rcases List.mem_cons.1 hj with rfl | hj
    · rw [ht] at hd
      simp only [Bool.and_eq_true, decide_eq_true_eq] at hd
      have h9 : t < n := hd.1.1
      rw [putAll, putAll_off vals r _ t hd.1.2, put_get, if_pos ⟨ht, by omega⟩]
    · rw [putAll]
      exact putAll_on vals n r _ j t hd.2 (by rw [put_size]; exact hn) hj ht
theorem dstOk_ne {n : Nat} : ∀ {O : List Nat}, dstOk ops n O = true → ∀ i j t, i ∈ O → j ∈ O → dstOf ops i = some t → dstOf ops j = some t → O.Nodup → i = j
  | [], _, i, j, t, hi, _, _, _, _ => by cases hi
  | x :: r, hd, i, j, t, hi, hj, h1, h2, hn => by
    unfold dstOk at hd
    rw [Bool.and_eq_true] at hd
    rw [List.nodup_cons] at hn
    rcases List.mem_cons.1 hi with e1 | hi2
    · rcases List.mem_cons.1 hj with e2 | hj'
      · rw [e1, e2]
      · subst e1
        rw [h1] at hd
        simp only [Bool.and_eq_true, List.all_eq_true] at hd
        have := hd.1.2 j hj'
        rw [h2] at this
        simp at this
    · rcases List.mem_cons.1 hj with e2 | hj2
      · subst e2
        rw [h2] at hd
        simp only [Bool.and_eq_true, List.all_eq_true] at hd
        have := hd.1.2 i hi2
        rw [h1] at this
        simp at this
      · exact dstOk_ne hd.2 i j t hi2 hj2 h1 h2 hn.2
theorem dstOk_lt {n : Nat} : ∀ {O : List Nat}, dstOk ops n O = true → ∀ i t, i ∈ O → dstOf ops i = some t → t < n
  | [], _, i, t, hi, _ => by cases hi
  | x :: r, hd, i, t, hi, h1 => by
    unfold dstOk at hd
    rw [Bool.and_eq_true] at hd
    rcases List.mem_cons.1 hi with e1 | hi
    · subst e1
      rw [h1] at hd
      simp only [Bool.and_eq_true, decide_eq_true_eq] at hd
      exact hd.1.1
    · exact dstOk_lt hd.2 i t hi h1
/-- What is known of a frame: what isn't listed is as it was; what is listed has a value of which its fact holds. -/
def PhiInv (ops : Array Oper) (O : List Nat) (a0 : Act) (G : World → Prop) (F : Nat → Value → World → Prop) (b : Nat → Bool) (a : Act) (w : World) : Prop :=
  a.tmps.size = a0.tmps.size ∧ a.defers = a0.defers ∧ (∀ t, (O.all fun j => !(dstOf ops j == some t)) = true → a.tmps[t]? = a0.tmps[t]?) ∧ G w ∧
    ∀ j ∈ O, b j = true → ∃ v, (∀ t, dstOf ops j = some t → a.tmps[t]? = some v) ∧ F j v w
theorem phi_ {l : Array Bool} {fuel : Nat} {a : Act} {w : World} (n : Nat) (O : List Nat) (G : World → Prop) (R : World → World → Prop) (F : Nat → Value → World → Prop) (hT : rtab md ops = T) (hw : waitsOk T.2 B = true) (hk : baseOk T.2 O = true)
    (hl : (lof T.2.length O (fun _ => false) == l.toList && O.length == fuel) = true) (hd : dstOk ops n O = true) (hn : n ≤ a.tmps.size) (hG : G w)
    (hR : ∀ j v w1 w2, R w1 w2 → F j v w1 → F j v w2) (hs : ∀ i ∈ O, PhiStep P ops Q B O a G R F i)
    (hend : ∀ (vals : Nat → Value) (w' : World), G w' → (∀ j ∈ O, F j (vals j) w') → Q .normal (putAll ops vals O a) w') : wpAnyLast P md ops Q (fun _ => True) [] fuel l a w := by
  have hnd := baseOk_nodup hk
  refine inv_ O (PhiInv ops O a G F) hT hw hk hl ⟨rfl, rfl, fun _ _ => rfl, hG, fun _ _ h => by cases h⟩ ?_ ?_
  · intro i hi b a' w' hI hb hon _
    obtain ⟨h1, h2, h3, h4, h5⟩ := hI
    obtain ⟨oi, hoi, hK⟩ := hs i hi a' w' h4 h3 (fun j hj => by
      have h6 := hon j hj
      rw [Bool.and_eq_true] at hj
      exact h5 j (List.contains_iff_mem.1 hj.1) h6)
    refine ⟨oi, hoi, fun K hK' => hK K (fun v w2 f g r => ?_)⟩
    have hdi : dstOf ops i = oi.dst := by unfold dstOf; rw [hoi]; rfl
    refine hK' _ _ ⟨by rw [put_size, h1], by rw [put_defers, h2], fun t ht => ?_, g, fun j hj hbj => ?_⟩
    · rw [put_get, if_neg, h3 t ht]
      rintro ⟨h6, _⟩
      have := List.all_eq_true.1 ht i hi
      rw [hdi, h6] at this
      simp at this
    · by_cases hji : j = i
      · subst hji
        refine ⟨v, fun t ht => ?_, f⟩
        have h8 : (t : Nat) < n := dstOk_lt hd _ _ hj ht
        rw [put_get, if_pos ⟨by rw [← hdi]; exact ht, Nat.lt_of_lt_of_le h8 (by rw [h1]; exact hn)⟩]
      · rw [up_ne hji] at hbj
        obtain ⟨v2, h6, h7⟩ := h5 j hj hbj
        refine ⟨v2, fun t ht => ?_, hR _ _ _ _ r h7⟩
        rw [put_get, if_neg, h6 t ht]
        rintro ⟨h8, _⟩
        rw [← hdi] at h8
        exact hji (dstOk_ne hd j i t hj hi ht h8 hnd)
  · intro b a' w' hb hI
    obtain ⟨h1, h2, h3, h4, h5⟩ := hI
    have h6 : ∀ j, ∃ v, j ∈ O → (∀ t, dstOf ops j = some t → a'.tmps[t]? = some v) ∧ F j v w' := by
      intro j
      by_cases hj : j ∈ O
      · obtain ⟨v, h⟩ := h5 j hj (hb j (List.contains_iff_mem.2 hj))
        exact ⟨v, fun _ => h⟩
      · exact ⟨undef, fun h => absurd h hj⟩
    let vals : Nat → Value := fun j => Classical.choose (h6 j)
    have hv : ∀ j ∈ O, (∀ t, dstOf ops j = some t → a'.tmps[t]? = some (vals j)) ∧ F j (vals j) w' := fun j hj => Classical.choose_spec (h6 j) hj
    have he : a' = putAll ops vals O a := by
      have hp := putAll_size (ops := ops) vals O a
      cases a' with
      | mk tm df =>
        generalize hq : putAll ops vals O a = q at hp
        cases q with
        | mk tm2 df2 =>
          simp only at h1 h2 hp
          have ht : tm = tm2 := by
            apply Array.ext_getElem?
            intro t
            by_cases ho : (O.all fun j => !(dstOf ops j == some t)) = true
            · have := putAll_off (ops := ops) vals O a t ho
              rw [hq] at this
              exact (h3 t ho).trans this.symm
            · rw [List.all_eq_true] at ho
              have : ∃ j ∈ O, dstOf ops j = some t := by
                apply Classical.byContradiction
                intro hne
                apply ho
                intro j hj
                simp only [Bool.not_eq_true', beq_eq_false_iff_ne, ne_eq]
                exact fun h => hne ⟨j, hj, h⟩
              obtain ⟨j, hj, hjt⟩ := this
              have := putAll_on (ops := ops) vals n O a j t hd hn hj hjt
              rw [hq] at this
              exact ((hv j hj).1 t hjt).trans this.symm
          subst ht
          have : df = df2 := h2.trans hp.2.symm
          subst this
          rfl
    rw [he]
    exact hend vals w' h4 (fun j hj => (hv j hj).2)
end
end Go.Proofs.Ytkfiahildoljfaa.Phi
end
section
/- CompressPlain: the plain profile's text. -/
namespace Go.Proofs.Ytkfiahildoljfaa.Enc
open Go.RowKit Go.Proofs.Ytkfiahildoljfaa.Win Go.Proofs.Ytkfiahildoljfaa.Stp Go.Proofs.Ytkfiahildoljfaa.Lst Go.Proofs.Ytkfiahildoljfaa.Phi Go.Proofs.YtkfiahildoljfaaW.PrintWords Go.Proofs.YtkfiahildoljfaaW.PrintLast Go.Proofs.YtkfiahildoljfaaW.PrintMore
set_option linter.unusedVariables false
set_option linter.unusedSimpArgs false
def pln.T14 : Bool × List (List Nat × List Nat) := (true, [([], []), ([0], [0]), ([], []), ([], []), ([2, 3], [2, 3]), ([4], [4]), ([5], [5]), ([6], [6]), ([], []), ([], []), ([8, 9], [8, 9]), ([10, 5], [10]), ([7, 11], [7, 11]), ([1, 12], [1, 12]), ([13, 11], [13]), ([14], [14]), ([15, 14], [14, 15]), ([16, 14], [14, 16]), ([14, 17], [14, 17]), ([18, 14], [18]), ([19], [19]), ([20, 19], [19, 20]), ([19, 21], [19, 21]), ([22, 19], [22]), ([23], [23]), ([23], [23]), ([23], [23]), ([25, 26, 23], [23, 25, 26]), ([24, 27, 23, 23], [23, 24, 27]), ([23, 28], [23, 28]), ([29, 28, 0, 1, 2, 3, 4, 5, 6, 7, 8, 9, 10, 11, 12, 13, 14, 15, 16, 17, 18, 19, 20, 21, 22, 23, 24, 25, 26, 27, 28, 29], [29])])
def pln.B14 : List Nat := [0, 1, 0, 0, 12, 28, 60, 124, 0, 0, 768, 1852, 4092, 8191, 16383, 32767, 65535, 131071, 262143, 524287, 1048575, 2097151, 4194303, 8388607, 16777215, 16777215, 16777215, 117440511, 268435455, 536870911, 1073741823]
theorem pln.tab14 : rtab .any (opsOf Try.f7 14) = pln.T14 := by kernel_rfl
theorem pln.bits14 : waitsOk pln.T14.2 pln.B14 = true := by kernel_rfl
theorem wrap_id (n : Int) (h0 : 0 ≤ n) (h1 : n < 9223372036854775808) : IntKind.i64.wrap n = n := by
  simp [IntKind.wrap, IntKind.signed, IntKind.bits]
  omega
def PlainPost (w : World) (e : Ending) (w' : World) : Prop := e = .returned (.bool true) ∧ Below w.heap.size w w'
theorem text_len' (pl : Bool) {l : List Int} (h : l.length ≤ 400) : (textC pl l).length ≤ 5000 := by
  unfold textC
  rw [List.length_append]
  have h1 := pushes_len l (e0 pl)
  have h2 := flush_len (pushes (e0 pl) l).1
  omega
theorem read_plain {T l o : List Int} {b : B4} (hT : Rg T) (h : ∃ m', Dec.steps Dec.m0 T = some (m', l) ∧ m'.beg = 0 ∧ m'.upper = 0) (hr : Dec.Ran (Dec.byt (strOfNums T)) o b) : o = l ∧ b = { at_ := T.length, err := 0, pl := 0, fin := true } := by
  rw [Dec.byt_str hT] at hr
  obtain ⟨m', h1, h2, h3⟩ := h
  exact Sim.ran_one hr (.inl ⟨m', h1, h2, h3, rfl⟩)
/-- An encoder just made writes a list. -/
theorem wrote_calls {w w1 w2 : World} {pl : Bool} {l : List Int} {A : Option Addr} {c n : Nat} (hn : l.length = n) (hl : n ≤ 400) (hcap : n ≤ c) (hnil : A = none → c = 0) (hL : ∀ wx, Below w.heap.size w wx → Lst wx .u32 A l) (hB : ∀ x ∈ l, 0 ≤ x ∧ isB x = true)
    (h1 : Below w.heap.size w w1) (hd : EncAt w2 (w1.heap.size + 1) w1.heap.size b40 [] (e0 pl)) (hb : Below w1.heap.size w1 w2) :
    Calls Try.prog 11 #[.pointer (some ⟨w1.heap.size + 1, 0, none⟩), .slice A n c, .slice none 0 0, .slice none 0 0] w2 (fun e w' => e = .returned (.tuple #[.string (strOfNums (textC pl l)), .bool true]) ∧ Below w.heap.size w w') := by
  subst hn
  have hb3 := tb h1 hb
  have hgw := h1.size
  have hfs : ∀ i, EFS (w1.heap.size + 1) w1.heap.size i → w.heap.size ≤ i := by rintro i (h | h) <;> omega
  refine (write_calls (cap := c) hd (by omega) hcap hnil (fun wx hc => hL wx (Chg.below hb3 hc hfs)) hB).mono ?_
  rintro e w' ⟨h1, h2⟩
  exact ⟨h1, Chg.below hb3 h2 hfs⟩
def GuardOut (w : World) (l : List Int) (b : Value) (wx : World) : Prop := ∃ g : Bool, b = .bool g ∧ Below w.heap.size w wx ∧ (g = false → (∀ x ∈ l, isS x = true) ∧ ∀ y ys, l = y :: ys → y ≠ 65279)
def NOut (w1 : World) (l : List Int) (i : Value) (wx : World) : Prop := ∃ k : Nat, i = .int .i64 k ∧ k ≤ l.length ∧ w1 = wx ∧ (∀ x ∈ l.take k, x ≤ 255) ∧ (k < l.length → 255 < l.getD k 0)
def NRel (w1 : World) (l : List Int) (i : Value) (wx : World) : Prop := ∃ k : Nat, i = .int .i64 k ∧ k ≤ l.length ∧ w1 = wx ∧ ∀ x ∈ l.take k, x ≤ 255
theorem str_cut_left (a b : List Int) : (strOfNums (a ++ b)).extract 0 (strOfNums a).size = strOfNums a := by
  rw [← str_append]
  exact ByteArray.extract_append_eq_left rfl
theorem str_cut_right (a b : List Int) : (strOfNums (a ++ b)).extract (strOfNums a).size (strOfNums (a ++ b)).size = strOfNums b := by
  rw [← str_append]
  exact ByteArray.extract_append_eq_right rfl (by rw [ByteArray.size_append])
/-- What the text is, cut at the first scalar above FF. -/
theorem plain_parts {l : List Int} {k : Nat} (hs : ∀ x ∈ l, 0 ≤ x ∧ isS x = true) (hm : ∀ y ys, l = y :: ys → y ≠ 65279) (hlo : ∀ x ∈ l.take k, x ≤ 255) (hk : k < l.length) (hhi : 255 < l.getD k 0) :
    textC true l = textC true (l.take k) ++ 15 :: (l.drop k).flatMap unitsC := by
  have hr : ∀ x ∈ l, x ≤ 1114111 := fun x hx => (isS_iff.1 (hs x hx).2).2
  have hd : l.drop k = l.getD k 0 :: l.drop (k + 1) := Lst.drop_cons hk
  have e1 := text_plain hr
  have e2 := text_plain (l := l.take k) (fun x hx => hr x (List.mem_of_mem_take hx))
  have e3 : l = l.take k ++ l.getD k 0 :: l.drop (k + 1) := by rw [← hd, List.take_append_drop]
  have e4 := plain_cut (pre := l.take k) (b := false) (c := l.getD k 0) (cs := l.drop (k + 1)) (fun x hx => ⟨(hs x (List.mem_of_mem_take hx)).1, hlo x hx⟩) hhi (fun _ h => by
    rw [h] at e3
    exact hm _ _ e3)
  rw [← e3, ← hd] at e4
  rw [e1, e2, e4]
set_option maxRecDepth 100000 in
set_option maxHeartbeats 16000000 in
theorem plain_small {w : World} {A : Option Addr} {c : Nat} {l : List Int} (h : Lst w .u32 A l) (hcap : l.length ≤ c) (hnil : A = none → c = 0) (hl : l.length ≤ 400) (hr : ∀ x ∈ l, 0 ≤ x) :
    Calls Try.prog 7 #[.slice A l.length c] w (PlainPost w) := by
  have hgr := great_calls (l.length : Int) none none 0 0 0 0
  have e1 : (decide (400 < (l.length : Int)) || (decide (200 < 0) || decide (200 < 0))) = false := by rw [Bool.eq_iff_iff]; simp; omega
  rw [e1] at hgr
  have HGR := Lib.hid hgr
  have H := Lib.hid h
  have HR := Lib.hid hr
  have HNil := Lib.hid hnil
  clear hgr e1 h hr hnil
  go_enter Try.func7, Try.ntmps7
  go_upto_region 1 with fail
  go_cut [34] (fun b wx => GuardOut w l b wx)
  case first =>
    go_wp2_with fail
    refine (awake_calls _).mono ?_
    rintro e w1 ⟨rfl, hb1⟩
    have HB1 := Lib.hid hb1
    have HL1 := Lib.hid (H.out.below hb1)
    clear hb1
    go_wp2_with fail
    refine (HGR.out _).mono ?_
    rintro e w2 ⟨rfl, rfl⟩
    go_wp2_with fail
    refine (rfirst_calls HL1.out (by omega)).mono ?_
    rintro e w2 ⟨r, rfl, hrr, hdr⟩
    have HB2 := Lib.hid (HB1.out.trans (hdr.below w.heap.size))
    have HL2 := Lib.hid (HL1.out.drew hdr)
    clear hdr
    rcases hrr with ⟨rfl, hall⟩ | hr0
    · have HAll := Lib.hid hall
      clear hall
      by_cases hl0 : l.length = 0
      · have hz0 : ¬ (0 : Int) < l.length := by omega
        have HZ := Lib.hid hl0; clear hl0
        go_wp2_with fail
        go_meet
        exact ⟨false, rfl, HB2.out, fun _ => ⟨HAll.out, fun y ys h => by have := HZ.out; rw [h] at this; simp at this⟩⟩
      · obtain ⟨a, rfl, q⟩ := HL2.out 0 (by omega)
        have ha0 : a.add 0 = a := by unfold Addr.add; simp
        rw [ha0] at q
        have hz0 : (0 : Int) < l.length := by omega
        obtain ⟨y, hyy⟩ : ∃ y, y = l.getD 0 0 := ⟨_, rfl⟩
        rw [← hyy] at q
        obtain ⟨qb, hqb⟩ : ∃ b, (y == 65279) = b := ⟨_, rfl⟩
        have HY := Lib.hid (And.intro hyy hqb)
        clear hyy
        cases qb
        all_goals
          go_wp2_with fail
          go_meet
          refine ⟨_, rfl, HB2.out, fun hh => ?_⟩
          first
            | (cases hh; done)
            | (refine ⟨HAll.out, fun z zs hz hz2 => ?_⟩; obtain ⟨h1, h2⟩ := HY.out; rw [hz] at h1; simp at h1; rw [h1, hz2] at h2; cases h2)
    · go_wp2_with fail
      go_meet
      exact ⟨true, rfl, HB2.out, fun h => by cases h⟩
  case rest =>
    obtain ⟨g, rfl, hb, hok⟩ := hcut
    have HBc := Lib.hid hb
    clear hb
    cases g with
    | true =>
      clear hok
      go_wp2_with fail
      refine (awake_calls _).mono ?_
      rintro e w3 ⟨rfl, hb3⟩
      have HB3 := Lib.hid hb3
      clear hb3
      go_wp2_with fail
      go_ret
      exact ⟨rfl, tb HBc.out HB3.out⟩
    | false =>
      obtain ⟨hall, hmk⟩ := hok rfl
      have HS := Lib.hid (show ∀ x ∈ l, 0 ≤ x ∧ isS x = true from fun x hx => ⟨HR.out x hx, hall x hx⟩)
      have HLB := Lib.hid (show ∀ x ∈ l, 0 ≤ x ∧ isB x = true from fun x hx => ⟨HR.out x hx, isB_isS (HR.out x hx) (hall x hx)⟩)
      have HMk := Lib.hid hmk
      have HLc := Lib.hid (H.out.below HBc.out)
      clear hall hmk hok
      go_upto_block 0 with fail
      go_cut [3] (fun i wx => NOut wc l i wx)
      case first =>
        go_wp2_with fail
        go_loopw [3] (fun i wr => NRel wc l i wr) (fun i _ => l.length - (intOf i).toNat)
        case atStart => exact ⟨0, rfl, Nat.zero_le _, rfl, fun x hx => by cases hx⟩
        case round =>
          obtain ⟨k, rfl, hk, rfl, hlo⟩ := hrel
          have HLo := Lib.hid hlo
          clear hlo
          by_cases hlt : k < l.length
          · obtain ⟨a, rfl, q⟩ := HLc.out k hlt
            have htk := take_succ' hlt
            obtain ⟨x, hx⟩ : ∃ x, x = l.getD k 0 := ⟨_, rfl⟩
            rw [← hx] at q htk
            have HX := Lib.hid (And.intro hx htk)
            clear hx htk
            by_cases hx : x ≤ 255
            · go_wp2_with fail
              go_roundw
              case rel =>
                refine ⟨k + 1, by go_num, hlt, rfl, fun y hy => ?_⟩
                rw [HX.out.2] at hy
                rcases List.mem_append.1 hy with hy | hy
                · exact HLo.out y hy
                · rw [List.mem_singleton.1 hy]; exact hx
              case measure => simp [intOf]; omega
            · go_wp2_with fail
              go_meet
              exact ⟨k, rfl, hk, rfl, HLo.out, fun _ => by rw [← HX.out.1]; omega⟩
          · obtain rfl : k = l.length := by omega
            go_wp2_with fail
            go_meet
            exact ⟨l.length, rfl, Nat.le_refl _, rfl, HLo.out, fun h => absurd h (Nat.lt_irrefl _)⟩
      case rest =>
        obtain ⟨k, rfl, hk, rfl, hlo, hhi⟩ := hcut
        have HK := Lib.hid (And.intro hlo hhi)
        clear hlo hhi
        go_wp2_with fail
        refine (newEncoder_calls true _).mono ?_
        rintro e w3 ⟨rfl, hd, hb, hz⟩
        have hwr := wrote_calls (c := c) rfl hl hcap HNil.out (fun wx hb => H.out.below hb) HLB.out HBc.out hd hb
        obtain ⟨S, hS⟩ : ∃ S, S = strOfNums (textC true l) := ⟨_, rfl⟩
        have hSl : S.size ≤ 5000 := by rw [hS, str_size]; exact text_len' true hl
        rw [← hS] at hwr
        have HWr := Lib.hid hwr
        have HS1 := Lib.hid hS
        clear hd hb hz hwr hS
        go_wp2_with fail
        refine HWr.out.mono ?_
        rintro e w4 ⟨rfl, hb4⟩
        have HB4 := Lib.hid hb4
        clear hb4
        obtain ⟨S2, hS2⟩ : ∃ S, S = strOfNums (textC true (l.take k)) := ⟨_, rfl⟩
        have hS2l : S2.size ≤ 5000 := by rw [hS2, str_size]; exact text_len' true (by rw [List.length_take]; omega)
        have hw2 : ∀ w1 w2 : World, Below w.heap.size w w1 → EncAt w2 (w1.heap.size + 1) w1.heap.size b40 [] (e0 true) → Below w1.heap.size w1 w2 →
            Calls Try.prog 11 #[.pointer (some ⟨w1.heap.size + 1, 0, none⟩), .slice A k c, .slice none 0 0, .slice none 0 0] w2 (fun e w' => e = .returned (.tuple #[.string S2, .bool true]) ∧ Below w.heap.size w w') := fun w1 w2 h1 h2 h3 => by
          rw [hS2]
          exact wrote_calls (l := l.take k) (by rw [List.length_take, Nat.min_eq_left hk]) (by omega) (by omega) HNil.out (fun wx hb => (H.out.below hb).take k) (fun x hx => HLB.out x (List.mem_of_mem_take hx)) h1 h2 h3
        have HW2 := Lib.hid hw2
        have HS2 := Lib.hid hS2
        clear hw2 hS2
        go_upto_region 7 with fail
        go_cut [6, 7] (fun vs vb wx => vs = .string S2 ∧ vb = .bool true ∧ Below w.heap.size w wx)
        case first =>
          have hbd : Below w.heap.size w w4.drew := below_drewN HB4.out 1
          have HBD := Lib.hid hbd
          clear hbd
          go_region_with (first | (go_at_call 12; refine (newEncoder_calls true _).mono ?_; rintro e w5 ⟨rfl, hd, hb, hz⟩; have HQ := Lib.hid (And.intro hd hb); clear hd hb hz) | (go_at_call 11; refine (HW2.out _ _ HBD.out HQ.out.1 HQ.out.2).mono ?_; rintro e w6 ⟨rfl, hb6⟩; have HB6 := Lib.hid hb6; clear hb6))
          all_goals
            go_wp2_with fail
            go_meet
            exact ⟨rfl, rfl, HB6.out⟩
        case rest =>
          obtain ⟨rfl, rfl, hb7⟩ := hcut
          have HB7 := Lib.hid hb7
          clear hb7
          by_cases hke : k = l.length
          · subst hke
            have hss : S2 = S := by rw [HS2.out, HS1.out, List.take_length]
            subst hss
            have hsl : ∀ w : World, (Instr.slice 9 (.string S2) none (some (.int .i64 (S2.size : Int))) none).run Try.prog w = .ok (.string S2) w := fun w => by
              rw [run_slice_string_h w 9 S2 Try.underlying9 .i64 (S2.size : Int) (by omega) (by omega)]
              have f1 : ((S2.size : Nat) : Int).toNat = S2.size := by omega
              rw [f1]
              have : S2.extract 0 S2.size = S2 := ByteArray.extract_zero_size
              rw [this]
            clear hS2l
            go_wp2_with fail
            go_ret
            exact ⟨by simp, HB7.out⟩
          · have hklt : k < l.length := by omega
            have hpp := plain_parts HS.out HMk.out HK.out.1 hklt (HK.out.2 hklt)
            obtain ⟨R, hR⟩ : ∃ R, R = 15 :: (l.drop k).flatMap unitsC := ⟨_, rfl⟩
            rw [← hR] at hpp
            obtain ⟨RS, hRS⟩ : ∃ S, S = strOfNums R := ⟨_, rfl⟩
            have hSa : S.extract 0 S2.size = S2 := by rw [HS1.out, HS2.out, hpp]; exact str_cut_left _ _
            have hSb : S.extract S2.size S.size = RS := by rw [HS1.out, HS2.out, hRS, hpp]; exact str_cut_right _ _
            have hsz : S2.size ≤ S.size := by rw [HS1.out, HS2.out, str_size, str_size, hpp, List.length_append]; omega
            have hdS : ∀ x ∈ l.drop k, 0 ≤ x ∧ isS x = true := fun x hx => HS.out x (List.mem_of_mem_drop hx)
            have hRl : R.length = 1 + 2 * sumN unitN (l.drop k) + sumN tagN (l.drop k) := by
              rw [hR, List.length_cons, flat_size (fun x hx => (hdS x hx).1)]; omega
            have hU := sumN_le (fun c => (unitN_rng c).2) (l.drop k)
            have hG := sumN_le tagN_le (l.drop k)
            rw [List.length_drop] at hU hG
            obtain ⟨U, hUe⟩ : ∃ U, U = sumN unitN (l.drop k) := ⟨_, rfl⟩
            obtain ⟨G, hGe⟩ : ∃ G, G = sumN tagN (l.drop k) := ⟨_, rfl⟩
            rw [← hUe] at hU hRl
            rw [← hGe] at hG hRl
            have hRSz : RS.size = 1 + 2 * U + G := by rw [hRS, str_size, hRl]
            have hRg : Rg R := by
              rw [hR]
              refine rg_cons (by decide) ?_
              intro x hx
              rw [List.mem_flatMap] at hx
              obtain ⟨y, hy, hx⟩ := hx
              exact units_rg (hdS y hy).1 (isS_iff.1 (hdS y hy).2).2 x hx
            have hback := rest_back hdS
            rw [← hR] at hback
            have HTold := Lib.hid (show ∀ (o : List Int) (b : B4), Dec.Ran (Dec.byt RS) o b → o = l.drop k ∧ b.err = 0 from fun o b h => by
              rw [hRS] at h
              have := read_plain hRg hback h
              exact ⟨this.1, by rw [this.2]⟩)
            have h15 : 0 < RS.size ∧ ∀ h : 0 < RS.size, ((RS[0]'h).toNat : Int) = 15 := by
              refine ⟨by omega, fun h => ?_⟩
              have := Dec.byt_at RS 0 h
              rw [← this, hRS, Dec.byt_str hRg, hR]
              rfl
            have hsl : ∀ w : World, (Instr.slice 9 (.string S) none (some (.int .i64 (S2.size : Int))) none).run Try.prog w = .ok (.string S2) w := fun w => by
              rw [run_slice_string_h w 9 S Try.underlying9 .i64 (S2.size : Int) (by omega) (by omega)]
              have f1 : ((S2.size : Nat) : Int).toNat = S2.size := by omega
              rw [f1, hSa]
            have hsl2 : ∀ w : World, (Instr.slice 9 (.string S) (some (.int .i64 (S2.size : Int))) none none).run Try.prog w = .ok (.string RS) w := fun w => by
              rw [run_slice_string_l w 9 S Try.underlying9 .i64 (S2.size : Int) (by omega) (by omega)]
              have f1 : ((S2.size : Nat) : Int).toNat = S2.size := by omega
              rw [f1, hSb]
            have hkeb : ((k : Int) == (l.length : Int)) = false := by rw [beq_eq_false_iff_ne]; omega
            have hnlt : ¬ (S.size : Int) < S2.size := by omega
            have H15 := Lib.hid h15
            have HRd := Lib.hid (fun w => Rst.rread_calls RS w (by omega))
            have HUG := Lib.hid (And.intro hUe hGe)
            have HRSz := Lib.hid hRSz
            clear hpp hR hRS hSa hSb hRl hRg hback hS2l hSl hdS h15 hUe hGe hRSz hsz
            go_wp2_with fail
            refine (HRd.out _).mono ?_
            rintro e w9 ⟨A2, c2, o2, b2, rfl, hran2, ho2, hb9⟩
            obtain ⟨ho, he2⟩ := HTold.out _ _ hran2
            have hb9w := tb HB7.out hb9
            have HO2 := Lib.hid (fun wx (hb : Below w9.heap.size w9 wx) => Lst.of_owns ho2 |>.below hb)
            have HB9 := Lib.hid hb9w
            have HO := Lib.hid ho
            rw [he2]
            clear hran2 ho hb9 hb9w he2 ho2
            go_upto_region 14 with fail
            have HBD := Lib.hid (below_drewN (Below.refl w9.heap.size w9) 1)
            have hdl : (l.drop k).length = l.length - k := List.length_drop
            have HUn := Lib.hid (show ∀ w', Below w9.heap.size w9 w' → Calls Try.prog 15 #[.slice (A.map (fun x => x.add k)) (l.length - k) (c - k)] w' (CntPost w' U) from fun w' hb => by
              have := units_calls15 (c := c - k) (lst_drop (H.out.below (tb HB9.out hb)) k) (fun x hx => (HS.out x (List.mem_of_mem_drop hx)).2) (by omega)
              rw [hdl, ← HUG.out.1] at this
              exact this)
            have HTg := Lib.hid (show ∀ w', Below w9.heap.size w9 w' → Calls Try.prog 16 #[.slice (A.map (fun x => x.add k)) (l.length - k) (c - k)] w' (CntPost w' G) from fun w' hb => by
              have := tagged_calls15 (c := c - k) (lst_drop (H.out.below (tb HB9.out hb)) k) (by omega)
              rw [hdl, ← HUG.out.2] at this
              exact this)
            have HSm := Lib.hid (show ∀ w', Below w9.heap.size w9 w' → Calls Try.prog 14 #[.slice A2 o2.length c2, .slice (A.map (fun x => x.add k)) (l.length - k) (c - k)] w' (fun e w2 => e = .returned (.bool true) ∧ Drew w' w2) from fun w' hb => by
              have := same_calls (c := c2) (d := c - k) (HO2.out w' hb) (lst_drop (H.out.below (tb HB9.out hb)) k) (by rw [HO.out, hdl]; omega) (by omega)
              rw [decide_eq_true HO.out, hdl] at this
              exact this)
            have HLen := Lib.hid (show (RS.size : Int) = 1 + 2 * (U : Int) + G by have := HRSz.out; omega)
            clear hdl
            refine start_ (n := 31) (S := fun w' => True) (ds := []) #[false, false, false, false, false, false, false, false, false, false, false, false, false, false, false, false, false, false, false, false, false, false, false, false, false, false, false, false, false, false, false] (by kernel_rfl) rfl rfl trivial (fun hHeld => ?_); refine with_tabW pln.tab14 pln.bits14 (fun HT_ HW_ => ?_)
            refine phi_ 131 [0, 1, 2, 3, 4, 5, 6, 7, 8, 9, 10, 11, 12, 13, 14, 15, 16, 17, 18, 19, 20, 21, 22, 23, 24, 25, 26, 27, 28, 29, 30] (fun w' => Below w9.heap.size w9 w') (fun w1 w2 => Below w1.heap.size w1 w2) (fun j v _ => v = ([.string RS, .int .i64 RS.size, .slice A l.length c, .int .i64 k, .slice (A.map (fun x => x.add k)) (l.length - k) (c - k), .int .i64 U, .int .i64 (2 * (U : Int)), .int .i64 (1 + 2 * (U : Int)), .slice A l.length c, .int .i64 k, .slice (A.map (fun x => x.add k)) (l.length - k) (c - k), .int .i64 G, .int .i64 (1 + 2 * (U : Int) + G), .bool true, .bool true, .string RS, .int .u8 15, .bool true, .bool true, .bool true, .int .i64 0, .bool true, .bool true, .bool true, .slice A2 o2.length c2, .slice A l.length c, .int .i64 k, .slice (A.map (fun x => x.add k)) (l.length - k) (c - k), .bool true, .bool true, .bool true] : List Value).getD j undef) HT_.out HW_.out (by kernel_rfl) (by kernel_rfl) (by kernel_rfl) (Nat.le_refl 131) HBD.out (fun j v w1 w2 h1 h2 => h2) ?_ ?_
            · refine phi_cons ?_ ?_
              · intro a' w' hG hoff hon
                refine ⟨_, rfl, fun K hK => ?_⟩
                have e8 : a'.tmps[8]? = some (.string RS) := (hoff 8 (by kernel_rfl)).trans rfl
                refine value_ (w1 := w') (v := .string RS) (by rfl) rfl ?_ ?_
                · go_simp
                  try rfl
                · exact hK _ _ rfl hG (Below.refl _ _)
              refine phi_cons ?_ ?_
              · intro a' w' hG hoff hon
                refine ⟨_, rfl, fun K hK => ?_⟩
                obtain ⟨v0, f0, p0⟩ := hon 0 (by kernel_rfl)
                have e101 := f0 101 rfl
                obtain rfl : v0 = .string RS := p0
                refine value_ (w1 := w') (v := .int .i64 RS.size) (by rfl) rfl ?_ ?_
                · go_simp
                  try rfl
                · exact hK _ _ rfl hG (Below.refl _ _)
              refine phi_cons ?_ ?_
              · intro a' w' hG hoff hon
                refine ⟨_, rfl, fun K hK => ?_⟩
                have e0 : a'.tmps[0]? = some (.slice A l.length c) := (hoff 0 (by kernel_rfl)).trans rfl
                refine value_ (w1 := w') (v := .slice A l.length c) (by rfl) rfl ?_ ?_
                · go_simp
                  try rfl
                · exact hK _ _ rfl hG (Below.refl _ _)
              refine phi_cons ?_ ?_
              · intro a' w' hG hoff hon
                refine ⟨_, rfl, fun K hK => ?_⟩
                have e3 : a'.tmps[3]? = some (.int .i64 k) := (hoff 3 (by kernel_rfl)).trans rfl
                refine value_ (w1 := w') (v := .int .i64 k) (by rfl) rfl ?_ ?_
                · go_simp
                  try rfl
                · exact hK _ _ rfl hG (Below.refl _ _)
              refine phi_cons ?_ ?_
              · intro a' w' hG hoff hon
                refine ⟨_, rfl, fun K hK => ?_⟩
                obtain ⟨v2, f2, p2⟩ := hon 2 (by kernel_rfl)
                have e103 := f2 103 rfl
                obtain rfl : v2 = .slice A l.length c := p2
                obtain ⟨v3, f3, p3⟩ := hon 3 (by kernel_rfl)
                have e104 := f3 104 rfl
                obtain rfl : v3 = .int .i64 k := p3
                refine value_ (w1 := w') (v := .slice (A.map (fun x => x.add k)) (l.length - k) (c - k)) (by rfl) rfl ?_ ?_
                · go_simp
                  try (intro h; exfalso; omega)
                · exact hK _ _ rfl hG (Below.refl _ _)
              refine phi_cons ?_ ?_
              · intro a' w' hG hoff hon
                refine ⟨_, rfl, fun K hK => ?_⟩
                obtain ⟨v4, f4, p4⟩ := hon 4 (by kernel_rfl)
                have e105 := f4 105 rfl
                obtain rfl : v4 = .slice (A.map (fun x => x.add k)) (l.length - k) (c - k) := p4
                refine goes_ Try.func15 (by kernel_rfl) rfl #[.slice (A.map (fun x => x.add k)) (l.length - k) (c - k)] (by rfl) rfl rfl (by simp [Act.eval, e105]) ?_
                refine (HUn.out w' hG).mono ?_
                rintro e w2 ⟨rfl, hd⟩
                exact ⟨_, rfl, hK _ _ rfl (hG.trans (hd.below _)) (hd.below _)⟩
              refine phi_cons ?_ ?_
              · intro a' w' hG hoff hon
                refine ⟨_, rfl, fun K hK => ?_⟩
                obtain ⟨v5, f5, p5⟩ := hon 5 (by kernel_rfl)
                have e106 := f5 106 rfl
                obtain rfl : v5 = .int .i64 U := p5
                refine value_ (w1 := w') (v := .int .i64 (2 * (U : Int))) (by rfl) rfl ?_ ?_
                · go_simp
                  try (exact wrap_id _ (by omega) (by omega))
                · exact hK _ _ rfl hG (Below.refl _ _)
              refine phi_cons ?_ ?_
              · intro a' w' hG hoff hon
                refine ⟨_, rfl, fun K hK => ?_⟩
                obtain ⟨v6, f6, p6⟩ := hon 6 (by kernel_rfl)
                have e107 := f6 107 rfl
                obtain rfl : v6 = .int .i64 (2 * (U : Int)) := p6
                refine value_ (w1 := w') (v := .int .i64 (1 + 2 * (U : Int))) (by rfl) rfl ?_ ?_
                · go_simp
                  try (exact wrap_id _ (by omega) (by omega))
                · exact hK _ _ rfl hG (Below.refl _ _)
              refine phi_cons ?_ ?_
              · intro a' w' hG hoff hon
                refine ⟨_, rfl, fun K hK => ?_⟩
                have e0 : a'.tmps[0]? = some (.slice A l.length c) := (hoff 0 (by kernel_rfl)).trans rfl
                refine value_ (w1 := w') (v := .slice A l.length c) (by rfl) rfl ?_ ?_
                · go_simp
                  try rfl
                · exact hK _ _ rfl hG (Below.refl _ _)
              refine phi_cons ?_ ?_
              · intro a' w' hG hoff hon
                refine ⟨_, rfl, fun K hK => ?_⟩
                have e3 : a'.tmps[3]? = some (.int .i64 k) := (hoff 3 (by kernel_rfl)).trans rfl
                refine value_ (w1 := w') (v := .int .i64 k) (by rfl) rfl ?_ ?_
                · go_simp
                  try rfl
                · exact hK _ _ rfl hG (Below.refl _ _)
              refine phi_cons ?_ ?_
              · intro a' w' hG hoff hon
                refine ⟨_, rfl, fun K hK => ?_⟩
                obtain ⟨v8, f8, p8⟩ := hon 8 (by kernel_rfl)
                have e109 := f8 109 rfl
                obtain rfl : v8 = .slice A l.length c := p8
                obtain ⟨v9, f9, p9⟩ := hon 9 (by kernel_rfl)
                have e110 := f9 110 rfl
                obtain rfl : v9 = .int .i64 k := p9
                refine value_ (w1 := w') (v := .slice (A.map (fun x => x.add k)) (l.length - k) (c - k)) (by rfl) rfl ?_ ?_
                · go_simp
                  try (intro h; exfalso; omega)
                · exact hK _ _ rfl hG (Below.refl _ _)
              refine phi_cons ?_ ?_
              · intro a' w' hG hoff hon
                refine ⟨_, rfl, fun K hK => ?_⟩
                obtain ⟨v10, f10, p10⟩ := hon 10 (by kernel_rfl)
                have e111 := f10 111 rfl
                obtain rfl : v10 = .slice (A.map (fun x => x.add k)) (l.length - k) (c - k) := p10
                refine goes_ Try.func16 (by kernel_rfl) rfl #[.slice (A.map (fun x => x.add k)) (l.length - k) (c - k)] (by rfl) rfl rfl (by simp [Act.eval, e111]) ?_
                refine (HTg.out w' hG).mono ?_
                rintro e w2 ⟨rfl, hd⟩
                exact ⟨_, rfl, hK _ _ rfl (hG.trans (hd.below _)) (hd.below _)⟩
              refine phi_cons ?_ ?_
              · intro a' w' hG hoff hon
                refine ⟨_, rfl, fun K hK => ?_⟩
                obtain ⟨v7, f7, p7⟩ := hon 7 (by kernel_rfl)
                have e108 := f7 108 rfl
                obtain rfl : v7 = .int .i64 (1 + 2 * (U : Int)) := p7
                obtain ⟨v11, f11, p11⟩ := hon 11 (by kernel_rfl)
                have e112 := f11 112 rfl
                obtain rfl : v11 = .int .i64 G := p11
                refine value_ (w1 := w') (v := .int .i64 (1 + 2 * (U : Int) + G)) (by rfl) rfl ?_ ?_
                · go_simp
                  try (exact wrap_id _ (by omega) (by omega))
                · exact hK _ _ rfl hG (Below.refl _ _)
              refine phi_cons ?_ ?_
              · intro a' w' hG hoff hon
                refine ⟨_, rfl, fun K hK => ?_⟩
                obtain ⟨v1, f1, p1⟩ := hon 1 (by kernel_rfl)
                have e102 := f1 102 rfl
                obtain rfl : v1 = .int .i64 RS.size := p1
                obtain ⟨v12, f12, p12⟩ := hon 12 (by kernel_rfl)
                have e113 := f12 113 rfl
                obtain rfl : v12 = .int .i64 (1 + 2 * (U : Int) + G) := p12
                refine value_ (w1 := w') (v := .bool true) (by rfl) rfl ?_ ?_
                · go_simp
                  try (simp [HLen.out]; done)
                · exact hK _ _ rfl hG (Below.refl _ _)
              refine phi_cons ?_ ?_
              · intro a' w' hG hoff hon
                refine ⟨_, rfl, fun K hK => ?_⟩
                obtain ⟨v13, f13, p13⟩ := hon 13 (by kernel_rfl)
                have e114 := f13 114 rfl
                obtain rfl : v13 = .bool true := p13
                refine value_ (w1 := w') (v := .bool true) (by rfl) rfl ?_ ?_
                · go_simp
                  try rfl
                · exact hK _ _ rfl hG (Below.refl _ _)
              refine phi_cons ?_ ?_
              · intro a' w' hG hoff hon
                refine ⟨_, rfl, fun K hK => ?_⟩
                obtain ⟨v14, f14, p14⟩ := hon 14 (by kernel_rfl)
                have e115 := f14 115 rfl
                obtain rfl : v14 = .bool true := p14
                have e8 : a'.tmps[8]? = some (.string RS) := (hoff 8 (by kernel_rfl)).trans rfl
                refine value_ (w1 := w') (v := .string RS) (wanted_on (u := true) rfl rfl rfl e115) rfl ?_ ?_
                · go_simp
                  try rfl
                · exact hK _ _ rfl hG (Below.refl _ _)
              refine phi_cons ?_ ?_
              · intro a' w' hG hoff hon
                refine ⟨_, rfl, fun K hK => ?_⟩
                obtain ⟨v14, f14, p14⟩ := hon 14 (by kernel_rfl)
                have e115 := f14 115 rfl
                obtain rfl : v14 = .bool true := p14
                obtain ⟨v15, f15, p15⟩ := hon 15 (by kernel_rfl)
                have e116 := f15 116 rfl
                obtain rfl : v15 = .string RS := p15
                refine value_ (w1 := w') (v := .int .u8 15) (wanted_on (u := true) rfl rfl rfl e115) rfl ?_ ?_
                · go_simp
                  rw [dif_pos H15.out.1, H15.out.2]
                  rfl
                · exact hK _ _ rfl hG (Below.refl _ _)
              refine phi_cons ?_ ?_
              · intro a' w' hG hoff hon
                refine ⟨_, rfl, fun K hK => ?_⟩
                obtain ⟨v14, f14, p14⟩ := hon 14 (by kernel_rfl)
                have e115 := f14 115 rfl
                obtain rfl : v14 = .bool true := p14
                obtain ⟨v16, f16, p16⟩ := hon 16 (by kernel_rfl)
                have e117 := f16 117 rfl
                obtain rfl : v16 = .int .u8 15 := p16
                refine value_ (w1 := w') (v := .bool true) (wanted_on (u := true) rfl rfl rfl e115) rfl ?_ ?_
                · go_simp
                  try rfl
                · exact hK _ _ rfl hG (Below.refl _ _)
              refine phi_cons ?_ ?_
              · intro a' w' hG hoff hon
                refine ⟨_, rfl, fun K hK => ?_⟩
                obtain ⟨v14, f14, p14⟩ := hon 14 (by kernel_rfl)
                have e115 := f14 115 rfl
                obtain rfl : v14 = .bool true := p14
                obtain ⟨v17, f17, p17⟩ := hon 17 (by kernel_rfl)
                have e118 := f17 118 rfl
                obtain rfl : v17 = .bool true := p17
                refine value_ (w1 := w') (v := .bool true) (by rfl) rfl ?_ ?_
                · go_simp
                  try rfl
                · exact hK _ _ rfl hG (Below.refl _ _)
              refine phi_cons ?_ ?_
              · intro a' w' hG hoff hon
                refine ⟨_, rfl, fun K hK => ?_⟩
                obtain ⟨v18, f18, p18⟩ := hon 18 (by kernel_rfl)
                have e119 := f18 119 rfl
                obtain rfl : v18 = .bool true := p18
                refine value_ (w1 := w') (v := .bool true) (by rfl) rfl ?_ ?_
                · go_simp
                  try rfl
                · exact hK _ _ rfl hG (Below.refl _ _)
              refine phi_cons ?_ ?_
              · intro a' w' hG hoff hon
                refine ⟨_, rfl, fun K hK => ?_⟩
                obtain ⟨v19, f19, p19⟩ := hon 19 (by kernel_rfl)
                have e120 := f19 120 rfl
                obtain rfl : v19 = .bool true := p19
                have e10 : a'.tmps[10]? = some (.int .i64 0) := (hoff 10 (by kernel_rfl)).trans rfl
                refine value_ (w1 := w') (v := .int .i64 0) (wanted_on (u := true) rfl rfl rfl e120) rfl ?_ ?_
                · go_simp
                  try rfl
                · exact hK _ _ rfl hG (Below.refl _ _)
              refine phi_cons ?_ ?_
              · intro a' w' hG hoff hon
                refine ⟨_, rfl, fun K hK => ?_⟩
                obtain ⟨v19, f19, p19⟩ := hon 19 (by kernel_rfl)
                have e120 := f19 120 rfl
                obtain rfl : v19 = .bool true := p19
                obtain ⟨v20, f20, p20⟩ := hon 20 (by kernel_rfl)
                have e121 := f20 121 rfl
                obtain rfl : v20 = .int .i64 0 := p20
                refine value_ (w1 := w') (v := .bool true) (wanted_on (u := true) rfl rfl rfl e120) rfl ?_ ?_
                · go_simp
                  try rfl
                · exact hK _ _ rfl hG (Below.refl _ _)
              refine phi_cons ?_ ?_
              · intro a' w' hG hoff hon
                refine ⟨_, rfl, fun K hK => ?_⟩
                obtain ⟨v19, f19, p19⟩ := hon 19 (by kernel_rfl)
                have e120 := f19 120 rfl
                obtain rfl : v19 = .bool true := p19
                obtain ⟨v21, f21, p21⟩ := hon 21 (by kernel_rfl)
                have e122 := f21 122 rfl
                obtain rfl : v21 = .bool true := p21
                refine value_ (w1 := w') (v := .bool true) (by rfl) rfl ?_ ?_
                · go_simp
                  try rfl
                · exact hK _ _ rfl hG (Below.refl _ _)
              refine phi_cons ?_ ?_
              · intro a' w' hG hoff hon
                refine ⟨_, rfl, fun K hK => ?_⟩
                obtain ⟨v22, f22, p22⟩ := hon 22 (by kernel_rfl)
                have e123 := f22 123 rfl
                obtain rfl : v22 = .bool true := p22
                refine value_ (w1 := w') (v := .bool true) (by rfl) rfl ?_ ?_
                · go_simp
                  try rfl
                · exact hK _ _ rfl hG (Below.refl _ _)
              refine phi_cons ?_ ?_
              · intro a' w' hG hoff hon
                refine ⟨_, rfl, fun K hK => ?_⟩
                obtain ⟨v23, f23, p23⟩ := hon 23 (by kernel_rfl)
                have e124 := f23 124 rfl
                obtain rfl : v23 = .bool true := p23
                have e9 : a'.tmps[9]? = some (.slice A2 o2.length c2) := (hoff 9 (by kernel_rfl)).trans rfl
                refine value_ (w1 := w') (v := .slice A2 o2.length c2) (wanted_on (u := true) rfl rfl rfl e124) rfl ?_ ?_
                · go_simp
                  try rfl
                · exact hK _ _ rfl hG (Below.refl _ _)
              refine phi_cons ?_ ?_
              · intro a' w' hG hoff hon
                refine ⟨_, rfl, fun K hK => ?_⟩
                obtain ⟨v23, f23, p23⟩ := hon 23 (by kernel_rfl)
                have e124 := f23 124 rfl
                obtain rfl : v23 = .bool true := p23
                have e0 : a'.tmps[0]? = some (.slice A l.length c) := (hoff 0 (by kernel_rfl)).trans rfl
                refine value_ (w1 := w') (v := .slice A l.length c) (wanted_on (u := true) rfl rfl rfl e124) rfl ?_ ?_
                · go_simp
                  try rfl
                · exact hK _ _ rfl hG (Below.refl _ _)
              refine phi_cons ?_ ?_
              · intro a' w' hG hoff hon
                refine ⟨_, rfl, fun K hK => ?_⟩
                obtain ⟨v23, f23, p23⟩ := hon 23 (by kernel_rfl)
                have e124 := f23 124 rfl
                obtain rfl : v23 = .bool true := p23
                have e3 : a'.tmps[3]? = some (.int .i64 k) := (hoff 3 (by kernel_rfl)).trans rfl
                refine value_ (w1 := w') (v := .int .i64 k) (wanted_on (u := true) rfl rfl rfl e124) rfl ?_ ?_
                · go_simp
                  try rfl
                · exact hK _ _ rfl hG (Below.refl _ _)
              refine phi_cons ?_ ?_
              · intro a' w' hG hoff hon
                refine ⟨_, rfl, fun K hK => ?_⟩
                obtain ⟨v23, f23, p23⟩ := hon 23 (by kernel_rfl)
                have e124 := f23 124 rfl
                obtain rfl : v23 = .bool true := p23
                obtain ⟨v25, f25, p25⟩ := hon 25 (by kernel_rfl)
                have e126 := f25 126 rfl
                obtain rfl : v25 = .slice A l.length c := p25
                obtain ⟨v26, f26, p26⟩ := hon 26 (by kernel_rfl)
                have e127 := f26 127 rfl
                obtain rfl : v26 = .int .i64 k := p26
                refine value_ (w1 := w') (v := .slice (A.map (fun x => x.add k)) (l.length - k) (c - k)) (wanted_on (u := true) rfl rfl rfl e124) rfl ?_ ?_
                · go_simp
                  try (intro h; exfalso; omega)
                · exact hK _ _ rfl hG (Below.refl _ _)
              refine phi_cons ?_ ?_
              · intro a' w' hG hoff hon
                refine ⟨_, rfl, fun K hK => ?_⟩
                obtain ⟨v23, f23, p23⟩ := hon 23 (by kernel_rfl)
                have e124 := f23 124 rfl
                obtain rfl : v23 = .bool true := p23
                obtain ⟨v24, f24, p24⟩ := hon 24 (by kernel_rfl)
                have e125 := f24 125 rfl
                obtain rfl : v24 = .slice A2 o2.length c2 := p24
                obtain ⟨v27, f27, p27⟩ := hon 27 (by kernel_rfl)
                have e128 := f27 128 rfl
                obtain rfl : v27 = .slice (A.map (fun x => x.add k)) (l.length - k) (c - k) := p27
                refine goes_ Try.func14 (by kernel_rfl) rfl #[.slice A2 o2.length c2, .slice (A.map (fun x => x.add k)) (l.length - k) (c - k)] (wanted_on (u := true) rfl rfl rfl e124) rfl rfl (by simp [Act.eval, e125, e128]) ?_
                refine (HSm.out w' hG).mono ?_
                rintro e w2 ⟨rfl, hd⟩
                exact ⟨_, rfl, hK _ _ rfl (hG.trans (hd.below _)) (hd.below _)⟩
              refine phi_cons ?_ ?_
              · intro a' w' hG hoff hon
                refine ⟨_, rfl, fun K hK => ?_⟩
                obtain ⟨v23, f23, p23⟩ := hon 23 (by kernel_rfl)
                have e124 := f23 124 rfl
                obtain rfl : v23 = .bool true := p23
                obtain ⟨v28, f28, p28⟩ := hon 28 (by kernel_rfl)
                have e129 := f28 129 rfl
                obtain rfl : v28 = .bool true := p28
                refine value_ (w1 := w') (v := .bool true) (by rfl) rfl ?_ ?_
                · go_simp
                  try rfl
                · exact hK _ _ rfl hG (Below.refl _ _)
              refine phi_cons ?_ ?_
              · intro a' w' hG hoff hon
                refine ⟨_, rfl, fun K hK => ?_⟩
                obtain ⟨v29, f29, p29⟩ := hon 29 (by kernel_rfl)
                have e130 := f29 130 rfl
                obtain rfl : v29 = .bool true := p29
                refine value_ (w1 := w') (v := .bool true) (by rfl) rfl ?_ ?_
                · go_simp
                  try rfl
                · exact hK _ _ rfl hG (Below.refl _ _)
              exact phi_nil
            · intro vals w' hG hF
              have hlast : vals 30 = .bool true := hF 30 (by decide)
              simp only [Phi.putAll, Phi.dstOf, List.getElem?_toArray, List.getElem?_cons_succ, List.getElem?_cons_zero, Option.bind_some, Act.put, List.setIfInBounds_toArray, List.set_cons_zero, List.set_cons_succ, hlast]
              have HG := Lib.hid hG
              clear hG hF hlast
              go_wp2_with fail
              go_ret
              exact ⟨rfl, tb HB9.out HG.out⟩
set_option maxRecDepth 100000 in
set_option maxHeartbeats 8000000 in
theorem plain_big {w : World} {A : Option Addr} {c n : Nat} (hl : 400 < n) (hm : n ≤ maxLen) : Calls Try.prog 7 #[.slice A n c] w (PlainPost w) := by
  have hgr := great_calls (n : Int) none none 0 0 0 0
  have e1 : (decide (400 < (n : Int)) || (decide (200 < 0) || decide (200 < 0))) = true := by rw [Bool.eq_iff_iff]; simp; omega
  rw [e1] at hgr
  unfold maxLen at hm
  have HGR := Lib.hid hgr
  clear hgr e1
  go_enter Try.func7, Try.ntmps7
  go_wp2_with fail
  refine (awake_calls _).mono ?_
  rintro e w1 ⟨rfl, hb1⟩
  have HB1 := Lib.hid hb1
  clear hb1
  go_wp2_with fail
  refine (HGR.out _).mono ?_
  rintro e w2 ⟨rfl, rfl⟩
  go_wp2_with fail
  refine (awake_calls _).mono ?_
  rintro e w3 ⟨rfl, hb3⟩
  have HB3 := Lib.hid hb3
  clear hb3
  go_wp2_with fail
  go_ret
  exact ⟨rfl, tb HB1.out HB3.out⟩
theorem u32_pos' {l : List Int} (hg : ∀ x ∈ l, (Lit.int .u32 x).wf = true) : ∀ x ∈ l, 0 ≤ x := by
  intro x hx
  have := hg x hx
  simp [Lit.wf, IntKind.min, IntKind.max, IntKind.signed, IntKind.bits] at this
  omega
open Go.Proofs.YtkfiahildoljfaaW.PrintWords in
theorem compressPlain_row (A : Option Addr) (c : Nat) (l : List Int) (w : World) (hr : (Kd.int .u32).C w A l.length l) (hc : l.length ≤ c) (hm : l.length ≤ maxLen) (hg : ∀ x ∈ l, (Lit.int .u32 x).wf = true) (hn : A = none → c = 0) :
    Calls Try.prog 7 #[.slice A l.length c] w fun e w' => e = .returned (.bool true) ∧ Below w.heap.size w w' := by
  by_cases h : l.length ≤ 400
  · exact plain_small (Dec.lst_arg hr) hc hn h (u32_pos' hg)
  · exact plain_big (by omega) hm
end Go.Proofs.Ytkfiahildoljfaa.Enc
end
