/- The compressor as a machine over scalars; plain; and what a feeding has done. -/
import Derived.Test.YtkfiahildoljfaaEnc9
import Derived.Test.YtkfiahildoljfaaLst
namespace Go.Proofs.Ytkfiahildoljfaa.Enc
open Go.RowKit Go.Proofs.Ytkfiahildoljfaa.Win Go.Proofs.Ytkfiahildoljfaa.Stp Go.Proofs.Ytkfiahildoljfaa.Lst
set_option linter.unusedVariables false
set_option linter.unusedSimpArgs false
def pushC (m : E) (c : Int) : E × List Int := if m.wt = 2147483648 then ({ m with wt := c }, []) else ({ (workC m m.wt c).1 with wt := c }, (workC m m.wt c).2)
def pushes (m : E) : List Int → E × List Int
  | [] => (m, [])
  | c :: cs => ((pushes (pushC m c).1 cs).1, (pushC m c).2 ++ (pushes (pushC m c).1 cs).2)
theorem pushes_snoc (c : Int) : ∀ (cs : List Int) (m : E), pushes m (cs ++ [c]) = ((pushC (pushes m cs).1 c).1, (pushes m cs).2 ++ (pushC (pushes m cs).1 c).2)
  | [], m => by simp [pushes]
  | x :: cs, m => by
    have ih := pushes_snoc c cs (pushC m x).1
    simp only [pushes, List.cons_append]
    rw [ih]
    simp
theorem simple_len {m : E} {c : Int} {e : List Int} (h : simpleC m c = some e) : e.length ≤ 2 := by
  unfold simpleC at h
  split at h
  · injection h with h; rw [← h]; simp
  · split at h
    · injection h with h; rw [← h]; simp
    · split at h
      · injection h with h; rw [← h]; simp
      · cases h
theorem units_len (c : Int) : (unitsC c).length ≤ 4 := by
  unfold unitsC
  split
  · simp
  · split <;> simp
theorem lay_len (m : E) (c ix pr : Int) : (layE m c ix pr).length ≤ 4 := by
  unfold layE
  split <;> simp
theorem single_len (m : E) (c d : Int) : (singleC m c d).2.length ≤ 5 := by
  unfold singleC
  cases hs : simpleC m c with
  | some e => have := simple_len hs; simp only; omega
  | none =>
    simp only
    split
    · split <;> simp
    · split
      · simp
      · split
        · have := lay_len m c 24 11; simp only; omega
        · split
          · simp
          · have := units_len c; simp only [List.length_cons]; omega
theorem work_len (m : E) (c d : Int) : (workC m c d).2.length ≤ 10 := by
  unfold workC
  split
  · simp
  · split
    · split
      · have := units_len c; simp only; omega
      · split
        · rename_i e hs; have := simple_len hs; simp only; omega
        · have := units_len c; simp only [List.length_cons]; omega
    · split
      · have := single_len { m with beh := true } c d; omega
      · split
        · cases hs : simpleC (backC m c) c with
          | some e => have := simple_len hs; simp; omega
          | none => simp
        · split
          · have := lay_len { m with beh := true } c 232 241; simp only; omega
          · have := units_len c; simp only; omega
theorem push_len (m : E) (c : Int) : (pushC m c).2.length ≤ 10 := by
  unfold pushC
  split
  · simp
  · exact work_len _ _ _
theorem pushes_len : ∀ (cs : List Int) (m : E), (pushes m cs).2.length ≤ 10 * cs.length
  | [], m => by simp [pushes]
  | x :: cs, m => by
    have h1 := push_len m x
    have h2 := pushes_len cs (pushC m x).1
    simp only [pushes, List.length_append, List.length_cons]
    omega
theorem flush_len (m : E) : (flushC m).2.length ≤ 10 := by
  unfold flushC
  split
  · simp
  · exact work_len _ _ _
theorem isB_rng {c : Int} (h : isB c = true) : c ≤ 1114111 := by
  unfold isB at h
  simp only [Bool.and_eq_true, decide_eq_true_eq] at h
  exact h.1
theorem EG.push {m : E} {c : Int} (h : EG m) (hw : Wt m) : EG (pushC m c).1 := by
  unfold pushC
  split
  · exact h.same rfl rfl rfl
  · rename_i hne
    rcases hw with h1 | ⟨h1, h2⟩
    · exact absurd h1 hne
    · exact (h.work h1 h2).same rfl rfl rfl
theorem wt_push (m : E) (c : Int) : (pushC m c).1.wt = c := by
  unfold pushC
  split <;> rfl
/-- What a feeding has done. -/
structure FedE (b : B4) (m : E) (p : List Int) (l : List Int) (room : Int) (n : Nat) (S : List Int) (b' : B4) (m' : E) (p' : List Int) : Prop where
  le : n ≤ l.length
  sc : ∀ c ∈ l.take n, isB c = true
  fits : (S.length : Int) ≤ room ∨ S = []
  full : p' = [] ∨ room ≤ (S.length : Int)
  go : n ≠ 0 → b.going = true
  way : (b.going = true ∧ n < l.length ∧ isB (l.getD n 0) = false ∧ m' = (flushC (pushes m (l.take n)).1).1 ∧ S ++ p' = p ++ (pushes m (l.take n)).2 ++ (flushC (pushes m (l.take n)).1).2 ∧ b' = { b with at_ := b.at_ + n, err := 2, pl := b.at_ + n }) ∨
    (m' = (pushes m (l.take n)).1 ∧ S ++ p' = p ++ (pushes m (l.take n)).2 ∧ b' = { b with at_ := b.at_ + n } ∧ (n = l.length ∨ p' ≠ [] ∨ b.going = false))
theorem clip_spec (r : Int) (n : Nat) : clipN r n ≤ n ∧ ((clipN r n : Int) ≤ r ∨ clipN r n = 0) ∧ (clipN r n = n ∨ r ≤ (clipN r n : Int)) := by
  unfold clipN
  refine ⟨?_, ?_, ?_⟩ <;> (repeat' (first | omega | split))
/-- More is given. -/
theorem give_more {S q : List Int} {room : Int} (h1 : (S.length : Int) ≤ room ∨ S = []) :
    (((S ++ q.take (clipN (room - S.length) q.length)).length : Int) ≤ room ∨ S ++ q.take (clipN (room - S.length) q.length) = []) ∧
    (q.drop (clipN (room - S.length) q.length) = [] ∨ room ≤ ((S ++ q.take (clipN (room - S.length) q.length)).length : Int)) ∧
    (S ++ q.take (clipN (room - S.length) q.length)) ++ q.drop (clipN (room - S.length) q.length) = S ++ q := by
  obtain ⟨c1, c2, c3⟩ := clip_spec (room - S.length) q.length
  generalize clipN (room - S.length) q.length = k at c1 c2 c3
  have hl : (S ++ q.take k).length = S.length + k := by rw [List.length_append, List.length_take, Nat.min_eq_left c1]
  refine ⟨?_, ?_, by rw [List.append_assoc, List.take_append_drop]⟩
  · rw [hl]
    rcases c2 with c2 | c2
    · left; omega
    · rcases h1 with h1 | h1
      · left; omega
      · right; rw [h1, c2]; simp
  · rw [hl]
    rcases c3 with c3 | c3
    · left; rw [c3, List.drop_length]
    · right; omega
end Go.Proofs.Ytkfiahildoljfaa.Enc
