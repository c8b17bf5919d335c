/- Arguments that are rows of rows, of strings, of structs: opened as the print's words read them; no condition beside the reading itself. -/
import Derived.Test.YtkfiahildoljfaaWMore
import Derived.Test.YtkfiahildoljfaaWSized
import Derived.Deep.Slices
import Derived.ChangeSame
import Derived.ProofKit
set_option linter.unusedVariables false
namespace Go.Proofs.Ytkfiahildoljfaa.Open
open Go.ChangeShapes Go.WideShapes Go.RowKit Go.Proofs.YtkfiahildoljfaaW.PrintWords
section
variable {H : Type} {enc : TypeId × Value → H} {P : Program} {W : World} {base : Nat} {spare : Nat → Bool} {held : Bool}
/-- What is read at this type is of this kind, and good. -/
def Opens {α : Type} (enc : TypeId × Value → H) (P : Program) (W : World) (base : Nat) (spare : Nat → Bool) (held : Bool) (d : Kd α) (e : TypeId) (good : α → Prop) : Prop :=
  ∀ fuel cs x, cs.length = d.sz → DataW.trod enc P W base spare held fuel e cs = some x → ∃ y, d.K W y cs ∧ good y
theorem opens_int {k : IntKind} {e : TypeId} (he : P.underlying e = some (.int k)) : Opens enc P W base spare held (Kd.int k) e (fun n => (Lit.int k n).wf = true) := by
  intro fuel cs x _ h
  obtain ⟨n, rfl, _, hw⟩ := DataW.trod_int he h
  exact ⟨n, rfl, hw⟩
theorem opens_string {e : TypeId} (he : P.underlying e = some .string) : Opens enc P W base spare held Kd.string e (fun s => s.size ≤ maxLen) := by
  intro fuel cs x _ h
  obtain ⟨s, rfl, _, hs⟩ := DataW.trod_string he h
  exact ⟨s, rfl, hs⟩
theorem opens_cells {α : Type} {d : Kd α} {e : TypeId} {good : α → Prop} (ho : Opens enc P W base spare held d e good) (hc : P.cellsOf e = d.sz) {a : Addr} {m n : Nat} {D : Nat → DataW H} {Pl : Nat → List MemPlace}
    (h : ∀ i, i < m → ∃ cs', W.cells? base (a.add (i * P.cellsOf e)) (P.cellsOf e) = some cs' ∧ DataW.trod enc P W base spare held n e cs' = some (D i, Pl i)) :
    ∀ len, len ≤ m → ∃ l : List α, l.length = len ∧ (∀ j p, l[j]? = some p → ∃ c, c.length = d.sz ∧ d.K W p c ∧ ∀ i u, c[i]? = some u → W.cell? (a.add (j * d.sz + i)) = some u) ∧ ∀ x ∈ l, good x
  | 0, _ => ⟨[], rfl, fun j p hj => by simp at hj, fun x hx => by cases hx⟩
  | len + 1, hl => by
    obtain ⟨l, h1, h2, h3⟩ := opens_cells ho hc h len (by omega)
    obtain ⟨cs', hcs, ht⟩ := h len (by omega)
    obtain ⟨_, hlen, hcell⟩ := World.cells?_some hcs
    obtain ⟨y, hy, hg⟩ := ho _ _ _ (by omega) ht
    refine ⟨l ++ [y], by simp [h1], fun j p hj => ?_, fun x hx => ?_⟩
    · rcases Nat.lt_or_ge j l.length with hjl | hjl
      · rw [List.getElem?_append_left hjl] at hj
        exact h2 j p hj
      · have hjl' : j = l.length := by
          have := (List.getElem?_eq_some_iff.1 hj).1
          simp at this
          omega
        subst hjl'
        have hp : y = p := by simpa using hj
        subst hp
        refine ⟨cs', by omega, hy, fun i u hu => ?_⟩
        have hi : i < cs'.length := (List.getElem?_eq_some_iff.1 hu).1
        have := hcell i (by omega)
        rw [Deep.add_add, hc] at this
        rw [h1, this, hu]
    · rcases List.mem_append.1 hx with hx | hx
      · exact h3 x hx
      · rw [List.mem_singleton.1 hx]; exact hg
theorem opens_row {α : Type} {d : Kd α} {t e : TypeId} {good : α → Prop} (ht : P.underlying t = some (.slice e)) (hc : P.cellsOf e = d.sz) (ho : Opens enc P W base spare held d e good) {fuel : Nat} {cs : List Value} {x : DataW H × List MemPlace}
    (h : DataW.trod enc P W base spare held fuel t cs = some x) : ∃ (A : Option Addr) (c : Nat) (l : List α), cs = [.slice A l.length c] ∧ l.length ≤ c ∧ c ≤ maxLen ∧ d.C W A l.length l ∧ ∀ x ∈ l, good x := by
  rcases Deep.open_slice ht h with ⟨rfl, _⟩ | ⟨a, len, cap, m, n, D, Pl, rfl, hb, hl, hm, hmm, _, hx⟩
  · exact ⟨none, 0, [], rfl, by simp, by simp, ⟨rfl, by simp, fun hn => absurd hn (by simp)⟩, fun x hx => by cases hx⟩
  · have hlm : len ≤ m := by rw [hmm]; split <;> omega
    obtain ⟨l, h1, h2, h3⟩ := opens_cells ho hc hx len hlm
    subst h1
    exact ⟨some a, cap, l, rfl, hl, hm, ⟨rfl, by simp only [maxLen] at hm; omega, fun _ => ⟨a, rfl, h2⟩⟩, h3⟩
theorem opens_slice {α : Type} {d : Kd α} {t e : TypeId} {good : α → Prop} (ht : P.underlying t = some (.slice e)) (hc : P.cellsOf e = d.sz) (ho : Opens enc P W base spare held d e good) :
    Opens enc P W base spare held (Kd.slice e d) t (fun l => l.length ≤ maxLen ∧ ∀ x ∈ l, good x) := by
  intro fuel cs x _ h
  obtain ⟨A, c, l, rfl, h1, h2, h3, h4⟩ := opens_row ht hc ho h
  exact ⟨l, ⟨A, c, rfl, h1, h3⟩, by omega, h4⟩
/-- A slice argument, opened. -/
theorem open_arg {α : Type} {d : Kd α} {t e : TypeId} {good : α → Prop} (ht : P.underlying t = some (.slice e)) (hc : P.cellsOf e = d.sz) (ho : Opens enc P W base spare held d e good) {a : Option Addr} {len cap : Nat} {y : DataW H} {ps : List MemPlace}
    (h : DataW.Trod enc P W base spare held t (.slice a len cap) y ps) : ∃ l : List α, len = l.length ∧ l.length ≤ cap ∧ l.length ≤ maxLen ∧ d.C W a l.length l ∧ ∀ x ∈ l, good x := by
  obtain ⟨fuel, hf⟩ := h
  obtain ⟨A, c, l, hcs, h1, h2, h3, h4⟩ := opens_row ht hc ho hf
  simp [Value.cells] at hcs
  obtain ⟨rfl, rfl, rfl⟩ := hcs
  exact ⟨l, rfl, h1, by omega, h3, h4⟩
/-- A row's slice is no longer than its weight allows. -/
theorem sized_any {ts : List TypeId} {ds : List (DataW H)} {j : Nat} {t e : TypeId} {a : Option Addr} {len cap : Nat} {d : DataW H} {ps : List MemPlace}
    (hsz : (DataW.weightsEach P ts ds).all (· ≤ reachBytes) = true) (ht : ts[j]? = some t) (hd : ds[j]? = some d) (hu : P.underlying t = some (.slice e)) {B : Nat} (hB : P.bytesOf e = B)
    (h : DataW.Trod enc P W base spare held t (.slice a len cap) d ps) : len * B ≤ 140737488351232 := by
  obtain ⟨fuel, hf⟩ := h
  rcases Deep.open_slice hu hf with ⟨hcs, _⟩ | ⟨x, l, c, m, n, D, Pl, hcs, _, hl, _, _, hx, _⟩
  · simp [Value.cells] at hcs
    obtain ⟨rfl, rfl, rfl⟩ := hcs
    simp
  · simp [Value.cells] at hcs
    obtain ⟨rfl, rfl, rfl⟩ := hcs
    obtain ⟨hx, _⟩ := Prod.mk.inj hx
    subst hx
    have z := sized_slice hsz ht hd hu
    rw [hB] at z
    refine Nat.le_trans (Nat.mul_le_mul_right _ ?_) z
    simp
end
end Go.Proofs.Ytkfiahildoljfaa.Open
