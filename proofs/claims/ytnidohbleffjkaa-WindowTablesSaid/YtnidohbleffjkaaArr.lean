/- An array of two whole numbers as an argument: opened, and shut behind the call. -/
import Derived.OpenShut
import Derived.ChangeSame
import Derived.ProofKit
namespace Go.Proofs.Ytnidohbleffjkaa.Arr
open Go.ChangeShapes Go.WideShapes Go.RowKit
set_option linter.unusedVariables false
section
variable {H : Type} {enc : TypeId × Value → H} {P : Program} {W : World} {base : Nat} {spare : Nat → Bool} {held : Bool}
theorem open_arr2 {t e : TypeId} {k : IntKind} (ht : P.underlying t = some (.array 2 e)) (he : P.underlying e = some (.int k)) (hce : P.cellsOf e = 1) (hct : P.cellsOf t = 2) {r : Reach} {b0 : Nat} {v : Value} {d : DataW H} {ps : List MemPlace}
    (hok : Value.okWide P W r b0 t v) (h : DataW.Trod enc P W base spare held t v d ps) :
    ∃ x y : Int, v = .agg #[.int k x, .int k y] ∧ d = .agg [.lit (.int k x), .lit (.int k y)] ∧ ps = [] ∧ (Lit.int k x).wf = true ∧ (Lit.int k y).wf = true := by
  obtain ⟨cs, rfl, hsz, _⟩ : ∃ cs, v = .agg cs ∧ cs.size = P.cellsOf t ∧ Row.okWide P W r b0 t cs := by
    simpa [Value.okWide, ht] using hok
  rw [hct] at hsz
  obtain ⟨l⟩ := cs
  match l, hsz with
  | [c0, c1], _ =>
    obtain ⟨fuel, hf⟩ := h
    obtain ⟨xs, m, rfl, hx, hlen, hn, hel⟩ := DataW.trod_array ht hf
    match xs, hn with
    | [x0, x1], _ =>
      have h0 := hel 0 (by omega)
      have h1 := hel 1 (by omega)
      simp [hce, Value.cells] at h0 h1
      obtain ⟨n0, e0, rfl, w0⟩ := DataW.trod_int he h0
      obtain ⟨n1, e1, rfl, w1⟩ := DataW.trod_int he h1
      simp at e0 e1
      subst e0 e1
      simp at hx
      obtain ⟨rfl, rfl⟩ := hx
      exact ⟨n0, n1, rfl, rfl, rfl, w0, w1⟩
theorem shut_arr2 {t e : TypeId} {k : IntKind} (ht : P.underlying t = some (.array 2 e)) (he : P.underlying e = some (.int k)) (hce : P.cellsOf e = 1) (hct : P.cellsOf t = 2) {x y : Int} (w0 : (Lit.int k x).wf = true) (w1 : (Lit.int k y).wf = true) :
    DataW.Trod enc P W base spare held t (.agg #[.int k x, .int k y]) (.agg [.lit (.int k x), .lit (.int k y)]) [] :=
  ⟨2, by simp [DataW.trod, Value.cells, ht, he, hct, hce, w0, w1, show List.range 2 = [0, 1] from rfl]⟩
end
end Go.Proofs.Ytnidohbleffjkaa.Arr
