/- The expander as a machine over bytes: what a byte does; plain. -/
import Derived.Test.YtkfiahildoljfaaWin4
namespace Go.Proofs.Ytkfiahildoljfaa.Mach
open Go.Proofs.Ytkfiahildoljfaa.Win
set_option linter.unusedVariables false
/-- Where a text stands. -/
structure M where
  o : List Int
  uni : Bool
  act : Int
  beg : Int
  n : Int
  first : Int
  upper : Int
def low8 (b : Int) : Bool := decide (220 ≤ b) && decide (b ≤ 223)
def M.fits (m : M) (b : Int) : Bool := low8 b == decide (m.upper ≠ 0)
def M.begin (m : M) (k n : Int) : M := { m with beg := k, n := n }
def M.activate (m : M) (n : Int) : M := { m with act := n, uni := false, beg := 0 }
def pass (b : Int) : Bool := decide (32 ≤ b) || decide (b = 0) || decide (b = 9) || decide (b = 10) || decide (b = 13)
def single (m : M) (b : Int) : Option (M × List Int) :=
  if (m.upper ≠ 0 ∧ b ≠ 14) ∨ b = 12 then none
  else if 128 ≤ b then some (m, [wAt m.o m.act + b - 128])
  else if pass b = true then some (m, [b])
  else if 24 ≤ b then some (m.begin 2 (b - 24), [])
  else if 16 ≤ b then some (m.activate (b - 16), [])
  else if b = 15 then some ({ m with uni := true }, [])
  else if b = 14 then some (m.begin 5 0, [])
  else if b = 11 then some (m.begin 3 0, [])
  else some (m.begin 1 (b - 1), [])
def double (m : M) (b : Int) : Option (M × List Int) :=
  if b < 224 ∨ 242 < b then (if m.fits b = true then some (({ m with first := b } : M).begin 6 0, []) else none)
  else if b = 240 then some (m.begin 5 0, [])
  else if m.upper ≠ 0 ∨ b = 242 then none
  else if b = 241 then some (m.begin 3 0, [])
  else if 232 ≤ b then some (m.begin 2 (b - 232), [])
  else some (m.activate (b - 224), [])
def whole (m : M) (u : Int) : M × List Int :=
  if m.upper ≠ 0 then ({ m with beg := 0, upper := 0 }, [65536 + m.upper % 1024 * 1024 + u % 1024])
  else if 55296 ≤ u ∧ u < 56320 then ({ m with beg := 0, upper := u }, [])
  else ({ m with beg := 0 }, [u])
def more (m : M) (b : Int) : Option (M × List Int) :=
  if m.beg = 1 then some ({ m with beg := 0 }, [if 128 ≤ b then wAt m.o m.n - 128 + b else (wStatic m.n).1 + b])
  else if m.beg = 2 then (if (wOffset b).2 = true then some (({ m with o := m.o.set m.n.toNat (wOffset b).1 } : M).activate m.n, []) else none)
  else if m.beg = 3 then some ({ m with first := b, beg := 4 }, [])
  else if m.beg = 4 then some (({ m with o := m.o.set (m.first / 32).toNat (65536 + 128 * (m.first % 32 * 256 + b)) } : M).activate (m.first / 32), [])
  else if m.beg = 5 then (if m.fits b = true then some (({ m with first := b } : M).begin 6 0, []) else none)
  else some (whole m (m.first * 256 + b))
def step (m : M) (b : Int) : Option (M × List Int) := if m.beg ≠ 0 then more m b else if m.uni = true then double m b else single m b
/-- What is always so. -/
structure Good (m : M) : Prop where
  lo : m.o.length = 8
  ro : ∀ x ∈ m.o, 128 ≤ x ∧ x ≤ 1114000
  act : 0 ≤ m.act ∧ m.act < 8
  n : 0 ≤ m.n ∧ m.n < 8
  first : 0 ≤ m.first ∧ m.first ≤ 255
  upper : m.upper = 0 ∨ 55296 ≤ m.upper ∧ m.upper < 56320
  beg : 0 ≤ m.beg ∧ m.beg ≤ 6
theorem Good.at_ {m : M} (h : Good m) {n : Int} (h0 : 0 ≤ n) (h1 : n < 8) : 128 ≤ wAt m.o n ∧ wAt m.o n ≤ 1114000 := by
  unfold wAt
  rw [if_pos ⟨h0, h1⟩, List.getD_eq_getElem?_getD, List.getElem?_eq_getElem (by rw [h.lo]; omega)]
  exact h.ro _ (List.getElem_mem _)
theorem offset_rng {b : Int} (h0 : 0 ≤ b) (h1 : b ≤ 255) (h : (wOffset b).2 = true) : 128 ≤ (wOffset b).1 ∧ (wOffset b).1 ≤ 1114000 := by
  have key : ∀ b : Fin 256, (wOffset (b.val : Int)).2 = true → 128 ≤ (wOffset (b.val : Int)).1 ∧ (wOffset (b.val : Int)).1 ≤ 1114000 := by decide +kernel
  have := key ⟨b.toNat, by omega⟩
  simp only [Int.toNat_of_nonneg h0] at this
  exact this h
theorem static_rng {n : Int} (h0 : 0 ≤ n) (h1 : n < 8) : 0 ≤ (wStatic n).1 ∧ (wStatic n).1 ≤ 12288 := by
  have key : ∀ b : Fin 8, 0 ≤ (wStatic (b.val : Int)).1 ∧ (wStatic (b.val : Int)).1 ≤ 12288 := by decide +kernel
  have := key ⟨n.toNat, by omega⟩
  simp only [Int.toNat_of_nonneg h0] at this
  exact this
theorem set_rng {o : List Int} (h : ∀ x ∈ o, 128 ≤ x ∧ x ≤ 1114000) (j : Nat) {c : Int} (hc : 128 ≤ c ∧ c ≤ 1114000) : ∀ x ∈ o.set j c, 128 ≤ x ∧ x ≤ 1114000 := by
  intro x hx
  rcases List.mem_or_eq_of_mem_set hx with hx | rfl
  · exact h x hx
  · exact hc
theorem good_step {m m' : M} {b : Int} {e : List Int} (h : Good m) (b0 : 0 ≤ b) (b1 : b ≤ 255) (hs : step m b = some (m', e)) : Good m' := by
  obtain ⟨h1, h2, h3, h4, h5, h6, h7⟩ := h
  unfold step at hs
  split at hs
  · unfold more whole at hs
    repeat' split at hs
    all_goals first
      | (cases hs; done)
      | (simp only [Option.some.injEq, Prod.mk.injEq] at hs
         obtain ⟨rfl, _⟩ := hs
         first
         | exact ⟨h1, h2, h3, h4, h5, h6, by simp⟩
         | exact ⟨h1, h2, h3, h4, h5, .inl rfl, by simp⟩
         | exact ⟨h1, h2, h3, h4, h5, .inr ‹_›, by simp⟩
         | exact ⟨h1, h2, h3, h4, ⟨b0, b1⟩, h6, by simp⟩
         | exact ⟨h1, h2, h3, by simp [M.begin], ⟨b0, b1⟩, h6, by simp [M.begin]⟩
         | exact ⟨by simp [M.activate, h1], set_rng h2 _ (offset_rng b0 b1 ‹_›), h4, h4, h5, h6, by simp [M.activate]⟩
         | exact ⟨by simp [M.activate, h1], set_rng h2 _ (by omega), by simp only [M.activate]; omega, h4, h5, h6, by simp [M.activate]⟩)
  · split at hs
    · unfold double at hs
      repeat' split at hs
      all_goals first
        | (cases hs; done)
        | (simp only [Option.some.injEq, Prod.mk.injEq] at hs
           obtain ⟨rfl, _⟩ := hs
           first
           | (refine ⟨h1, h2, h3, ?_, h5, h6, ?_⟩ <;> (simp only [M.begin]; omega))
           | (refine ⟨h1, h2, h3, ?_, ⟨b0, b1⟩, h6, ?_⟩ <;> (simp only [M.begin]; omega))
           | (refine ⟨h1, h2, ?_, h4, h5, h6, ?_⟩ <;> (simp only [M.activate]; omega)))
    · unfold single at hs
      repeat' split at hs
      all_goals first
        | (cases hs; done)
        | (simp only [Option.some.injEq, Prod.mk.injEq] at hs
           obtain ⟨rfl, _⟩ := hs
           first
           | exact ⟨h1, h2, h3, h4, h5, h6, h7⟩
           | (refine ⟨h1, h2, h3, ?_, h5, h6, ?_⟩ <;> (simp only [M.begin]; first | omega | (simp only [pass, Bool.or_eq_true, decide_eq_true_eq, not_or] at *; omega)))
           | (refine ⟨h1, h2, ?_, h4, h5, h6, ?_⟩ <;> (simp only [M.activate]; omega)))
end Go.Proofs.Ytkfiahildoljfaa.Mach
