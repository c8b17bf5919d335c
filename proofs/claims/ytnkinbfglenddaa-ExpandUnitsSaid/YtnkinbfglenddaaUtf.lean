/- Big UTF-16 behind 0F: what the machine makes of it; plain. -/
import Derived.Test.YtnkinbfglenddaaUnits2
import Derived.Test.YtnkinbfglenddaaLawWin
namespace Go.Proofs.Ytnkinbfglenddaa.Dec
open Go.RowKit Go.Proofs.Ytnkinbfglenddaa.Win Go.Proofs.Ytnkinbfglenddaa.Stp Go.Proofs.Ytnkinbfglenddaa.Mach Go.Proofs.Ytnkinbfglenddaa.Lst
set_option linter.unusedVariables false
set_option linter.unusedSimpArgs false
def enc1 (u : Int) : List Int := (if 224 ≤ u / 256 ∧ u / 256 ≤ 242 then [240] else []) ++ [u / 256, u % 256]
def enc2 (u : Int) : List Int := [240, u / 256, u % 256]
/-- A state in which units come. -/
structure Uni (m : M) (v : Int) : Prop where
  uni : m.uni = true
  beg : m.beg = 0
  upper : m.upper = v
theorem hi_step {m : M} {v b : Int} (h : Uni m v) (hf : low8 b = decide (v ≠ 0)) (hb : b < 224 ∨ 242 < b) : Mach.step m b = some (({ m with first := b } : M).begin 6 0, []) := by
  rw [dbl h.beg h.uni]
  unfold double
  rw [if_pos hb, if_pos]
  unfold M.fits
  rw [h.upper, hf]
  simp
theorem q_step {m : M} {v b : Int} (h : Uni m v) (hf : low8 b = decide (v ≠ 0)) : Mach.step m 240 = some (m.begin 5 0, []) ∧ Mach.step (m.begin 5 0) b = some (({ (m.begin 5 0) with first := b } : M).begin 6 0, []) := by
  refine ⟨?_, ?_⟩
  · rw [dbl h.beg h.uni]
    unfold double
    rw [if_neg (by decide), if_pos rfl]
  · rw [mor (by unfold M.begin; simp)]
    have hb : (m.begin 5 0).beg = 5 := rfl
    have hfit : (m.begin 5 0).fits b = true := by
      show m.fits b = true
      unfold M.fits
      rw [h.upper, hf]
      simp
    unfold more
    rw [hb, if_neg (by decide), if_neg (by decide), if_neg (by decide), if_neg (by decide), if_pos rfl, if_pos hfit]
    rfl
def wholeE (v u : Int) : List Int := if v ≠ 0 then [65536 + v % 1024 * 1024 + u % 1024] else if 55296 ≤ u ∧ u < 56320 then [] else [u]
def wholeU (v u : Int) : Int := if v ≠ 0 then 0 else if 55296 ≤ u ∧ u < 56320 then u else 0
theorem whole_step {m : M} {v u : Int} (hb : m.beg = 6) (hu : m.uni = true) (hv : m.upper = v) (hf : m.first = u / 256) : ∃ m', Mach.step m (u % 256) = some (m', wholeE v u) ∧ Uni m' (wholeU v u) := by
  have e : m.first * 256 + u % 256 = u := by rw [hf]; omega
  rw [mor (by rw [hb]; decide)]
  unfold more
  rw [hb, if_neg (by decide), if_neg (by decide), if_neg (by decide), if_neg (by decide), if_neg (by decide), e]
  unfold whole wholeE wholeU
  rw [hv]
  by_cases h0 : v ≠ 0
  · rw [if_pos h0, if_pos h0, if_pos h0]
    exact ⟨_, rfl, hu, rfl, rfl⟩
  · rw [if_neg h0, if_neg h0, if_neg h0]
    by_cases h1 : 55296 ≤ u ∧ u < 56320
    · rw [if_pos h1, if_pos h1, if_pos h1]
      exact ⟨_, rfl, hu, rfl, rfl⟩
    · rw [if_neg h1, if_neg h1, if_neg h1]
      refine ⟨_, rfl, hu, rfl, ?_⟩
      show v = 0
      simpa using h0
theorem unit2 {m : M} {v u : Int} (h : Uni m v) (hf : low8 (u / 256) = decide (v ≠ 0)) : ∃ m', steps m (enc2 u) = some (m', wholeE v u) ∧ Uni m' (wholeU v u) := by
  obtain ⟨q1, q2⟩ := q_step h hf
  obtain ⟨m', q3, q4⟩ := whole_step (m := ({ (m.begin 5 0) with first := u / 256 } : M).begin 6 0) (v := v) (u := u) rfl h.uni h.upper rfl
  refine ⟨m', ?_, q4⟩
  unfold enc2
  simp only [steps, q1, q2, q3]
  simp
theorem unit1 {m : M} {v u : Int} (h : Uni m v) (hf : low8 (u / 256) = decide (v ≠ 0)) : ∃ m', steps m (enc1 u) = some (m', wholeE v u) ∧ Uni m' (wholeU v u) := by
  by_cases hq : 224 ≤ u / 256 ∧ u / 256 ≤ 242
  · have e : enc1 u = enc2 u := by unfold enc1 enc2; rw [if_pos hq]; rfl
    rw [e]
    exact unit2 h hf
  · have q1 := hi_step h hf (by omega)
    obtain ⟨m', q3, q4⟩ := whole_step (m := ({ m with first := u / 256 } : M).begin 6 0) (v := v) (u := u) rfl h.uni h.upper rfl
    refine ⟨m', ?_, q4⟩
    unfold enc1
    rw [if_neg hq]
    simp only [steps, List.nil_append, q1, q3]
    simp
/-- A way of writing units. -/
def Writes (enc : Int → List Int) : Prop := ∀ (m : M) (v u : Int), Uni m v → low8 (u / 256) = decide (v ≠ 0) → ∃ m', steps m (enc u) = some (m', wholeE v u) ∧ Uni m' (wholeU v u)
theorem scalar {enc : Int → List Int} (he : Writes enc) {m : M} {c : Int} (h : Uni m 0) (h0 : 0 ≤ c) (hs : isS c = true) : ∃ m', steps m ((units c).flatMap enc) = some (m', [c]) ∧ Uni m' 0 := by
  rw [isS_iff] at hs
  unfold units
  by_cases hc : c < 65536
  · rw [if_pos hc]
    obtain ⟨m', q1, q2⟩ := he m 0 c h (by unfold low8; simp; omega)
    have e1 : wholeE 0 c = [c] := by unfold wholeE; rw [if_neg (by simp), if_neg (by omega)]
    have e2 : wholeU 0 c = 0 := by unfold wholeU; rw [if_neg (by simp), if_neg (by omega)]
    rw [e1] at q1
    rw [e2] at q2
    exact ⟨m', by simpa using q1, q2⟩
  · rw [if_neg hc]
    obtain ⟨a, ha⟩ : ∃ a, a = 55296 + (c - 65536) / 1024 := ⟨_, rfl⟩
    obtain ⟨b, hb⟩ : ∃ b, b = 56320 + (c - 65536) % 1024 := ⟨_, rfl⟩
    rw [← ha, ← hb]
    obtain ⟨m1, q1, q2⟩ := he m 0 a h (by unfold low8; simp; omega)
    have e1 : wholeE 0 a = [] := by unfold wholeE; rw [if_neg (by simp), if_pos (by omega)]
    have e2 : wholeU 0 a = a := by unfold wholeU; rw [if_neg (by simp), if_pos (by omega)]
    rw [e1] at q1
    rw [e2] at q2
    obtain ⟨m2, q3, q4⟩ := he m1 a b q2 (by
      have : decide (a ≠ 0) = true := by simp; omega
      rw [this]
      unfold low8; simp; omega)
    have e3 : wholeE a b = [c] := by unfold wholeE; rw [if_pos (by omega)]; congr 1; omega
    have e4 : wholeU a b = 0 := by unfold wholeU; rw [if_pos (by omega)]
    rw [e3] at q3
    rw [e4] at q4
    refine ⟨m2, ?_, q4⟩
    have := steps_append q1 q3
    simpa using this
theorem scalars {enc : Int → List Int} (he : Writes enc) : ∀ {l : List Int} {m : M}, Uni m 0 → (∀ c ∈ l, 0 ≤ c ∧ isS c = true) → ∃ m', steps m ((l.flatMap units).flatMap enc) = some (m', l) ∧ Uni m' 0
  | [], m, h, _ => ⟨m, rfl, h⟩
  | c :: l, m, h, ha => by
    obtain ⟨m1, q1, q2⟩ := scalar he h (ha c List.mem_cons_self).1 (ha c List.mem_cons_self).2
    obtain ⟨m2, q3, q4⟩ := scalars he q2 (fun x hx => ha x (List.mem_cons_of_mem _ hx))
    refine ⟨m2, ?_, q4⟩
    rw [List.flatMap_cons, List.flatMap_append]
    exact steps_append q1 q3
theorem behind_0f {enc : Int → List Int} (he : Writes enc) {l : List Int} (ha : ∀ c ∈ l, 0 ≤ c ∧ isS c = true) : ∃ m', steps m0 (15 :: (l.flatMap units).flatMap enc) = some (m', l) := by
  obtain ⟨m', q1, _⟩ := scalars he (m := { m0 with uni := true }) ⟨rfl, rfl, rfl⟩ ha
  have e : Mach.step m0 15 = some ({ m0 with uni := true }, []) := rfl
  refine ⟨m', ?_⟩
  simp only [steps, e, q1]
  simp
theorem writes1 : Writes enc1 := fun _ _ _ => unit1
theorem writes2 : Writes enc2 := fun _ _ _ => unit2
end Go.Proofs.Ytnkinbfglenddaa.Dec
