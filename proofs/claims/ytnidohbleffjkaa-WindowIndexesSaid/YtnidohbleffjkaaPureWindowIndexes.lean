/- WindowIndexes over numbers: any number has the index that the reference says, or none; and the window that it stands for holds it. -/
import Derived.Test.YtnidohbleffjkaaQWindowIndexesx1
namespace Go.Proofs.Ytnidohbleffjkaa.Pure
open Go.RowKit Go.Proofs.Ytnidohbleffjkaa.QWindowIndexes Go.Proofs.YtnidohbleffjkaaW.PrintWords Go.Proofs.YtnidohbleffjkaaW.PrintLast Go.Proofs.YtnidohbleffjkaaW.PrintMore Go.Proofs.Ytnidohbleffjkaa.Hand Go.Proofs.Ytnidohbleffjkaa.Win
set_option linter.unusedVariables false
theorem u64w {n : Int} (h0 : 0 ≤ n) (h1 : n ≤ 18446744073709551615) : IntKind.u64.wrap n = n := by rw [IntKind.wrap_u64]; omega
theorem i64w {n : Int} (h0 : -9223372036854775808 ≤ n) (h1 : n ≤ 9223372036854775807) : wrap64 n = n := by unfold wrap64; omega
theorem hld_iff (o c : Int) : hld o c = true ↔ o ≤ c ∧ c < o + 128 := by unfold hld; simp; omega
theorem holds_ref (o c : Int) (o0 : 0 ≤ o) (o1 : o ≤ 4294967295) (c0 : 0 ≤ c) (c1 : c ≤ 4294967295) : pilcrowref13_Holds.f o c = some (hld o c) := by
  unfold pilcrowref13_Holds.f
  rw [u64w (n := o) (by omega) (by omega), u64w (n := c) (by omega) (by omega), u64w (n := o + 128) (by omega) (by omega)]
  by_cases h : c ≥ o
  · rw [if_pos h]
    congr 1
    rw [Bool.eq_iff_iff, hld_iff]
    simp; omega
  · rw [if_neg h]
    congr 1
    symm
    rw [← Bool.not_eq_true, hld_iff]
    omega
theorem holds_go (o c : Int) (o0 : 0 ≤ o) (o1 : o ≤ 4294967295) (c0 : 0 ≤ c) (c1 : c ≤ 4294967295) : window_Holds.f o c = some (hld o c) := by
  unfold window_Holds.f
  by_cases h : c ≥ o
  · rw [if_pos h]
    congr 1
    rw [Bool.eq_iff_iff, hld_iff]
    simp; omega
  · rw [if_neg h]
    congr 1
    symm
    rw [← Bool.not_eq_true, hld_iff]
    omega
def offR (x : Int) : Int := if x ≤ 103 then 128 * x else 128 * x + 44032
theorem off_low (x : Int) (k : Nat) (h0 : 1 ≤ x) (h1 : x ≤ 167) : pilcrowref13_Offset.f (k + 2) x = some (offR x, true) := by
  unfold pilcrowref13_Offset.f offR
  rw [if_pos h0]
  by_cases h : x ≤ 103
  · rw [if_pos h, show decide (x ≤ 103) = true from by simpa using h]
    simp only [pilcrowref13_Offset.j0, if_true]
    rw [i64w (by omega) (by omega), show 128 * x % 4294967296 = 128 * x from by omega]
  · rw [if_neg h, show decide (x ≤ 103) = false from by simpa using h]
    simp only [pilcrowref13_Offset.j0, Bool.false_eq_true, if_false]
    rw [if_pos (by omega), show decide (x ≤ 167) = true from by simpa using h1]
    simp only [pilcrowref13_Offset.j1, if_true]
    rw [i64w (n := 128 * x) (by omega) (by omega), i64w (by omega) (by omega), show (128 * x + 44032) % 4294967296 = 128 * x + 44032 from by omega]
theorem off_high : ∀ j : Fin 7, pilcrowref13_Offset.f 10 (249 + (j.val : Int)) = some (specials.getD j.val 0, true) := by decide +kernel
theorem off_high_k (j : Nat) (hj : j < 7) (k : Nat) (hk : 10 ≤ k) : pilcrowref13_Offset.f k (249 + (j : Int)) = some (specials.getD j 0, true) :=
  at_rounds (pilcrowref13_Offset.mono _) hk (off_high ⟨j, hj⟩)
theorem specials_in : ∀ j : Fin 7, 0 ≤ specials.getD j.val 0 ∧ specials.getD j.val 0 ≤ 4294967295 := by decide +kernel
def low (c : Int) : Int := if 128 ≤ c ∧ c < 13312 then c / 128 else if 57344 ≤ c ∧ c < 65536 then (c - 44032) / 128 else -1
theorem low_loop (c : Int) (c0 : 0 ≤ c) (c1 : c ≤ 4294967295) : ∀ (d k : Nat) (x : Int), x + d = 168 → 1 ≤ x → d + 10 ≤ k → (∀ y, 1 ≤ y → y < x → hld (offR y) c = false) → pilcrowref13_Index.l1 k c x = some (low c)
  | 0, k, x, hx, h1, hk, hno => by
    obtain ⟨k, rfl⟩ : ∃ q, k = q + 1 := ⟨k - 1, by omega⟩
    simp only [pilcrowref13_Index.l1]
    rw [if_neg (by omega)]
    congr 1
    symm
    unfold low
    by_cases ha : 128 ≤ c ∧ c < 13312
    · exfalso
      have := hno (c / 128) (by omega) (by omega)
      rw [← Bool.not_eq_true, hld_iff] at this
      unfold offR at this
      rw [if_pos (by omega)] at this
      omega
    · rw [if_neg ha]
      by_cases hb : 57344 ≤ c ∧ c < 65536
      · exfalso
        have := hno ((c - 44032) / 128) (by omega) (by omega)
        rw [← Bool.not_eq_true, hld_iff] at this
        unfold offR at this
        rw [if_neg (by omega)] at this
        omega
      · rw [if_neg hb]
  | d + 1, k, x, hx, h1, hk, hno => by
    obtain ⟨k, rfl⟩ : ∃ q, k = q + 1 + 2 := ⟨k - 3, by omega⟩
    have hoff : 0 ≤ offR x ∧ offR x ≤ 4294967295 := by unfold offR; split <;> omega
    rw [pilcrowref13_Index.l1]
    rw [if_pos (by omega), off_low x _ h1 (by omega)]
    simp only [Option.bind_some]
    rw [holds_ref _ _ hoff.1 hoff.2 c0 c1, i64w (n := x + 1) (by omega) (by omega)]
    simp only [Option.bind_some]
    by_cases hp : hld (offR x) c = true
    · rw [if_pos hp]
      congr 1
      rw [hld_iff] at hp
      unfold offR at hp
      unfold low
      by_cases h : x ≤ 103
      · rw [if_pos h] at hp; rw [if_pos (by omega)]; omega
      · rw [if_neg h] at hp; rw [if_neg (by omega), if_pos (by omega)]; omega
    · rw [if_neg hp]
      refine low_loop c c0 c1 d (k + 2) (x + 1) (by omega) (by omega) (by omega) (fun y hy0 hy1 => ?_)
      rcases Int.lt_or_le y x with hlt | hge
      · exact hno y hy0 hlt
      · have : y = x := by omega
        subst this
        simpa using hp
theorem high_loop (c : Int) (c0 : 0 ≤ c) (c1 : c ≤ 4294967295) : ∀ (d j k : Nat), j + d = 7 → d + 200 ≤ k → pilcrowref13_Index.l0 k c (249 + (j : Int)) = some (match idxFrom c j (specials.drop j) with | some n => 249 + (n : Int) | none => low c)
  | 0, j, k, hj, hk => by
    obtain ⟨k, rfl⟩ : ∃ q, k = q + 1 := ⟨k - 1, by omega⟩
    obtain rfl : j = 7 := by omega
    simp only [pilcrowref13_Index.l0]
    rw [if_neg (by decide)]
    exact low_loop c c0 c1 167 k 1 (by decide) (by decide) (by omega) (fun y h0 h1 => by omega)
  | d + 1, j, k, hj, hk => by
    obtain ⟨k, rfl⟩ : ∃ q, k = q + 1 := ⟨k - 1, by omega⟩
    have hs := specials_in ⟨j, by omega⟩
    have hlen : specials.length = 7 := rfl
    simp only [pilcrowref13_Index.l0]
    rw [if_pos (by omega), off_high_k j (by omega) k (by omega)]
    simp only [Option.bind_some]
    rw [holds_ref _ _ hs.1 hs.2 c0 c1, i64w (by omega) (by omega), show (249 : Int) + j + 1 = 249 + ((j + 1 : Nat) : Int) from by omega, high_loop c c0 c1 d (j + 1) k (by omega) (by omega)]
    simp only [Option.bind_some]
    rw [List.drop_eq_getElem_cons (show j < specials.length by omega)]
    simp only [idxFrom]
    rw [List.getD_eq_getElem?_getD, List.getElem?_eq_getElem (show j < specials.length by omega)]
    simp only [Option.getD_some]
    by_cases hp : hld specials[j] c = true
    · rw [if_pos hp, if_pos hp]
    · rw [if_neg hp, if_neg hp]
theorem idx_some (c : Int) : ∀ (l : List Int) (n m : Nat), idxFrom c n l = some m → ∃ i, i < l.length ∧ m = n + i ∧ hld (l.getD i 0) c = true
  | [], n, m, h => by simp [idxFrom] at h
  | x :: l, n, m, h => by
    simp only [idxFrom] at h
    by_cases hp : hld x c = true
    · rw [if_pos hp] at h
      injection h with h
      exact ⟨0, by simp, by omega, by simpa using hp⟩
    · rw [if_neg hp] at h
      obtain ⟨i, h1, h2, h3⟩ := idx_some c l (n + 1) m h
      exact ⟨i + 1, by simpa using h1, by omega, by simpa using h3⟩
theorem woff_high : ∀ j : Fin 7, wOffset (249 + (j.val : Int)) = (specials.getD j.val 0, true) := by decide +kernel
theorem WindowIndexes : pilcrowlaw13_WindowIndexes.Pure := by
  intro c hc
  obtain ⟨c0, c1⟩ : 0 ≤ c ∧ c ≤ 4294967295 := by
    simp [Lit.wf, IntKind.min, IntKind.max, IntKind.signed, IntKind.bits] at hc
    omega
  obtain ⟨K, hK⟩ : ∃ K : Nat, 300 ≤ K := ⟨_, Nat.le_refl _⟩
  refine ⟨K + 1, ?_⟩
  have href : pilcrowref13_Index.f (K + 1) c = some (match idxFrom c 0 specials with | some n => 249 + (n : Int) | none => low c) := by
    unfold pilcrowref13_Index.f
    exact high_loop c c0 c1 7 0 (K + 1) (by decide) (by omega)
  have hind : window_Index.f c = some (wIndex c) := by unfold window_Index.f; rw [if_pos ⟨c0, c1⟩]
  -- what the index is, and what it stands for
  have key : ∃ x : Int, ((wIndex c = (x, true) ∧ 0 ≤ x ∧ x ≤ 255 ∧ (match idxFrom c 0 specials with | some n => 249 + (n : Int) | none => low c) = x ∧ ∃ o, wOffset x = (o, true) ∧ hld o c = true ∧ 0 ≤ o ∧ o ≤ 4294967295) ∨ (wIndex c = (0, false) ∧ (match idxFrom c 0 specials with | some n => 249 + (n : Int) | none => low c) = -1)) := by
    cases hi : idxFrom c 0 specials with
    | some n =>
      obtain ⟨i, h1, h2, h3⟩ := idx_some c specials 0 n hi
      have hlen : specials.length = 7 := rfl
      have hn : n < 7 := by omega
      have hni : n = i := by omega
      subst hni
      refine ⟨249 + (n : Int), .inl ⟨by unfold wIndex; rw [hi], by omega, by omega, rfl, specials.getD n 0, woff_high ⟨n, hn⟩, h3, (specials_in ⟨n, hn⟩).1, (specials_in ⟨n, hn⟩).2⟩⟩
    | none =>
      have hw : wIndex c = if 128 ≤ c ∧ c < 13312 then (c / 128, true) else if 57344 ≤ c ∧ c < 65536 then ((c - 44032) / 128, true) else (0, false) := by unfold wIndex; rw [hi]
      rw [hw]
      unfold low
      by_cases ha : 128 ≤ c ∧ c < 13312
      · refine ⟨c / 128, .inl ⟨by rw [if_pos ha], by omega, by omega, by show (if _ then _ else _) = _; rw [if_pos ha], c / 128 * 128, ?_, by rw [hld_iff]; omega, by omega, by omega⟩⟩
        unfold wOffset
        rw [if_neg (by omega), if_pos (by omega)]
      · by_cases hb : 57344 ≤ c ∧ c < 65536
        · refine ⟨(c - 44032) / 128, .inl ⟨by rw [if_neg ha, if_pos hb], by omega, by omega, by show (if _ then _ else _) = _; rw [if_neg ha, if_pos hb], (c - 44032) / 128 * 128 + 44032, ?_, by rw [hld_iff]; omega, by omega, by omega⟩⟩
          unfold wOffset
          rw [if_neg (by omega), if_neg (by omega), if_pos (by omega)]
        · exact ⟨0, .inr ⟨by rw [if_neg ha, if_neg hb], by show (if _ then _ else _) = _; rw [if_neg ha, if_neg hb]⟩⟩
  unfold pilcrowlaw13_WindowIndexes.f
  rw [hind, href]
  simp only [Option.bind_some, Hand.pilcrowlaw13_awake.f, if_true]
  obtain ⟨x, ⟨hw, x0, x1, hm, o, ho, hh, o0, o1⟩ | ⟨hw, hm⟩⟩ := key
  · rw [hw, hm]
    rw [if_neg (by simp; omega), i64w (by omega) (by omega), show mx x 0 = x from by unfold mx; split <;> omega]
    simp only [pilcrowlaw13_WindowIndexes.j0, bne_self_eq_false, Bool.false_eq_true, if_false]
    rw [show window_Offset.f x = some (o, true) from by unfold window_Offset.f; rw [if_pos ⟨x0, x1⟩, ho]]
    simp only [Option.bind_some, if_true]
    rw [holds_go o c o0 o1 c0 c1, hh]; rfl
  · rw [hw, hm]
    rw [if_neg (by simp), show wrap64 0 = 0 from i64w (by decide) (by decide), show mx (-1) 0 = 0 from by unfold mx; rfl]
    simp only [pilcrowlaw13_WindowIndexes.j0, bne_self_eq_false, Bool.false_eq_true, if_false]
    rw [show window_Offset.f 0 = some (0, false) from by decide +kernel]
    rfl
end Go.Proofs.Ytnidohbleffjkaa.Pure
