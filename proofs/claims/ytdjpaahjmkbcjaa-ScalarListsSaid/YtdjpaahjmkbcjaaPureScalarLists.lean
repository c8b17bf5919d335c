/- ScalarLists: of any numbers the first that is no scalar is told, and how many units the scalars take, as the reference tells it; at every list (the law itself lets go of lists of more than 1000). -/
import Derived.Test.YtdjpaahjmkbcjaaPScalarListsx2
namespace Go.Proofs.Ytdjpaahjmkbcjaa.Pure
open Go.RowKit Go.Proofs.Ytdjpaahjmkbcjaa.PScalarLists Go.Proofs.YtdjpaahjmkbcjaaW.PrintWords Go.Proofs.YtdjpaahjmkbcjaaW.PrintLast

theorem awakeL : pilcrowlaw01_awake.f 20 = some true := by decide +kernel
theorem awakeL_at (k : Nat) (hk : 20 ≤ k) : pilcrowlaw01_awake.f k = some true := at_rounds pilcrowlaw01_awake.mono hk awakeL

def isS (c : Int) : Bool := decide (c ≤ 1114111) && (decide (c < 55296) || decide (57343 < c))
theorem is_go (c : Int) : scalar_Is.f c = some (isS c) := by
  unfold scalar_Is.f isS
  by_cases h1 : c ≤ 1114111 <;> by_cases h2 : c < 55296 <;> by_cases h3 : c > 57343 <;> simp [h1, h2, h3]
theorem is_ref (c : Int) : pilcrowref01_Is.f c = some (isS c) := by
  unfold pilcrowref01_Is.f isS
  by_cases h1 : c ≤ 1114111 <;> by_cases h2 : c ≥ 55296 <;> by_cases h3 : c ≤ 57343 <;> simp [h1, h2, h3] <;> omega

theorem rd_head {xs s : List Int} {i : Nat} {c : Int} (h : xs.drop i = c :: s) : i < xs.length ∧ rd xs (i : Int) = c ∧ xs.drop (i + 1) = s := by
  have hl : i < xs.length := by
    rcases Nat.lt_or_ge i xs.length with h' | h'
    · exact h'
    · rw [List.drop_of_length_le h'] at h; cases h
  rw [List.drop_eq_getElem_cons hl] at h
  injection h with h1 h2
  refine ⟨hl, ?_, h2⟩
  unfold rd
  rw [← h1]
  simp [List.getD_eq_getElem?_getD, hl]
theorem nil_end {xs : List Int} {i : Nat} (hi : i ≤ xs.length) (h : xs.drop i = []) : i = xs.length := by
  have := congrArg List.length h
  simp at this
  omega
theorem w64 {i : Nat} (h : i ≤ 100000) : wrap64 ((i : Int) + 1) = ((i + 1 : Nat) : Int) := by unfold wrap64; omega

def firstL : Nat → List Int → Int
  | _, [] => -1
  | i, c :: s => if isS c = true then firstL (i + 1) s else i

theorem first_go (xs : List Int) (hn : xs.length ≤ 1000) : ∀ (s : List Int) (i k : Nat), i ≤ xs.length → xs.drop i = s → s.length < k → scalar_First.l0 k xs (xs.length : Int) (i : Int) = some (firstL i s)
  | [], i, k, hi, h, hk => by
    obtain ⟨k, rfl⟩ : ∃ m, k = m + 1 := ⟨k - 1, by omega⟩
    have := nil_end hi h
    simp only [scalar_First.l0]
    rw [if_neg (by omega)]; rfl
  | c :: s, i, k, hi, h, hk => by
    obtain ⟨k, rfl⟩ : ∃ m, k = m + 1 := ⟨k - 1, by omega⟩
    obtain ⟨hl, hc, hs⟩ := rd_head h
    simp only [List.length_cons] at hk
    simp only [scalar_First.l0, firstL]
    rw [if_pos (by omega), if_pos (by omega), if_pos (by omega), hc, is_go]
    simp only [Option.bind_some]
    rw [w64 (by omega), first_go xs hn s (i + 1) k (by omega) hs (by omega)]
    split <;> rfl
theorem first_ref (xs : List Int) (hn : xs.length ≤ 1000) : ∀ (s : List Int) (i k : Nat), i ≤ xs.length → xs.drop i = s → s.length < k → pilcrowref01_First.l0 k xs (i : Int) = some (firstL i s)
  | [], i, k, hi, h, hk => by
    obtain ⟨k, rfl⟩ : ∃ m, k = m + 1 := ⟨k - 1, by omega⟩
    have := nil_end hi h
    simp only [pilcrowref01_First.l0]
    rw [if_neg (by omega)]; rfl
  | c :: s, i, k, hi, h, hk => by
    obtain ⟨k, rfl⟩ : ∃ m, k = m + 1 := ⟨k - 1, by omega⟩
    obtain ⟨hl, hc, hs⟩ := rd_head h
    simp only [List.length_cons] at hk
    simp only [pilcrowref01_First.l0, firstL]
    rw [if_pos (by omega), if_pos (by omega), hc, is_ref]
    simp only [Option.bind_some]
    rw [w64 (by omega), first_ref xs hn s (i + 1) k (by omega) hs (by omega)]
    split <;> rfl

def unitsL : Nat → List Int → Int
  | n, [] => n
  | n, c :: s => if isS c = true then (if c < 65536 then unitsL (n + 1) s else unitsL (n + 2) s) else unitsL n s
theorem w64_2 {i : Nat} (h : i ≤ 100000) : wrap64 ((i : Int) + 2) = ((i + 2 : Nat) : Int) := by unfold wrap64; omega
theorem w64_11 {i : Nat} (h : i ≤ 100000) : wrap64 (wrap64 ((i : Int) + 1) + 1) = ((i + 2 : Nat) : Int) := by unfold wrap64; omega

theorem units_go (xs : List Int) (hn : xs.length ≤ 1000) : ∀ (s : List Int) (i n k : Nat), i ≤ xs.length → n ≤ 2 * i → xs.drop i = s → s.length < k → scalar_Units.l0 k (n : Int) xs (xs.length : Int) (i : Int) = some (unitsL n s)
  | [], i, n, k, hi, hni, h, hk => by
    obtain ⟨k, rfl⟩ : ∃ m, k = m + 1 := ⟨k - 1, by omega⟩
    have := nil_end hi h
    simp only [scalar_Units.l0]
    rw [if_neg (by omega)]; rfl
  | c :: s, i, n, k, hi, hni, h, hk => by
    obtain ⟨k, rfl⟩ : ∃ m, k = m + 1 := ⟨k - 1, by omega⟩
    obtain ⟨hl, hc, hs⟩ := rd_head h
    simp only [List.length_cons] at hk
    simp only [scalar_Units.l0, unitsL]
    rw [if_pos (by omega), if_pos (by omega), if_pos (by omega), hc, is_go]
    simp only [Option.bind_some]
    rw [w64 (i := i) (by omega), w64 (i := n) (by omega), w64_2 (i := n) (by omega), units_go xs hn s (i + 1) (n + 1) k (by omega) (by omega) hs (by omega), units_go xs hn s (i + 1) (n + 2) k (by omega) (by omega) hs (by omega), units_go xs hn s (i + 1) n k (by omega) (by omega) hs (by omega)]
    (repeat' split) <;> rfl
theorem units_ref (xs : List Int) (hn : xs.length ≤ 1000) : ∀ (s : List Int) (i n k : Nat), i ≤ xs.length → n ≤ 2 * i → xs.drop i = s → s.length < k → pilcrowref01_Units.l0 k xs (n : Int) (i : Int) = some (unitsL n s)
  | [], i, n, k, hi, hni, h, hk => by
    obtain ⟨k, rfl⟩ : ∃ m, k = m + 1 := ⟨k - 1, by omega⟩
    have := nil_end hi h
    simp only [pilcrowref01_Units.l0]
    rw [if_neg (by omega)]; rfl
  | c :: s, i, n, k, hi, hni, h, hk => by
    obtain ⟨k, rfl⟩ : ∃ m, k = m + 1 := ⟨k - 1, by omega⟩
    obtain ⟨hl, hc, hs⟩ := rd_head h
    simp only [List.length_cons] at hk
    simp only [pilcrowref01_Units.l0, unitsL]
    rw [if_pos (by omega), if_pos (by omega), hc, is_ref]
    simp only [Option.bind_some]
    rw [w64 (i := i) (by omega), w64_11 (i := n) (by omega), w64 (i := n) (by omega), units_ref xs hn s (i + 1) (n + 1) k (by omega) (by omega) hs (by omega), units_ref xs hn s (i + 1) (n + 2) k (by omega) (by omega) hs (by omega), units_ref xs hn s (i + 1) n k (by omega) (by omega) hs (by omega)]
    by_cases hS : isS c = true
    · by_cases h6 : c < 65536
      · rw [if_pos hS, if_pos hS, if_pos h6, if_neg (by omega)]
      · rw [if_pos hS, if_pos hS, if_neg h6, if_pos (by omega)]
    · rw [if_neg hS, if_neg hS]

theorem ScalarLists : pilcrowlaw01_ScalarLists.Pure := by
  intro l hl _ _
  refine ⟨l.length + 22, ?_⟩
  unfold pilcrowlaw01_ScalarLists.f
  rw [awakeL_at _ (by omega)]
  simp only [Option.bind_some, if_true]
  rw [show l.length + 22 = (l.length + 21) + 1 from rfl]
  simp only [pilcrowlaw01_ScalarLists.j0]
  by_cases hb : (l.length : Int) > 1000
  · rw [if_pos (by simpa using hb), awakeL_at _ (by omega)]; rfl
  · rw [if_neg (by simpa using hb)]
    have h1 := first_go l (by omega) l 0 (l.length + 21) (by omega) rfl (by omega)
    have h2 := first_ref l (by omega) l 0 (l.length + 21) (by omega) rfl (by omega)
    have h3 := units_go l (by omega) l 0 0 (l.length + 21) (by omega) (by omega) rfl (by omega)
    have h4 := units_ref l (by omega) l 0 0 (l.length + 21) (by omega) (by omega) rfl (by omega)
    unfold scalar_First.f pilcrowref01_First.f scalar_Units.f pilcrowref01_Units.f
    rw [show ((0 : Nat) : Int) = 0 from rfl] at h1 h2 h3 h4
    rw [h1, h2, h3, h4]
    simp

end Go.Proofs.Ytdjpaahjmkbcjaa.Pure
