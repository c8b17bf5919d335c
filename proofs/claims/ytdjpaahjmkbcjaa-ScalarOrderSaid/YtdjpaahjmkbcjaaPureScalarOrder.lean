/- ScalarOrder: any two lists stand to each other as the reference says; turned it is turned, and through a third one it goes on; at all lists (the law itself lets go of lists of more than 500). -/
import Derived.Test.YtdjpaahjmkbcjaaPScalarOrderx2
namespace Go.Proofs.Ytdjpaahjmkbcjaa.Pure
open Go.RowKit Go.Proofs.Ytdjpaahjmkbcjaa.PScalarOrder Go.Proofs.YtdjpaahjmkbcjaaW.PrintWords Go.Proofs.YtdjpaahjmkbcjaaW.PrintLast

theorem awakeL : pilcrowlaw01_awake.f 20 = some true := by decide +kernel
theorem awakeL_at (k : Nat) (hk : 20 ≤ k) : pilcrowlaw01_awake.f k = some true := at_rounds pilcrowlaw01_awake.mono hk awakeL

theorem rd_head {xs s : List Int} {i : Nat} {c : Int} (h : xs.drop i = c :: s) : i < xs.length ∧ rd xs (i : Int) = c ∧ xs.drop (i + 1) = s := by
  have hl : i < xs.length := by
    rcases Nat.lt_or_ge i xs.length with h' | h'
    · exact h'
    · rw [List.drop_of_length_le h'] at h; cases h
  rw [List.drop_eq_getElem_cons hl] at h
  injection h with h1 h2
  refine ⟨hl, ?_, h2⟩
  unfold rd
  rw [← h1]
  simp [List.getD_eq_getElem?_getD, hl]
theorem nil_end {xs : List Int} {i : Nat} (hi : i ≤ xs.length) (h : xs.drop i = []) : i = xs.length := by
  have := congrArg List.length h
  simp at this
  omega
theorem w64 {i : Nat} (h : i ≤ 100000) : wrap64 ((i : Int) + 1) = ((i + 1 : Nat) : Int) := by unfold wrap64; omega

def ordL : List Int → List Int → Int
  | [], [] => 0
  | [], _ :: _ => -1
  | _ :: _, [] => 1
  | a :: s, b :: t => if a < b then -1 else if b < a then 1 else ordL s t

theorem order_go (xs ys : List Int) (hn : xs.length ≤ 1000) : ∀ (s t : List Int) (i k : Nat), i ≤ xs.length → i ≤ ys.length → xs.drop i = s → ys.drop i = t → 2 * s.length + 2 ≤ k → scalar_Order.l0 k xs ys xs (xs.length : Int) (i : Int) = some (ordL s t)
  | [], t, i, k, hi, hj, h, h', hk => by
    obtain ⟨k, rfl⟩ : ∃ m, k = m + 1 := ⟨k - 1, by omega⟩
    have := nil_end hi h
    simp only [scalar_Order.l0]
    rw [if_neg (by omega)]
    cases t with
    | nil => have := nil_end hj h'; rw [if_neg (by omega)]; rfl
    | cons b t => obtain ⟨hl, _⟩ := rd_head h'; rw [if_pos (by omega)]; rfl
  | a :: s, t, i, k, hi, hj, h, h', hk => by
    obtain ⟨k, rfl⟩ : ∃ m, k = m + 1 + 1 := ⟨k - 2, by omega⟩
    obtain ⟨hl, hc, hs⟩ := rd_head h
    simp only [List.length_cons] at hk
    simp only [scalar_Order.l0]
    rw [if_pos (by omega), if_pos (by omega), if_pos (by omega), hc]
    cases t with
    | nil => have := nil_end hj h'; rw [if_pos (by omega)]; simp only [scalar_Order.j1]; simp [ordL]
    | cons b t =>
      obtain ⟨hl', hc', hs'⟩ := rd_head h'
      rw [if_neg (by omega), if_pos (by omega), hc']
      simp only [scalar_Order.j1, ordL]
      rw [if_pos (show 0 ≤ (i : Int) by omega), if_pos (show (i : Int) < (ys.length : Int) by omega), hc', w64 (by omega), order_go xs ys hn s t (i + 1) k (by omega) (by omega) hs hs' (by omega)]
      by_cases h1 : a < b
      · rw [if_neg (by simp; omega), if_pos h1, if_pos h1]
      · by_cases h2 : b < a
        · rw [if_pos (by simp; omega), if_neg h1, if_pos h2]
        · rw [if_neg (by simp; omega), if_neg h1, if_neg h1, if_neg h2]
theorem order_ref (xs ys : List Int) (hn : xs.length ≤ 1000) : ∀ (s t : List Int) (i k : Nat), i ≤ xs.length → i ≤ ys.length → xs.drop i = s → ys.drop i = t → 2 * s.length + 2 ≤ k → pilcrowref01_Order.l0 k xs ys (i : Int) = some (ordL s t)
  | [], t, i, k, hi, hj, h, h', hk => by
    obtain ⟨k, rfl⟩ : ∃ m, k = m + 1 + 1 := ⟨k - 2, by omega⟩
    have := nil_end hi h
    simp only [pilcrowref01_Order.l0]
    rw [if_neg (by omega)]
    simp only [pilcrowref01_Order.j1]
    rw [if_neg (by decide)]
    cases t with
    | nil => have := nil_end hj h'; rw [if_neg (by omega), if_neg (by omega)]; rfl
    | cons b t => obtain ⟨hl, _⟩ := rd_head h'; rw [if_pos (by omega)]; rfl
  | a :: s, t, i, k, hi, hj, h, h', hk => by
    obtain ⟨k, rfl⟩ : ∃ m, k = m + 1 + 1 := ⟨k - 2, by omega⟩
    obtain ⟨hl, hc, hs⟩ := rd_head h
    simp only [List.length_cons] at hk
    simp only [pilcrowref01_Order.l0]
    rw [if_pos (by omega)]
    simp only [pilcrowref01_Order.j1]
    cases t with
    | nil => have := nil_end hj h'; rw [if_neg (by simp; omega), if_neg (by omega), if_pos (by omega)]; rfl
    | cons b t =>
      obtain ⟨hl', hc', hs'⟩ := rd_head h'
      rw [if_pos (by simp; omega), if_pos (by omega), if_pos (by omega), if_pos (by omega), hc, hc']
      simp only [ordL]
      rw [w64 (by omega), order_ref xs ys hn s t (i + 1) k (by omega) (by omega) hs hs' (by omega)]
      by_cases h1 : a < b
      · rw [if_pos h1, if_pos h1]
      · by_cases h2 : b < a
        · rw [if_neg h1, if_pos (by omega), if_neg h1, if_pos h2]
        · rw [if_neg h1, if_neg (by omega), if_neg h1, if_neg h2]

theorem go_f (xs ys : List Int) (hn : xs.length ≤ 1000) (k : Nat) (hk : 2 * xs.length + 2 ≤ k) : scalar_Order.f k xs ys = some (ordL xs ys) := by
  unfold scalar_Order.f
  exact order_go xs ys hn xs ys 0 k (by omega) (by omega) rfl rfl hk
theorem ref_f (xs ys : List Int) (hn : xs.length ≤ 1000) (k : Nat) (hk : 2 * xs.length + 2 ≤ k) : pilcrowref01_Order.f k xs ys = some (ordL xs ys) := by
  unfold pilcrowref01_Order.f
  exact order_ref xs ys hn xs ys 0 k (by omega) (by omega) rfl rfl hk

theorem ord_in : ∀ s t, ordL s t = -1 ∨ ordL s t = 0 ∨ ordL s t = 1
  | [], [] => by simp [ordL]
  | [], _ :: _ => by simp [ordL]
  | _ :: _, [] => by simp [ordL]
  | a :: s, b :: t => by
    have := ord_in s t
    simp only [ordL]
    split
    · simp
    · split
      · simp
      · exact this
theorem ord_turn : ∀ s t, ordL t s = -ordL s t
  | [], [] => by simp [ordL]
  | [], _ :: _ => by simp [ordL]
  | _ :: _, [] => by simp [ordL]
  | a :: s, b :: t => by
    have := ord_turn s t
    simp only [ordL]
    by_cases h1 : a < b
    · rw [if_neg (by omega), if_pos h1, if_pos h1]; rfl
    · by_cases h2 : b < a
      · rw [if_pos h2, if_neg h1, if_pos h2]
      · rw [if_neg h2, if_neg h1, if_neg h1, if_neg h2, this]
theorem ord_self (s : List Int) : ordL s s = 0 := by have := ord_turn s s; omega
theorem ord_zero : ∀ {s t}, ordL s t = 0 → s = t
  | [], [], _ => rfl
  | [], _ :: _, h => by simp [ordL] at h
  | _ :: _, [], h => by simp [ordL] at h
  | a :: s, b :: t, h => by
    simp only [ordL] at h
    by_cases h1 : a < b
    · rw [if_pos h1] at h; omega
    · by_cases h2 : b < a
      · rw [if_neg h1, if_pos h2] at h; omega
      · rw [if_neg h1, if_neg h2] at h
        rw [ord_zero h, show a = b by omega]
theorem ord_trans : ∀ {s t u}, ordL s t ≤ 0 → ordL t u ≤ 0 → ordL s u ≤ 0
  | [], _, [], _, _ => by simp [ordL]
  | [], _, _ :: _, _, _ => by simp [ordL]
  | _ :: _, [], _, h, _ => by simp [ordL] at h
  | _ :: _, _ :: _, [], _, h => by simp [ordL] at h
  | a :: s, b :: t, c :: u, h, h' => by
    simp only [ordL] at h h' ⊢
    by_cases h1 : a < c
    · rw [if_pos h1]; decide
    · rw [if_neg h1]
      by_cases h2 : b < a
      · rw [if_neg (by omega), if_pos h2] at h; omega
      · by_cases h3 : c < b
        · rw [if_neg (by omega), if_pos h3] at h'; omega
        · rw [if_neg (by omega), if_neg h2] at h
          rw [if_neg (by omega), if_neg h3] at h'
          rw [if_neg (by omega)]
          exact ord_trans h h'

theorem ScalarOrder : pilcrowlaw01_ScalarOrder.Pure := by
  intro a b c _ _ _ _ _ _ _ _ _
  refine ⟨2 * (a.length + b.length) + 32, ?_⟩
  unfold pilcrowlaw01_ScalarOrder.f
  rw [awakeL_at _ (by omega)]
  simp only [Option.bind_some, if_true]
  rw [show 2 * (a.length + b.length) + 32 = (2 * (a.length + b.length) + 31) + 1 from rfl]
  simp only [pilcrowlaw01_ScalarOrder.j0]
  rw [awakeL_at _ (by omega)]
  simp only [Option.bind_some, if_true]
  by_cases h1 : (a.length : Int) > 500
  · rw [if_pos h1]
  rw [if_neg h1]
  by_cases h2 : (b.length : Int) > 500
  · rw [if_pos h2]
  rw [if_neg h2]
  by_cases h3 : (c.length : Int) > 500
  · rw [if_pos (by simpa using h3)]
  rw [if_neg (by simpa using h3)]
  rw [go_f a b (by omega) _ (by omega), go_f b c (by omega) _ (by omega), go_f a c (by omega) _ (by omega), ref_f a b (by omega) _ (by omega), go_f b a (by omega) _ (by omega), go_f a a (by omega) _ (by omega)]
  simp only [Option.bind_some, if_true]
  rw [ord_turn a b, ord_self]
  have hr := ord_in a b
  have hq := ord_in b c
  have hp := ord_in a c
  rw [if_pos (by unfold wrap64; omega)]
  simp only [if_true]
  by_cases hx : ordL a b > 0
  · rw [if_pos hx]
  rw [if_neg hx]
  by_cases hy : ordL b c > 0
  · rw [if_pos hy]
  rw [if_neg hy]
  have hz := ord_trans (s := a) (t := b) (u := c) (by omega) (by omega)
  rw [if_pos hz]
  by_cases h0 : ordL a b = 0
  · rw [if_pos h0, ord_zero h0]; simp
  · rw [if_neg h0]
    have : ¬ ordL a c = 0 := by
      intro he
      have := ord_zero he
      subst this
      have := ord_turn a b
      omega
    simp [this]

end Go.Proofs.Ytdjpaahjmkbcjaa.Pure
