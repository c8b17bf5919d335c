/- ScalarParts over numbers and lists: what stands ahead of two lists plays no part for their order; units of two lists are those of both. -/
import Derived.Test.YtdjpaahjmkbcjaaWalkParts
namespace Go.Proofs.Ytdjpaahjmkbcjaa.Pure
open Go.RowKit Go.Proofs.Ytdjpaahjmkbcjaa.PScalarParts Go.Proofs.YtdjpaahjmkbcjaaW.PrintWords Go.Proofs.YtdjpaahjmkbcjaaW.PrintLast

theorem awakeL : pilcrowlaw01_awake.f 20 = some true := by decide +kernel
theorem awakeL_at (k : Nat) (hk : 20 ≤ k) : pilcrowlaw01_awake.f k = some true := at_rounds pilcrowlaw01_awake.mono hk awakeL

theorem rd_head {xs s : List Int} {i : Nat} {c : Int} (h : xs.drop i = c :: s) : i < xs.length ∧ rd xs (i : Int) = c ∧ xs.drop (i + 1) = s := by
  have hl : i < xs.length := by
    rcases Nat.lt_or_ge i xs.length with h' | h'
    · exact h'
    · rw [List.drop_of_length_le h'] at h; cases h
  rw [List.drop_eq_getElem_cons hl] at h
  injection h with h1 h2
  refine ⟨hl, ?_, h2⟩
  unfold rd
  rw [← h1]
  simp [List.getD_eq_getElem?_getD, hl]
theorem nil_end {xs : List Int} {i : Nat} (hi : i ≤ xs.length) (h : xs.drop i = []) : i = xs.length := by
  have := congrArg List.length h
  simp at this
  omega
theorem w64 {i : Nat} (h : i ≤ 100000) : wrap64 ((i : Int) + 1) = ((i + 1 : Nat) : Int) := by unfold wrap64; omega

def ordL : List Int → List Int → Int
  | [], [] => 0
  | [], _ :: _ => -1
  | _ :: _, [] => 1
  | a :: s, b :: t => if a < b then -1 else if b < a then 1 else ordL s t

theorem order_go (xs ys : List Int) (hn : xs.length ≤ 1000) : ∀ (s t : List Int) (i k : Nat), i ≤ xs.length → i ≤ ys.length → xs.drop i = s → ys.drop i = t → 2 * s.length + 2 ≤ k → scalar_Order.l0 k xs ys xs (xs.length : Int) (i : Int) = some (ordL s t)
  | [], t, i, k, hi, hj, h, h', hk => by
    obtain ⟨k, rfl⟩ : ∃ m, k = m + 1 := ⟨k - 1, by omega⟩
    have := nil_end hi h
    simp only [scalar_Order.l0]
    rw [if_neg (by omega)]
    cases t with
    | nil => have := nil_end hj h'; rw [if_neg (by omega)]; rfl
    | cons b t => obtain ⟨hl, _⟩ := rd_head h'; rw [if_pos (by omega)]; rfl
  | a :: s, t, i, k, hi, hj, h, h', hk => by
    obtain ⟨k, rfl⟩ : ∃ m, k = m + 1 + 1 := ⟨k - 2, by omega⟩
    obtain ⟨hl, hc, hs⟩ := rd_head h
    simp only [List.length_cons] at hk
    simp only [scalar_Order.l0]
    rw [if_pos (by omega), if_pos (by omega), if_pos (by omega), hc]
    cases t with
    | nil => have := nil_end hj h'; rw [if_pos (by omega)]; simp only [scalar_Order.j1]; simp [ordL]
    | cons b t =>
      obtain ⟨hl', hc', hs'⟩ := rd_head h'
      rw [if_neg (by omega), if_pos (by omega), hc']
      simp only [scalar_Order.j1, ordL]
      rw [if_pos (show 0 ≤ (i : Int) by omega), if_pos (show (i : Int) < (ys.length : Int) by omega), hc', w64 (by omega), order_go xs ys hn s t (i + 1) k (by omega) (by omega) hs hs' (by omega)]
      by_cases h1 : a < b
      · rw [if_neg (by simp; omega), if_pos h1, if_pos h1]
      · by_cases h2 : b < a
        · rw [if_pos (by simp; omega), if_neg h1, if_pos h2]
        · rw [if_neg (by simp; omega), if_neg h1, if_neg h1, if_neg h2]
theorem go_f (xs ys : List Int) (hn : xs.length ≤ 1000) (k : Nat) (hk : 2 * xs.length + 2 ≤ k) : scalar_Order.f k xs ys = some (ordL xs ys) := by
  unfold scalar_Order.f
  exact order_go xs ys hn xs ys 0 k (by omega) (by omega) rfl rfl hk
def isS (c : Int) : Bool := decide (c ≤ 1114111) && (decide (c < 55296) || decide (57343 < c))
theorem is_go (c : Int) : scalar_Is.f c = some (isS c) := by
  unfold scalar_Is.f isS
  by_cases h1 : c ≤ 1114111 <;> by_cases h2 : c < 55296 <;> by_cases h3 : c > 57343 <;> simp [h1, h2, h3]
def unitsL : Nat → List Int → Int
  | n, [] => n
  | n, c :: s => if isS c = true then (if c < 65536 then unitsL (n + 1) s else unitsL (n + 2) s) else unitsL n s
theorem w64_2 {i : Nat} (h : i ≤ 100000) : wrap64 ((i : Int) + 2) = ((i + 2 : Nat) : Int) := by unfold wrap64; omega
theorem w64_11 {i : Nat} (h : i ≤ 100000) : wrap64 (wrap64 ((i : Int) + 1) + 1) = ((i + 2 : Nat) : Int) := by unfold wrap64; omega

theorem units_go (xs : List Int) (hn : xs.length ≤ 1000) : ∀ (s : List Int) (i n k : Nat), i ≤ xs.length → n ≤ 2 * i → xs.drop i = s → s.length < k → scalar_Units.l0 k (n : Int) xs (xs.length : Int) (i : Int) = some (unitsL n s)
  | [], i, n, k, hi, hni, h, hk => by
    obtain ⟨k, rfl⟩ : ∃ m, k = m + 1 := ⟨k - 1, by omega⟩
    have := nil_end hi h
    simp only [scalar_Units.l0]
    rw [if_neg (by omega)]; rfl
  | c :: s, i, n, k, hi, hni, h, hk => by
    obtain ⟨k, rfl⟩ : ∃ m, k = m + 1 := ⟨k - 1, by omega⟩
    obtain ⟨hl, hc, hs⟩ := rd_head h
    simp only [List.length_cons] at hk
    simp only [scalar_Units.l0, unitsL]
    rw [if_pos (by omega), if_pos (by omega), if_pos (by omega), hc, is_go]
    simp only [Option.bind_some]
    rw [w64 (i := i) (by omega), w64 (i := n) (by omega), w64_2 (i := n) (by omega), units_go xs hn s (i + 1) (n + 1) k (by omega) (by omega) hs (by omega), units_go xs hn s (i + 1) (n + 2) k (by omega) (by omega) hs (by omega), units_go xs hn s (i + 1) n k (by omega) (by omega) hs (by omega)]
    (repeat' split) <;> rfl

theorem units_len : ∀ (s : List Int) (n : Nat), ∃ m : Nat, unitsL n s = (m : Int) ∧ m ≤ n + 2 * s.length
  | [], n => ⟨n, rfl, by simp⟩
  | c :: s, n => by
    simp only [unitsL, List.length_cons]
    by_cases h1 : isS c = true
    · by_cases h2 : c < 65536
      · obtain ⟨m, hm, hl⟩ := units_len s (n + 1); rw [if_pos h1, if_pos h2, hm]; exact ⟨m, rfl, by omega⟩
      · obtain ⟨m, hm, hl⟩ := units_len s (n + 2); rw [if_pos h1, if_neg h2, hm]; exact ⟨m, rfl, by omega⟩
    · obtain ⟨m, hm, hl⟩ := units_len s n; rw [if_neg h1, hm]; exact ⟨m, rfl, by omega⟩
theorem units_from : ∀ (s : List Int) (n : Nat), unitsL n s = n + unitsL 0 s
  | [], n => by simp [unitsL]
  | c :: s, n => by
    simp only [unitsL]
    by_cases h1 : isS c = true
    · by_cases h2 : c < 65536
      · rw [if_pos h1, if_pos h2, if_pos h1, if_pos h2, units_from s (n + 1), units_from s (0 + 1)]; omega
      · rw [if_pos h1, if_neg h2, if_pos h1, if_neg h2, units_from s (n + 2), units_from s (0 + 2)]; omega
    · rw [if_neg h1, if_neg h1, units_from s n]
theorem units_app : ∀ (s t : List Int) (n : Nat), unitsL n (s ++ t) = unitsL n s + unitsL 0 t
  | [], t, n => by simp only [List.nil_append, unitsL]; exact units_from t n
  | c :: s, t, n => by
    simp only [List.cons_append, unitsL]
    by_cases h1 : isS c = true
    · by_cases h2 : c < 65536
      · rw [if_pos h1, if_pos h2, if_pos h1, if_pos h2, units_app s t (n + 1)]
      · rw [if_pos h1, if_neg h2, if_pos h1, if_neg h2, units_app s t (n + 2)]
    · rw [if_neg h1, if_neg h1, units_app s t n]
theorem ord_app : ∀ (c a b : List Int), ordL (c ++ a) (c ++ b) = ordL a b
  | [], _, _ => rfl
  | x :: c, a, b => by simp only [List.cons_append, ordL]; rw [if_neg (by omega), if_neg (by omega), ord_app c a b]
theorem rdL_zero (a b : List Int) : rd_L1 [a, b] 0 = a := rfl
theorem rdL_one (a b : List Int) : rd_L1 [a, b] 1 = b := rfl
theorem join_two (a b : List Int) (ha : a.length ≤ 500) (hb : b.length ≤ 500) (k : Nat) (hk : 3 ≤ k) : scalar_Join.f k [a, b] = some (a ++ b) := by
  obtain ⟨k, rfl⟩ : ∃ m, k = m + 1 + 1 + 1 := ⟨k - 3, by omega⟩
  unfold scalar_Join.f
  simp only [scalar_Join.l0]
  rw [if_pos (by simp), if_pos (by decide), if_pos (by simp), rdL_zero, if_pos (by simp; omega), show wrap64 (0 + 1) = 1 from by unfold wrap64; omega, if_pos (by simp), if_pos (by decide), if_pos (by simp), rdL_one, if_pos (by simp; omega), show wrap64 (1 + 1) = 2 from by unfold wrap64; omega, if_neg (by simp)]
  simp
theorem units_f (xs : List Int) (hn : xs.length ≤ 1000) (k : Nat) (hk : xs.length < k) : scalar_Units.f k xs = some (unitsL 0 xs) := by
  unfold scalar_Units.f
  exact units_go xs hn xs 0 0 k (by omega) (by omega) rfl hk

theorem parts_calls (A0 : Option Addr) (c0 : Nat) (l0 : List Int) (A1 : Option Addr) (c1 : Nat) (l1 : List Int) (A2 : Option Addr) (c2 : Nat) (l2 : List Int) (w : World)
    (hr0 : Kd.C (Kd.int .u32) w A0 l0.length l0) (hc0 : l0.length ≤ c0) (_ : l0.length ≤ maxLen) (_ : ∀ n ∈ l0, (Lit.int .u32 n).wf = true) (hr1 : Kd.C (Kd.int .u32) w A1 l1.length l1) (hc1 : l1.length ≤ c1) (_ : l1.length ≤ maxLen) (_ : ∀ n ∈ l1, (Lit.int .u32 n).wf = true) (hr2 : Kd.C (Kd.int .u32) w A2 l2.length l2) (hc2 : l2.length ≤ c2) (_ : l2.length ≤ maxLen) (_ : ∀ n ∈ l2, (Lit.int .u32 n).wf = true) :
    Calls Try.prog 7 #[.slice A0 l0.length c0, .slice A1 l1.length c1, .slice A2 l2.length c2] w fun e w' => e = .returned (.bool true) ∧ Below w.heap.size w w' := by
  by_cases h0 : (l0.length : Int) > 500
  · exact parts_big A0 c0 l0 A1 c1 l1 A2 c2 l2 w 20 awakeL (.inl h0)
  by_cases h1 : (l1.length : Int) > 500
  · exact parts_big A0 c0 l0 A1 c1 l1 A2 c2 l2 w 20 awakeL (.inr (.inl h1))
  by_cases h2 : (l2.length : Int) > 500
  · exact parts_big A0 c0 l0 A1 c1 l1 A2 c2 l2 w 20 awakeL (.inr (.inr h2))
  obtain ⟨u, hu, hul⟩ := units_len l2 0
  obtain ⟨v, hv, hvl⟩ := units_len l0 0
  refine parts_small A0 c0 l0 A1 c1 l1 A2 c2 l2 w 4000 (awakeL_at _ (by decide)) hr0 hc0 hr1 hc1 hr2 hc2 h0 h1 h2 (l2 ++ l0) (l2 ++ l1) (ordL l0 l1) u v (join_two _ _ (by omega) (by omega) _ (by decide)) (join_two _ _ (by omega) (by omega) _ (by decide)) ?_ ?_ ?_ ?_ ?_ (by omega) (by omega) (by omega) (by omega)
  · rw [go_f _ _ (by simp; omega) _ (by simp; omega), ord_app]
  · exact go_f _ _ (by omega) _ (by omega)
  · rw [units_f _ (by simp; omega) _ (by simp; omega), units_app, hu, hv]
  · rw [units_f _ (by omega) _ (by omega), hu]
  · rw [units_f _ (by omega) _ (by omega), hv]
end Go.Proofs.Ytdjpaahjmkbcjaa.Pure
