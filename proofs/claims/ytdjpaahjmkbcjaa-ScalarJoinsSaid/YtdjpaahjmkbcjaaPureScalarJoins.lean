/- ScalarJoins over numbers and lists: lists joined are all their numbers, in their order, and a joined list is new memory. -/
import Derived.Test.YtdjpaahjmkbcjaaPScalarJoinsx3
namespace Go.Proofs.Ytdjpaahjmkbcjaa.Pure
open Go.RowKit Go.Proofs.Ytdjpaahjmkbcjaa.PScalarJoins Go.Proofs.YtdjpaahjmkbcjaaW.PrintWords Go.Proofs.YtdjpaahjmkbcjaaW.PrintLast

theorem awakeL : pilcrowlaw01_awake.f 20 = some true := by decide +kernel
theorem awakeL_at (k : Nat) (hk : 20 ≤ k) : pilcrowlaw01_awake.f k = some true := at_rounds pilcrowlaw01_awake.mono hk awakeL

theorem drop_cons {α : Type} {xs s : List α} {i : Nat} {c : α} (h : xs.drop i = c :: s) : i < xs.length ∧ xs[i]? = some c ∧ xs.drop (i + 1) = s := by
  have hl : i < xs.length := by
    rcases Nat.lt_or_ge i xs.length with h' | h'
    · exact h'
    · rw [List.drop_of_length_le h'] at h; cases h
  rw [List.drop_eq_getElem_cons hl] at h
  injection h with h1 h2
  exact ⟨hl, by rw [List.getElem?_eq_getElem hl, h1], h2⟩
theorem nil_end {α : Type} {xs : List α} {i : Nat} (hi : i ≤ xs.length) (h : xs.drop i = []) : i = xs.length := by
  have := congrArg List.length h
  simp at this
  omega
theorem rd_at {xs : List Int} {i : Nat} {c : Int} (h : xs[i]? = some c) : rd xs (i : Int) = c := by unfold rd; simp [List.getD_eq_getElem?_getD, h]
theorem rdL_at {xs : List (List Int)} {i : Nat} {c : List Int} (h : xs[i]? = some c) : rd_L1 xs (i : Int) = c := by unfold rd_L1; simp [List.getD_eq_getElem?_getD, h]
theorem w64 {i : Nat} (h : i ≤ 100000) : wrap64 ((i : Int) + 1) = ((i + 1 : Nat) : Int) := by unfold wrap64; omega

theorem same_ref (xs : List Int) (hn : xs.length ≤ 50000) : ∀ (s : List Int) (i k : Nat), i ≤ xs.length → xs.drop i = s → 2 * s.length + 2 ≤ k → pilcrowref01_Order.l0 k xs xs (i : Int) = some 0
  | [], i, k, hi, h, hk => by
    obtain ⟨k, rfl⟩ : ∃ m, k = m + 1 + 1 := ⟨k - 2, by omega⟩
    have := nil_end hi h
    simp only [pilcrowref01_Order.l0]
    rw [if_neg (by omega)]
    simp only [pilcrowref01_Order.j1]
    rw [if_neg (by decide), if_neg (by omega), if_neg (by omega)]
  | a :: s, i, k, hi, h, hk => by
    obtain ⟨k, rfl⟩ : ∃ m, k = m + 1 + 1 := ⟨k - 2, by omega⟩
    obtain ⟨hl, hc, hs⟩ := drop_cons h
    simp only [List.length_cons] at hk
    simp only [pilcrowref01_Order.l0]
    rw [if_pos (by omega)]
    simp only [pilcrowref01_Order.j1]
    rw [if_pos (by simp; omega), if_pos (by omega), if_pos (by omega), if_pos (by omega), if_neg (by omega), if_neg (by omega), w64 (by omega)]
    exact same_ref xs hn s (i + 1) k (by omega) hs (by omega)
theorem same_f (xs : List Int) (hn : xs.length ≤ 50000) (k : Nat) (hk : 2 * xs.length + 2 ≤ k) : pilcrowref01_Same.f k xs xs = some true := by
  unfold pilcrowref01_Same.f pilcrowref01_Order.f
  have := same_ref xs hn xs 0 k (by omega) rfl hk
  rw [show ((0 : Nat) : Int) = 0 from rfl] at this
  rw [this]; rfl

theorem join_go (xs : List (List Int)) (hn : xs.length ≤ 50) : ∀ (s : List (List Int)) (i k : Nat) (acc : List Int), i ≤ xs.length → acc.length ≤ 100 * i → (∀ x ∈ s, x.length ≤ 100) → xs.drop i = s → s.length < k → scalar_Join.l0 k acc xs (xs.length : Int) (i : Int) = some (acc ++ s.flatten)
  | [], i, k, acc, hi, ha, hx, h, hk => by
    obtain ⟨k, rfl⟩ : ∃ m, k = m + 1 := ⟨k - 1, by omega⟩
    have := nil_end hi h
    simp only [scalar_Join.l0]
    rw [if_neg (by omega)]; simp
  | a :: s, i, k, acc, hi, ha, hx, h, hk => by
    obtain ⟨k, rfl⟩ : ∃ m, k = m + 1 := ⟨k - 1, by omega⟩
    obtain ⟨hl, hc, hs⟩ := drop_cons h
    simp only [List.length_cons] at hk
    have hal := hx a (List.mem_cons_self)
    simp only [scalar_Join.l0]
    rw [if_pos (by omega), if_pos (by omega), if_pos (by omega), rdL_at hc, if_pos (by omega), w64 (by omega), join_go xs hn s (i + 1) k (acc ++ a) (by omega) (by simp; omega) (fun x hx' => hx x (List.mem_cons_of_mem _ hx')) hs (by omega)]
    simp
theorem flat_len : ∀ (s : List (List Int)), (∀ x ∈ s, x.length ≤ 100) → s.flatten.length ≤ 100 * s.length
  | [], _ => by simp
  | a :: s, h => by
    have := flat_len s (fun x hx => h x (List.mem_cons_of_mem _ hx))
    have := h a (List.mem_cons_self)
    simp only [List.flatten_cons, List.length_append, List.length_cons]
    omega

theorem loop_go (xs : List (List Int)) (a1 : Int) (hn : xs.length ≤ 50) : ∀ (s : List (List Int)) (i k : Nat) (acc : List Int), i ≤ xs.length → acc.length ≤ 100 * i → xs.drop i = s → s.length + 12000 ≤ k → (∀ x ∈ xs.take i, x.length ≤ 100) → acc = (xs.take i).flatten → pilcrowlaw01_ScalarJoins.l0 k xs a1 acc xs (xs.length : Int) (i : Int) = some true
  | [], i, k, acc, hi, ha, h, hk, hx, he => by
    obtain ⟨k, rfl⟩ : ∃ m, k = m + 1 + 1 := ⟨k - 2, by omega⟩
    have hil := nil_end hi h
    subst hil
    rw [List.take_length] at hx he
    have hj := join_go xs hn xs 0 (k + 1) [] (by omega) (by simp) hx rfl (by omega)
    have hj' := join_go xs hn xs 0 k [] (by omega) (by simp) hx rfl (by omega)
    rw [List.nil_append, ← he] at hj hj'
    rw [show ((0 : Nat) : Int) = 0 from rfl] at hj hj'
    have hfl := flat_len xs hx
    rw [← he] at hfl
    simp only [pilcrowlaw01_ScalarJoins.l0]
    rw [if_neg (by omega)]
    unfold scalar_Join.f
    rw [hj]
    simp only [Option.bind_some]
    have hs := same_f acc (by omega) k (by omega)
    have key : ∀ b, (b = true → 0 ≤ a1 ∧ a1 < (acc.length : Int)) → pilcrowlaw01_ScalarJoins.j2 (k + 1) xs a1 acc acc acc b = some true := by
      intro b hb
      simp only [pilcrowlaw01_ScalarJoins.j2, scalar_Join.f]
      rw [hs]
      simp only [Option.bind_some, if_true]
      rw [hj']
      simp only [Option.bind_some]
      rw [hs]
      cases b with
      | true => rw [if_pos rfl, if_pos (hb rfl).1, if_pos (hb rfl).2]; rfl
      | false => rfl
    by_cases h0 : a1 ≥ 0
    · rw [if_pos h0]; exact key _ (fun h => ⟨by omega, by simpa using h⟩)
    · rw [if_neg h0]; exact key _ (fun h => by cases h)
  | a :: s, i, k, acc, hi, ha, h, hk, hx, he => by
    obtain ⟨k, rfl⟩ : ∃ m, k = m + 1 := ⟨k - 1, by omega⟩
    obtain ⟨hl, hc, hs⟩ := drop_cons h
    simp only [List.length_cons] at hk
    simp only [pilcrowlaw01_ScalarJoins.l0]
    rw [if_pos (by omega), if_pos (by omega), if_pos (by omega), rdL_at hc]
    by_cases hb : (a.length : Int) > 100
    · rw [if_pos hb]
    · have ht : xs.take (i + 1) = xs.take i ++ [a] := by rw [List.take_add_one, hc]; rfl
      rw [if_neg hb, if_pos (by omega), w64 (by omega)]
      refine loop_go xs a1 hn s (i + 1) k (acc ++ a) (by omega) (by simp; omega) hs (by omega) (fun x hx' => ?_) ?_
      · rw [ht] at hx'
        rcases List.mem_append.1 hx' with h1 | h1
        · exact hx x h1
        · rw [List.mem_singleton.1 h1]; omega
      · rw [ht, he]; simp

theorem ScalarJoins (l : List (List Int)) (a1 : Int) : ∃ k, pilcrowlaw01_ScalarJoins.f k l a1 = some true := by
  refine ⟨l.length + 12002, ?_⟩
  unfold pilcrowlaw01_ScalarJoins.f
  rw [awakeL_at _ (by omega)]
  simp only [Option.bind_some, if_true]
  rw [show l.length + 12002 = (l.length + 12001) + 1 from rfl]
  simp only [pilcrowlaw01_ScalarJoins.j0]
  by_cases hb : (l.length : Int) > 50
  · rw [if_pos (by simpa using hb), awakeL_at _ (by omega)]; rfl
  · rw [if_neg (by simpa using hb)]
    exact loop_go l a1 (by omega) l 0 _ [] (by omega) (by simp) rfl (by omega) (fun x hx => by simp at hx) (by simp)

theorem joins_calls (A0 : Option Addr) (c0 : Nat) (l0 : List (List Int)) (a1 : Int) (w : World) (hr0 : Kd.C (Kd.slice 22 (Kd.int .u32)) w A0 l0.length l0) (hc0 : l0.length ≤ c0) (_ : l0.length ≤ maxLen) (_ : ∀ x ∈ l0, x.length ≤ maxLen ∧ ∀ n ∈ x, (Lit.int .u32 n).wf = true) (_ : (Lit.int .i64 a1).wf = true) :
    Calls Try.prog 6 #[.slice A0 l0.length c0, .int .i64 a1] w fun e w' => e = .returned (.bool true) ∧ Below w.heap.size w w' := by
  obtain ⟨k, h⟩ := ScalarJoins l0 a1
  exact pilcrowlaw01_ScalarJoins.calls k A0 c0 l0 a1 true w hr0 hc0 h
end Go.Proofs.Ytdjpaahjmkbcjaa.Pure
