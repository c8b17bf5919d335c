/- BOCU-1: the bytes that stand for nothing but themselves; plain. TopKept: the walk. Texts compare as their lists do: UTF-8, UTF-32 big, BOCU-1; plain. Arguments, as the rows hand them over; a nil slice has no room. Rows of rows of numbers, as an argument. TopOrder: the walk. -/
import Derived.Test.YtooiooledeblmaaGreatM8
section
namespace Go.Proofs.YtooiooledeblmaaGreat.Dcd
open Go.RowKit Go.Proofs.YtooiooledeblmaaGreat.Win Go.Proofs.YtooiooledeblmaaGreat.Stp Go.Proofs.YtooiooledeblmaaGreat.Out Go.Proofs.YtooiooledeblmaaGreat.Lst
set_option linter.unusedVariables false
set_option linter.unusedSimpArgs false
theorem byteC_nk (v : Int) (h0 : 0 ≤ v) (h1 : v < 243) : isK (byteC v) = false := by
  have h : ∀ n : Fin 243, isK (byteC (n.val : Int)) = false := by decide +kernel
  have := h ⟨v.toNat, by omega⟩
  rw [show ((v.toNat : Nat) : Int) = v from Int.toNat_of_nonneg h0] at this
  exact this
theorem digs_nk (L : Int) : ∀ j, ∀ x ∈ digs L j, isK x = false
  | 0 => fun x hx => by cases hx
  | j + 1 => fun x hx => by
    unfold digs at hx
    rcases List.mem_cons.1 hx with rfl | hx
    · exact byteC_nk _ (Int.emod_nonneg _ (by decide)) (Int.emod_lt_of_pos _ (by decide))
    · exact digs_nk L j x hx
theorem isK_big {x : Int} (h : 32 < x) : isK x = false := by unfold isK; simp; omega
theorem isK_le {x : Int} (h : isK x = true) : x ≤ 32 := by unfold isK at h; simp at h; exact h.1
theorem packC_nk {d : Int} (h0 : -1114111 ≤ d) (h1 : d ≤ 1114111) : ∀ x ∈ packC d, isK x = false := by
  intro x hx
  unfold packC at hx
  have h := place_rng h0 h1
  rcases List.mem_cons.1 hx with rfl | hx
  · exact isK_big (by omega)
  · exact digs_nk _ _ x hx
theorem bocuB_nk {r c : Int} (hI : bocuI r) (h0 : 0 ≤ c) (hb : isB c = true) (h : ¬ c ≤ 32) : ∀ x ∈ bocuB r c, isK x = false := by
  have hb := (isB_iff.1 hb).1
  obtain ⟨i1, i2⟩ := hI
  unfold bocuB
  rw [if_neg h]
  exact packC_nk (by omega) (by omega)
theorem kept_split {k : Int} (hk : isK k = true) : ∀ (l : List Int) (r : Int) (X Y : List Int), bocuI r → Scal l → told bocuB bocuN r l = X ++ k :: Y → (∀ x ∈ X, isK x = false) →
    ∃ A B, l = A ++ k :: B ∧ told bocuB bocuN r A = X ∧ ∀ x ∈ A, isK x = false
  | [], r, X, Y, _, _, h, _ => by
    simp only [told] at h
    cases X <;> cases h
  | c :: cs, r, X, Y, hI, hs, h, hX => by
    have hc := hs c List.mem_cons_self
    have hs' : Scal cs := fun x hx => hs x (List.mem_cons_of_mem _ hx)
    have hI' := bocuN_inv r c hI hc.1 hc.2
    simp only [told] at h
    by_cases h32 : c ≤ 32
    · have hB : bocuB r c = [c] := by unfold bocuB; rw [if_pos h32]
      rw [hB] at h
      cases X with
      | nil =>
        injection h with h1 h2
        exact ⟨[], cs, by rw [h1]; rfl, rfl, fun x hx => by cases hx⟩
      | cons x X =>
        injection h with h1 h2
        subst h1
        obtain ⟨A, B, q1, q2, q3⟩ := kept_split hk cs _ X Y hI' hs' h2 (fun y hy => hX y (List.mem_cons_of_mem _ hy))
        refine ⟨c :: A, B, by rw [q1]; rfl, ?_, fun y hy => ?_⟩
        · simp only [told]
          rw [hB, q2]
          rfl
        · rcases List.mem_cons.1 hy with rfl | hy
          · exact hX y List.mem_cons_self
          · exact q3 y hy
    · have hnk := bocuB_nk hI hc.1 hc.2 h32
      rcases List.append_eq_append_iff.1 h with ⟨Z, h1, h2⟩ | ⟨Z, h1, h2⟩
      · obtain ⟨A, B, q1, q2, q3⟩ := kept_split hk cs _ Z Y hI' hs' h2 (fun y hy => hX y (by rw [h1]; exact List.mem_append_right _ hy))
        refine ⟨c :: A, B, by rw [q1]; rfl, ?_, fun y hy => ?_⟩
        · simp only [told]
          rw [q2, h1]
        · rcases List.mem_cons.1 hy with rfl | hy
          · exact isK_big (by omega)
          · exact q3 y hy
      · cases Z with
        | nil =>
          rw [List.append_nil] at h1
          rw [List.nil_append] at h2
          obtain ⟨A, B, q1, q2, q3⟩ := kept_split hk cs _ [] Y hI' hs' h2.symm (fun y hy => by cases hy)
          refine ⟨c :: A, B, by rw [q1]; rfl, ?_, fun y hy => ?_⟩
          · simp only [told]
            rw [q2, h1, List.append_nil]
          · rcases List.mem_cons.1 hy with rfl | hy
            · exact isK_big (by omega)
            · exact q3 y hy
        | cons z Z =>
          injection h2 with h3 h4
          have := hnk k (by rw [h1, h3]; exact List.mem_append_right _ List.mem_cons_self)
          rw [hk] at this
          cases this
theorem kept_none : ∀ (l : List Int) (r : Int), bocuI r → Scal l → (∀ x ∈ told bocuB bocuN r l, isK x = false) → ∀ x ∈ l, isK x = false
  | [], _, _, _, _ => fun x hx => by cases hx
  | c :: cs, r, hI, hs, h => fun x hx => by
    have hc := hs c List.mem_cons_self
    have hs' : Scal cs := fun x hx => hs x (List.mem_cons_of_mem _ hx)
    have hI' := bocuN_inv r c hI hc.1 hc.2
    simp only [told] at h
    rcases List.mem_cons.1 hx with rfl | hx
    · by_cases h32 : x ≤ 32
      · exact h x (List.mem_append_left _ (by unfold bocuB; rw [if_pos h32]; exact List.mem_singleton.2 rfl))
      · exact isK_big (by omega)
    · exact kept_none cs _ hI' hs' (fun y hy => h y (List.mem_append_right _ hy)) x hx
theorem told_app {R : Type} (B : R → Int → List Int) (N : R → Int → R) : ∀ (xs ys : List Int) (r : R), told B N r (xs ++ ys) = told B N r xs ++ told B N (foldN N r xs) ys
  | [], ys, r => rfl
  | x :: xs, ys, r => by
    simp only [told, foldN, List.cons_append]
    rw [told_app B N xs ys, List.append_assoc]
theorem i64B : bocuI 64 := ⟨by decide, by decide⟩
/-- How far the law has come: the scalars below at have given the bytes below some j, and from there to i none is kept. -/
def KInv (l : List Int) (i at_ : Nat) : Prop := at_ ≤ l.length ∧ i ≤ (told bocuB bocuN 64 l).length ∧ ∃ j, j ≤ i ∧ told bocuB bocuN 64 (l.take at_) = (told bocuB bocuN 64 l).take j ∧ ∀ x ∈ ((told bocuB bocuN 64 l).drop j).take (i - j), isK x = false
theorem KInv.zero (l : List Int) : KInv l 0 0 := ⟨Nat.zero_le _, Nat.zero_le _, 0, Nat.le_refl _, by simp [told], fun x hx => by simp at hx⟩
theorem KInv.skip {l : List Int} {i at_ : Nat} (h : KInv l i at_) (hi : i < (told bocuB bocuN 64 l).length) (hk : isK ((told bocuB bocuN 64 l).getD i 0) = false) : KInv l (i + 1) at_ := by
  obtain ⟨h1, h2, j, h3, h4, h5⟩ := h
  refine ⟨h1, hi, j, by omega, h4, fun x hx => ?_⟩
  have : i + 1 - j = (i - j) + 1 := by omega
  rw [this, List.take_succ_eq_append_getElem (by rw [List.length_drop]; omega)] at hx
  rcases List.mem_append.1 hx with hx | hx
  · exact h5 x hx
  · rw [List.mem_singleton] at hx
    rw [hx, List.getElem_drop]
    rw [List.getD_eq_getElem?_getD, List.getElem?_eq_getElem hi] at hk
    simp only [show j + (i - j) = i by omega]
    exact hk
theorem getD_mid {A B : List Int} {k : Int} : (A ++ k :: B).getD A.length 0 = k := by
  rw [List.getD_eq_getElem?_getD, List.getElem?_append_right (Nat.le_refl _)]
  simp
theorem getD_left {A B : List Int} {m : Nat} (h : m < A.length) : (A ++ B).getD m 0 ∈ A := by
  rw [List.getD_eq_getElem?_getD, List.getElem?_append_left h, List.getElem?_eq_getElem h]
  exact List.getElem_mem _
theorem getD_drop' (l : List Int) (a m : Nat) : (l.drop a).getD m 0 = l.getD (a + m) 0 := by
  rw [List.getD_eq_getElem?_getD, List.getD_eq_getElem?_getD, List.getElem?_drop]
theorem KInv.kept {l : List Int} {i at_ : Nat} (h : KInv l i at_) (hs : Scal l) (hi : i < (told bocuB bocuN 64 l).length) (hk : isK ((told bocuB bocuN 64 l).getD i 0) = true) :
    ∃ n, at_ + n < l.length ∧ (∀ m, m < n → isK (l.getD (at_ + m) 0) = false) ∧ l.getD (at_ + n) 0 = (told bocuB bocuN 64 l).getD i 0 ∧ told bocuB bocuN 64 (l.take (at_ + n)) = (told bocuB bocuN 64 l).take i ∧ KInv l (i + 1) (at_ + n + 1) := by
  obtain ⟨h1, h2, j, h3, h4, h5⟩ := h
  obtain ⟨S, hS⟩ : ∃ S, S = told bocuB bocuN 64 l := ⟨_, rfl⟩
  have hsp : told bocuB bocuN 64 l = told bocuB bocuN 64 (l.take at_) ++ told bocuB bocuN (foldN bocuN 64 (l.take at_)) (l.drop at_) := by rw [← told_app, List.take_append_drop]
  have hI : bocuI (foldN bocuN 64 (l.take at_)) := fold_inv bocuN_inv (l.take at_) 64 i64B (fun x hx => hs x (List.mem_of_mem_take hx))
  rw [← hS] at hi hk h4 h5 hsp ⊢
  have htl : told bocuB bocuN (foldN bocuN 64 (l.take at_)) (l.drop at_) = S.drop j := by
    rw [h4] at hsp
    exact (List.append_cancel_left ((List.take_append_drop j S).trans hsp)).symm
  have hd : S.drop j = (S.drop j).take (i - j) ++ S.getD i 0 :: S.drop (i + 1) := by
    have e1 : (S.drop j).drop (i - j) = S.drop i := by rw [List.drop_drop]; congr 1; omega
    rw [← drop_cons hi, ← e1, List.take_append_drop]
  rw [hd] at htl
  obtain ⟨A, B, q1, q2, q3⟩ := kept_split hk (l.drop at_) _ _ _ hI (hs.drop at_) htl h5
  have hlen : at_ + A.length < l.length := by
    have := congrArg List.length q1
    rw [List.length_drop, List.length_append, List.length_cons] at this
    omega
  have hl : l = l.take at_ ++ (A ++ S.getD i 0 :: B) := by rw [← q1, List.take_append_drop]
  have hta : l.take (at_ + A.length) = l.take at_ ++ A := by
    rw [List.take_add, q1, List.take_left]
  have ht : told bocuB bocuN 64 (l.take (at_ + A.length)) = S.take i := by
    rw [hta, told_app, h4, q2]
    have : S.take i = S.take (j + (i - j)) := by congr 1; omega
    rw [this, List.take_add]
  have hg : l.getD (at_ + A.length) 0 = S.getD i 0 := by rw [← getD_drop', q1, getD_mid]
  refine ⟨A.length, hlen, fun m hm => ?_, hg, ht, by omega, by rw [← hS]; omega, i + 1, Nat.le_refl _, ?_, fun x hx => by simp at hx⟩
  · rw [← getD_drop', q1]
    exact q3 _ (getD_left hm)
  · rw [← hS, List.take_succ_eq_append_getElem hlen, told_app, ht, List.take_succ_eq_append_getElem hi]
    have e1 : l[at_ + A.length] = S[i] := by
      rw [List.getD_eq_getElem?_getD, List.getElem?_eq_getElem hlen, List.getD_eq_getElem?_getD, List.getElem?_eq_getElem hi] at hg
      exact hg
    have e2 : S.getD i 0 = S[i] := by rw [List.getD_eq_getElem?_getD, List.getElem?_eq_getElem hi]; rfl
    have e3 : S[i] ≤ 32 := by rw [← e2]; exact isK_le hk
    rw [e1]
    simp only [told, bocuB, if_pos e3]
    rfl
theorem KInv.done {l : List Int} {at_ : Nat} (h : KInv l (told bocuB bocuN 64 l).length at_) (hs : Scal l) : ∀ m, at_ ≤ m → m < l.length → isK (l.getD m 0) = false := by
  obtain ⟨h1, h2, j, h3, h4, h5⟩ := h
  have hsp : told bocuB bocuN 64 l = told bocuB bocuN 64 (l.take at_) ++ told bocuB bocuN (foldN bocuN 64 (l.take at_)) (l.drop at_) := by rw [← told_app, List.take_append_drop]
  have hI : bocuI (foldN bocuN 64 (l.take at_)) := fold_inv bocuN_inv (l.take at_) 64 i64B (fun x hx => hs x (List.mem_of_mem_take hx))
  have htl : told bocuB bocuN (foldN bocuN 64 (l.take at_)) (l.drop at_) = (told bocuB bocuN 64 l).drop j := by
    rw [h4] at hsp
    exact (List.append_cancel_left ((List.take_append_drop j _).trans hsp)).symm
  rw [List.take_of_length_le (by rw [List.length_drop]; omega), ← htl] at h5
  intro m hm hl
  have := kept_none (l.drop at_) _ hI (hs.drop at_) h5 ((l.drop at_).getD (m - at_) 0) (by
    rw [List.getD_eq_getElem?_getD, List.getElem?_eq_getElem (by rw [List.length_drop]; omega)]
    exact List.getElem_mem _)
  rw [getD_drop', show at_ + (m - at_) = m by omega] at this
  exact this
end Go.Proofs.YtooiooledeblmaaGreat.Dcd
end
section
namespace Go.Proofs.YtooiooledeblmaaGreat.Dcd
open Go.RowKit Go.Proofs.YtooiooledeblmaaGreat.Win Go.Proofs.YtooiooledeblmaaGreat.Stp Go.Proofs.YtooiooledeblmaaGreat.Out Go.Proofs.YtooiooledeblmaaGreat.Lst Go.Proofs.YtooiooledeblmaaGreat.Dec
set_option linter.unusedVariables false
set_option linter.unusedSimpArgs false
theorem small_any {w : World} {A : Option Addr} {c : Nat} {l : List Int} {most : Int} (hm : most ≤ 1000000) (hL : Lst w .u32 A l) (h0 : ∀ x ∈ l, 0 ≤ x) : Calls Tryz.prog 9 #[.slice A l.length c, .int .i64 most] w (SmallPost w l most) := by
  by_cases hl : l.length ≤ 1000000
  · exact small_calls hL h0 hl
  · refine (small_great (A := A) (c := c) (w := w) (show most < (l.length : Int) by omega)).mono ?_
    rintro e w' ⟨rfl, rfl⟩
    exact ⟨⟨false, rfl, fun h => by cases h⟩, Below.refl _ _⟩
theorem byt_str {xs : List Int} (h : ∀ x ∈ xs, 0 ≤ x ∧ x ≤ 255) : byt (strOfNums xs) = xs := by
  unfold byt strOfNums
  simp only [List.map_map]
  conv => rhs; rw [← List.map_id xs]
  apply List.map_congr_left
  intro x hx
  have := h x hx
  simp
  omega
theorem digs_rg (L : Int) : ∀ j, ∀ x ∈ digs L j, 0 ≤ x ∧ x ≤ 255
  | 0 => fun x hx => by cases hx
  | j + 1 => fun x hx => by
    unfold digs at hx
    rcases List.mem_cons.1 hx with rfl | hx
    · have := byteC_rng (Int.emod_nonneg (L / 243 ^ j) (show (243 : Int) ≠ 0 by decide)) (Int.emod_lt_of_pos _ (by decide))
      omega
    · exact digs_rg L j x hx
theorem told_rg {R : Type} {B : R → Int → List Int} {N : R → Int → R} {I : R → Prop} (hB : ∀ r c, I r → 0 ≤ c → isB c = true → ∀ x ∈ B r c, 0 ≤ x ∧ x ≤ 255) (hN : ∀ r c, I r → 0 ≤ c → isB c = true → I (N r c)) : ∀ (l : List Int) (r : R), I r → Scal l → ∀ x ∈ told B N r l, 0 ≤ x ∧ x ≤ 255
  | [], _, _, _ => fun x hx => by cases hx
  | c :: cs, r, hI, hs => fun x hx => by
    have hc := hs c List.mem_cons_self
    simp only [told] at hx
    rcases List.mem_append.1 hx with hx | hx
    · exact hB r c hI hc.1 hc.2 x hx
    · exact told_rg hB hN cs _ (hN r c hI hc.1 hc.2) (fun y hy => hs y (List.mem_cons_of_mem _ hy)) x hx
theorem bocuB_rg (r c : Int) (hI : bocuI r) (h0 : 0 ≤ c) (hb : isB c = true) : ∀ x ∈ bocuB r c, 0 ≤ x ∧ x ≤ 255 := by
  have hb := (isB_iff.1 hb).1
  obtain ⟨i1, i2⟩ := hI
  unfold bocuB
  intro x hx
  split at hx
  · rw [List.mem_singleton] at hx; omega
  · have h := place_rng (show -1114111 ≤ c - r by omega) (show c - r ≤ 1114111 by omega)
    unfold packC at hx
    rcases List.mem_cons.1 hx with rfl | hx
    · omega
    · exact digs_rg _ _ x hx
def LawPost (w : World) (e : Ending) (w' : World) : Prop := e = .returned (.bool true) ∧ Below w.heap.size w w'
def KRel (w : World) (l : List Int) (v5 v6 : Value) (wr : World) : Prop := ∃ i a : Nat, v5 = .int .i64 a ∧ v6 = .int .i64 i ∧ KInv l i a ∧ Below w.heap.size w wr
set_option maxRecDepth 100000 in
set_option maxHeartbeats 16000000 in
theorem kept_law {w : World} {A : Option Addr} {c : Nat} {l : List Int} (h : Lst w .u32 A l) (h0 : ∀ x ∈ l, 0 ≤ x) (hcap : l.length ≤ c) (hnil : A = none → c = 0) (hm : l.length ≤ maxLen) :
    Calls Tryz.prog 5 #[.slice A l.length c] w (LawPost w) := by
  unfold maxLen at hm
  have H := Lib.hid h
  have H0 := Lib.hid h0
  have HN := Lib.hid hnil
  clear h h0 hnil
  go_enter Tryz.func5, Tryz.ntmps5
  go_wp2_with fail
  refine (live_calls _).mono ?_
  rintro e w1 ⟨rfl, hb1⟩
  have HB1 := Lib.hid hb1
  have HL1 := Lib.hid (H.out.below hb1)
  clear hb1
  go_wp2_with fail
  refine (small_any (by decide) HL1.out H0.out).mono ?_
  rintro e w2 ⟨⟨b, rfl, hb⟩, hb2⟩
  have HB2 := Lib.hid (HB1.out.trans (Below.mono hb2 HB1.out.size))
  cases b with
  | false =>
    clear hb hb2
    go_wp2_with fail
    refine (live_calls _).mono ?_
    rintro e w3 ⟨rfl, hb3⟩
    have HB3 := Lib.hid (HB2.out.trans (Below.mono hb3 HB2.out.size))
    clear hb3
    go_wp2_with fail
    go_ret
    exact ⟨rfl, HB3.out⟩
  | true =>
    obtain ⟨hlen, hs⟩ := hb rfl
    have HS := Lib.hid hs
    have HL2 := Lib.hid (HL1.out.below hb2)
    clear hb hb2 hs
    go_wp2_with fail
    refine (lenc_calls (c := 8) (encOK_all (.inr rfl)) HL2.out HS.out (by omega) HN.out).mono ?_
    rw [show encS 8 l = told bocuB bocuN 64 l from rfl]
    rintro e w3 ⟨rfl, hb3⟩
    obtain ⟨S, hS⟩ : ∃ S, S = told bocuB bocuN 64 l := ⟨_, rfl⟩
    have hrg : ∀ x ∈ S, 0 ≤ x ∧ x ≤ 255 := by rw [hS]; exact told_rg (I := bocuI) bocuB_rg bocuN_inv l 64 i64B HS.out
    have hSl : S.length ≤ 500 := by
      have := told_len bocuN bocuB_len l 64
      rw [hS]; omega
    rw [← hS]
    obtain ⟨T, hT⟩ : ∃ T, T = strOfNums S := ⟨_, rfl⟩
    have HT := Lib.hid hT
    have hTs : T.size = S.length := by rw [hT, str_size]
    have HTs := Lib.hid hTs
    have HAt := Lib.hid (show ∀ k, (hk : k < T.size) → (T[k].toNat : Int) = S.getD k 0 from fun k hk => by rw [← byt_at T k hk, hT, byt_str hrg])
    have HSe := Lib.hid hS
    have HB3 := Lib.hid (HB2.out.trans (Below.mono hb3 HB2.out.size))
    rw [← hT]
    have hTl : T.size ≤ 500 := by omega
    clear hrg hT hb3 hS hTs hSl
    go_wp2_with fail
    go_loopw [5, 6] (fun v5 v6 wr => KRel w l v5 v6 wr) (fun _ v6 _ => T.size - (intOf v6).toNat)
    case atStart => exact ⟨0, 0, rfl, rfl, KInv.zero l, HB3.out⟩
    case round =>
      obtain ⟨i, a, rfl, rfl, hki, hbw⟩ := hrel
      have HK := Lib.hid hki
      have HBw := Lib.hid hbw
      have hile : i ≤ T.size := by rw [HTs.out, HSe.out]; exact hki.2.1
      have hale := hki.1
      clear hki hbw
      by_cases hlt : i < T.size
      · obtain ⟨x, hx⟩ : ∃ x : Int, x = (T[i].toNat : Int) := ⟨_, rfl⟩
        have hxr : 0 ≤ x ∧ x ≤ 255 := by have := T[i].toNat_lt; omega
        have hxS : S.getD i 0 = x := by rw [hx]; exact (HAt.out i hlt).symm
        have HX := Lib.hid hx
        have HXS := Lib.hid hxS
        have hiS : i < (told bocuB bocuN 64 l).length := by rw [← HSe.out, ← HTs.out]; exact hlt
        have HKp := Lib.hid (kept_calls2 x wr)
        have hxw : (T[i].toNat : Int) = x := hx.symm
        clear hx hxS
        cases hkx : isK x with
        | false =>
          have HKn := Lib.hid (HK.out.skip hiS (by rw [← HSe.out, HXS.out]; exact hkx))
          rw [hkx] at HKp
          clear hiS hkx
          go_wp2_with fail
          refine HKp.out.mono ?_
          rintro e w4 ⟨rfl, hb4⟩
          have HB4 := Lib.hid (HBw.out.trans (Below.mono hb4 HBw.out.size))
          clear hb4
          go_wp2_with fail
          go_roundw
          case rel => exact ⟨i + 1, a, rfl, by go_num, HKn.out, HB4.out⟩
          case measure => simp [intOf]; omega
        | true =>
          obtain ⟨n, n1, n2, n3, n4, n5⟩ := HK.out.kept HS.out hiS (by rw [← HSe.out, HXS.out]; exact hkx)
          have HKn := Lib.hid n5
          have HNo := Lib.hid n2
          have HFr := Lib.hid n4
          have HLa := Lib.hid (show l.getD (a + n) 0 = x by rw [n3, ← HSe.out, HXS.out])
          have hx32 := isK_le hkx
          have HKx := Lib.hid hkx
          rw [hkx] at HKp
          clear hiS hkx n2 n3 n4 n5
          go_wp2_with fail
          refine HKp.out.mono ?_
          rintro e w4 ⟨rfl, hb4⟩
          have HB4 := Lib.hid (HBw.out.trans (Below.mono hb4 HBw.out.size))
          clear hb4
          go_wp2_with fail
          go_loopw [5] (fun v5 wr => ∃ m : Nat, m ≤ n ∧ v5 = .int .i64 ((a + m : Nat) : Int) ∧ Below w.heap.size w wr) (fun v5 _ => a + n - (intOf v5).toNat)
          case atStart => exact ⟨0, Nat.zero_le _, rfl, HB4.out⟩
          case round =>
            obtain ⟨m, hmn, rfl, hbw4⟩ := hrel
            have HB5 := Lib.hid hbw4
            obtain ⟨ad, rfl, q⟩ := (H.out.below hbw4) (a + m) (by omega)
            have hy0 := H0.out (l.getD (a + m) 0) (by rw [List.getD_eq_getElem?_getD, List.getElem?_eq_getElem (by omega)]; exact List.getElem_mem _)
            obtain ⟨y, hy⟩ : ∃ y, y = l.getD (a + m) 0 := ⟨_, rfl⟩
            rw [← hy] at q hy0
            have HY := Lib.hid hy
            have hyS : y ≤ 1114111 := by
              have := HS.out y (by rw [hy, List.getD_eq_getElem?_getD, List.getElem?_eq_getElem (by omega)]; exact List.getElem_mem _)
              exact (isB_iff.1 this.2).1
            have hlta : decide (((a + m : Nat) : Int) < (l.length : Int)) = true := by simp; omega
            clear hbw4 hy
            by_cases hlm : m < n
            · have hnk := HNo.out m hlm
              rw [← HY.out] at hnk
              by_cases hy32 : 32 < y
              · clear hnk
                go_wp2_with fail
                go_roundw
                case rel => exact ⟨m + 1, hlm, by go_num, HB5.out⟩
                case measure => simp [intOf]; omega
              · have hw8 : IntKind.u8.wrap y = y := by rw [IntKind.wrap_u8]; omega
                have hky := kept_calls2 y wr
                rw [hnk] at hky
                have HKy := Lib.hid hky
                clear hnk hky
                go_wp2_with fail
                refine HKy.out.mono ?_
                rintro e w6 ⟨rfl, hb6⟩
                have HB6 := Lib.hid (HB5.out.trans (Below.mono hb6 HB5.out.size))
                clear hb6
                go_wp2_with fail
                go_roundw
                case rel => exact ⟨m + 1, hlm, by go_num, HB6.out⟩
                case measure => simp [intOf]; omega
            · obtain rfl : m = n := by omega
              obtain rfl : y = x := by rw [HY.out, HLa.out]
              have hw8 : IntKind.u8.wrap y = y := by rw [IntKind.wrap_u8]; omega
              have hky := kept_calls2 y wr
              rw [HKx.out] at hky
              have HKy := Lib.hid hky
              clear hky hlm
              go_wp2_with fail
              refine HKy.out.mono ?_
              rintro e w6 ⟨rfl, hb6⟩
              have HB6 := Lib.hid (HB5.out.trans (Below.mono hb6 HB5.out.size))
              have q6 : w6.cell? (ad.add (a + m)) = some (.int .u32 y) := (hb6.cell (p := ad.add (a + m)) (World.block_lt_of_cell? _ _ q)).trans q
              clear hb6 q
              go_wp2_with fail
              have hw32 : IntKind.u32.wrap y = y := by rw [IntKind.wrap_u32]; omega
              have hlt' : (l.take (a + m)).length = a + m := by rw [List.length_take]; omega
              have hen := fun (wz : World) (hz : Below w.heap.size w wz) => lenc_calls (c := 8) (encOK_all (.inr rfl)) (w := wz) (A := some ad) (cap := c) (l := l.take (a + m)) ((H.out.below hz).take _) (HS.out.take _) (by omega) (fun h => nomatch h)
              rw [hlt', show encS 8 (l.take (a + m)) = told bocuB bocuN 64 (l.take (a + m)) from rfl, HFr.out, ← HSe.out] at hen
              have hext := str_extract S 0 i
              rw [List.drop_zero, Nat.sub_zero, ← HT.out] at hext
              obtain ⟨F, hF⟩ : ∃ F, F = strOfNums (S.take i) := ⟨_, rfl⟩
              rw [← hF] at hext
              unfold EncLPost at hen
              rw [← hF] at hen
              have HEn := Lib.hid hen
              have HExt := Lib.hid hext
              clear hen hlt' hF hext
              have htn : ((a : Int) + (m : Int)).toNat = a + m := by omega
              have ht0 : (0 : Int) ≤ (a : Int) + (m : Int) := by omega
              have ht1 : (a : Int) + (m : Int) < (l.length : Int) := by omega
              go_quiet (fail)
              go_wp2_with fail
              refine (HEn.out _ (below_drewN HB6.out _)).mono ?_
              rintro e w7 ⟨rfl, hb7⟩
              have HB7 := Lib.hid ((below_drewN HB6.out nq).trans (Below.mono hb7 (below_drewN HB6.out nq).size))
              have hext := HExt.out
              clear hb7
              go_wp2_with fail
              go_roundw
              case rel => exact ⟨i + 1, a + m + 1, by go_num, by go_num, HKn.out, HB7.out⟩
              case measure => simp [intOf]; omega
      · obtain rfl : i = T.size := by omega
        have HDone := Lib.hid (KInv.done (l := l) (at_ := a) (by rw [← HSe.out, ← HTs.out]; exact HK.out) HS.out)
        clear hlt hile
        go_wp2_with fail
        go_loopw [5] (fun v5 wr' => ∃ m : Nat, a ≤ m ∧ m ≤ l.length ∧ v5 = .int .i64 (m : Int) ∧ Below w.heap.size w wr') (fun v5 _ => l.length - (intOf v5).toNat)
        case atStart => exact ⟨a, Nat.le_refl _, hale, rfl, HBw.out⟩
        case round =>
          obtain ⟨m, ham, hml, rfl, hbw4⟩ := hrel
          have HB5 := Lib.hid hbw4
          by_cases hlm : m < l.length
          · obtain ⟨ad, rfl, q⟩ := (H.out.below hbw4) m hlm
            have hy0 := H0.out (l.getD m 0) (by rw [List.getD_eq_getElem?_getD, List.getElem?_eq_getElem hlm]; exact List.getElem_mem _)
            have hnk := HDone.out m ham hlm
            generalize l.getD m 0 = y at q hy0 hnk
            clear hbw4
            by_cases hy32 : y ≤ 32
            · have hw8 : IntKind.u8.wrap y = y := by rw [IntKind.wrap_u8]; omega
              have hky := kept_calls2 y wr
              rw [hnk] at hky
              have HKy := Lib.hid hky
              clear hnk hky
              go_wp2_with fail
              refine HKy.out.mono ?_
              rintro e w6 ⟨rfl, hb6⟩
              have HB6 := Lib.hid (HB5.out.trans (Below.mono hb6 HB5.out.size))
              clear hb6
              go_wp2_with fail
              go_roundw
              case rel => exact ⟨m + 1, by omega, by omega, by go_num, HB6.out⟩
              case measure => simp [intOf]; omega
            · clear hnk
              go_wp2_with fail
              go_roundw
              case rel => exact ⟨m + 1, by omega, by omega, by go_num, HB5.out⟩
              case measure => simp [intOf]; omega
          · obtain rfl : m = l.length := by omega
            go_wp2_with fail
            go_ret
            exact ⟨rfl, HB5.out⟩
end Go.Proofs.YtooiooledeblmaaGreat.Dcd
end
section
namespace Go.Proofs.YtooiooledeblmaaGreat.Dcd
open Go.RowKit Go.Proofs.YtooiooledeblmaaGreat.Win Go.Proofs.YtooiooledeblmaaGreat.Stp Go.Proofs.YtooiooledeblmaaGreat.Out Go.Proofs.YtooiooledeblmaaGreat.Lst
set_option linter.unusedVariables false
set_option linter.unusedSimpArgs false
/-- Less at a place that both have. -/
def sl : List Int → List Int → Bool
  | x :: xs, y :: ys => decide (x < y) || (decide (x = y) && sl xs ys)
  | _, _ => false
theorem sl_ord : ∀ (p q X Y : List Int), sl p q = true → ord (p ++ X) (q ++ Y) = -1 ∧ ord (q ++ Y) (p ++ X) = 1
  | [], _, _, _, h => by cases h
  | _ :: _, [], _, _, h => by cases h
  | x :: xs, y :: ys, X, Y, h => by
    simp only [sl, Bool.or_eq_true, Bool.and_eq_true, decide_eq_true_eq] at h
    rcases h with h | ⟨rfl, h⟩
    · simp only [List.cons_append, ord]
      exact ⟨if_pos h, by rw [if_neg (by omega), if_pos h]⟩
    · have := sl_ord xs ys X Y h
      simp only [List.cons_append, ord, Int.lt_irrefl, if_false]
      exact this
theorem ord_pre : ∀ (p X Y : List Int), ord (p ++ X) (p ++ Y) = ord X Y
  | [], _, _ => rfl
  | x :: p, X, Y => by
    simp only [List.cons_append, ord]
    rw [if_neg (by omega), if_neg (by omega), ord_pre p X Y]
theorem ord_vals : ∀ xs ys : List Int, ord xs ys = -1 ∨ ord xs ys = 0 ∨ ord xs ys = 1
  | [], [] => .inr (.inl rfl)
  | [], _ :: _ => .inl rfl
  | _ :: _, [] => .inr (.inr rfl)
  | x :: xs, y :: ys => by
    simp only [ord]
    split
    · exact .inl rfl
    · split
      · exact .inr (.inr rfl)
      · exact ord_vals xs ys
theorem ord_turn : ∀ xs ys : List Int, ord ys xs = - ord xs ys
  | [], [] => rfl
  | [], _ :: _ => rfl
  | _ :: _, [] => rfl
  | x :: xs, y :: ys => by
    simp only [ord]
    by_cases h1 : x < y
    · have h2 : ¬ y < x := by omega
      simp only [if_pos h1, if_neg h2]
      rfl
    · by_cases h2 : y < x
      · simp only [if_pos h2, if_neg h1]
      · simp only [if_neg h1, if_neg h2]
        exact ord_turn xs ys
theorem ord_nil {X : List Int} (h : 1 ≤ X.length) : ord [] X = -1 ∧ ord X [] = 1 := by
  cases X with
  | nil => simp at h
  | cons x X => exact ⟨rfl, rfl⟩
theorem told_ord {R : Type} {B : R → Int → List Int} {N : R → Int → R} {I : R → Prop} (hp : ∀ r c, 1 ≤ (B r c).length) (hB : ∀ r c d, I r → 0 ≤ c → isB c = true → 0 ≤ d → isB d = true → c < d → sl (B r c) (B r d) = true) (hN : ∀ r c, I r → 0 ≤ c → isB c = true → I (N r c)) :
    ∀ (a b : List Int) (r : R), I r → Scal a → Scal b → ord (told B N r a) (told B N r b) = ord a b
  | [], [], _, _, _, _ => rfl
  | [], y :: ys, r, _, _, _ => (ord_nil (told_pos N hp (y :: ys) r (by simp))).1
  | x :: xs, [], r, _, _, _ => (ord_nil (told_pos N hp (x :: xs) r (by simp))).2
  | x :: xs, y :: ys, r, hI, ha, hb => by
    have hx := ha x List.mem_cons_self
    have hy := hb y List.mem_cons_self
    simp only [told, ord]
    by_cases h1 : x < y
    · rw [if_pos h1]
      exact (sl_ord _ _ _ _ (hB r x y hI hx.1 hx.2 hy.1 hy.2 h1)).1
    · by_cases h2 : y < x
      · rw [if_neg h1, if_pos h2]
        exact (sl_ord _ _ _ _ (hB r y x hI hy.1 hy.2 hx.1 hx.2 h2)).2
      · obtain rfl : x = y := by omega
        rw [if_neg h1, if_neg h2, ord_pre]
        exact told_ord hp hB hN xs ys _ (hN r x hI hx.1 hx.2) (fun z hz => ha z (List.mem_cons_of_mem _ hz)) (fun z hz => hb z (List.mem_cons_of_mem _ hz))
theorem sl_u8 {c d : Int} (h0 : 0 ≤ c) (hd : d ≤ 1114111) (h : c < d) : sl (uni8B c) (uni8B d) = true := by
  unfold uni8B
  repeat' split
  all_goals
    simp only [sl, Bool.or_eq_true, Bool.and_eq_true, decide_eq_true_eq]
    omega
theorem sl_u32 {c d : Int} (h0 : 0 ≤ c) (hd : d ≤ 1114111) (h : c < d) : sl (uni32B true c) (uni32B true d) = true := by
  unfold uni32B
  simp only [if_true, sl, Bool.or_eq_true, Bool.and_eq_true, decide_eq_true_eq]
  omega
theorem byteC_lt {u v : Int} (h0 : 0 ≤ u) (h : u < v) (h1 : v < 243) : byteC u < byteC v := by
  unfold byteC
  repeat' split
  all_goals omega
theorem digs_lt {L1 L2 : Int} (h : L1 < L2) : ∀ t : Nat, L1 / 243 ^ t < L2 / 243 ^ t ∨ (L1 / 243 ^ t = L2 / 243 ^ t ∧ sl (digs L1 t) (digs L2 t) = true)
  | 0 => .inl (by simpa using h)
  | t + 1 => by
    have e1 := Out.pow_succ' L1 t
    have e2 := Out.pow_succ' L2 t
    have ih := digs_lt h t
    rw [e1, e2]
    simp only [digs, sl, Bool.or_eq_true, Bool.and_eq_true, decide_eq_true_eq]
    generalize L1 / 243 ^ t = q1 at *
    generalize L2 / 243 ^ t = q2 at *
    rcases ih with ih | ⟨ih, hs⟩
    · by_cases hq : q1 / 243 < q2 / 243
      · exact .inl hq
      · have hm : q1 % 243 < q2 % 243 := by omega
        exact .inr ⟨by omega, .inl (byteC_lt (Int.emod_nonneg _ (by decide)) hm (Int.emod_lt_of_pos _ (by decide)))⟩
    · subst ih
      exact .inr ⟨rfl, .inr ⟨rfl, hs⟩⟩
theorem sl_class {K L1 L2 : Int} {t : Nat} (h : L1 < L2) : K + L1 / 243 ^ t < K + L2 / 243 ^ t ∨ (K + L1 / 243 ^ t = K + L2 / 243 ^ t ∧ sl (digs L1 t) (digs L2 t) = true) := by
  rcases digs_lt h t with h | ⟨h1, h2⟩
  · exact .inl (by omega)
  · exact .inr ⟨by rw [h1], h2⟩
theorem sl_pack {c d : Int} (h0 : -1114111 ≤ c) (hd : d ≤ 1114111) (h : c < d) : sl (packC c) (packC d) = true := by
  unfold packC placeC
  repeat' split
  all_goals
    simp only [sl, Bool.or_eq_true, Bool.and_eq_true, decide_eq_true_eq]
    first
      | exact sl_class (by omega)
      | (left; omega)
theorem sl_bocu (r c d : Int) (hI : bocuI r) (h0 : 0 ≤ c) (hb : isB c = true) (h0' : 0 ≤ d) (hb' : isB d = true) (h : c < d) : sl (bocuB r c) (bocuB r d) = true := by
  have hc := (isB_iff.1 hb).1
  have hd := (isB_iff.1 hb').1
  obtain ⟨i1, i2⟩ := hI
  unfold bocuB
  by_cases h1 : c ≤ 32
  · rw [if_pos h1]
    by_cases h2 : d ≤ 32
    · rw [if_pos h2]
      simp [sl, h]
    · rw [if_neg h2]
      have := place_rng (show -1114111 ≤ d - r by omega) (show d - r ≤ 1114111 by omega)
      unfold packC
      simp only [sl, Bool.or_eq_true, decide_eq_true_eq]
      left
      omega
  · rw [if_neg h1, if_neg (by omega)]
    exact sl_pack (by omega) (by omega) (by omega)
theorem bocuB_pos (r c : Int) : 1 ≤ (bocuB r c).length := by
  unfold bocuB
  split
  · simp
  · unfold packC; simp
theorem enc_ord {c : Int} (hc : c = 1 ∨ c = 4 ∨ c = 8) {a b : List Int} (ha : Scal a) (hb : Scal b) : ord (encS c a) (encS c b) = ord a b := by
  rcases hc with rfl | rfl | rfl
  · exact told_ord (I := fun _ => True) (fun _ c => by unfold uni8B; (repeat' split) <;> simp) (fun _ c d _ h0 _ _ hd h => sl_u8 h0 (isB_iff.1 hd).1 h) (fun _ _ _ _ _ => trivial) a b () trivial ha hb
  · exact told_ord (I := fun _ => True) (fun _ c => by unfold uni32B; split <;> simp) (fun _ c d _ h0 _ _ hd h => sl_u32 h0 (isB_iff.1 hd).1 h) (fun _ _ _ _ _ => trivial) a b () trivial ha hb
  · exact told_ord (I := bocuI) bocuB_pos sl_bocu bocuN_inv a b 64 i64B ha hb
theorem enc_rg {c : Int} (hc : c = 1 ∨ c = 4 ∨ c = 8) {a : List Int} (ha : Scal a) : ∀ x ∈ encS c a, 0 ≤ x ∧ x ≤ 255 := by
  rcases hc with rfl | rfl | rfl
  · refine told_rg (I := fun _ => True) (B := u8B) (N := unN) (fun _ c _ h0 hb x hx => ?_) (fun _ _ _ _ _ => trivial) a () trivial ha
    have hb := (isB_iff.1 hb).1
    unfold u8B uni8B at hx
    repeat' split at hx
    all_goals
      simp at hx
      omega
  · refine told_rg (I := fun _ => True) (B := u32B true) (N := unN) (fun _ c _ h0 hb x hx => ?_) (fun _ _ _ _ _ => trivial) a () trivial ha
    have hb := (isB_iff.1 hb).1
    unfold u32B uni32B at hx
    simp at hx
    omega
  · exact told_rg (I := bocuI) bocuB_rg bocuN_inv a 64 i64B ha
theorem less_ord : ∀ (xs ys : List Int), (∀ x ∈ xs, 0 ≤ x ∧ x ≤ 255) → (∀ y ∈ ys, 0 ≤ y ∧ y ≤ 255) → Op.bytesLess (xs.map fun x => UInt8.ofNat x.toNat) (ys.map fun x => UInt8.ofNat x.toNat) = decide (ord xs ys < 0)
  | [], [], _, _ => by simp [Op.bytesLess, ord]
  | [], _ :: _, _, _ => by simp [Op.bytesLess, ord]
  | _ :: _, [], _, _ => by simp [Op.bytesLess, ord]
  | x :: xs, y :: ys, hx, hy => by
    have ih := less_ord xs ys (fun z hz => hx z (List.mem_cons_of_mem _ hz)) (fun z hz => hy z (List.mem_cons_of_mem _ hz))
    have h1 := hx x List.mem_cons_self
    have h2 := hy y List.mem_cons_self
    simp only [List.map_cons, Op.bytesLess, ord, ih]
    have e1 : (UInt8.ofNat x.toNat < UInt8.ofNat y.toNat) ↔ x < y := by
      rw [UInt8.lt_iff_toNat_lt]
      simp
      omega
    have e2 : (UInt8.ofNat x.toNat = UInt8.ofNat y.toNat) ↔ x = y := by
      rw [← UInt8.toNat_inj]
      simp
      omega
    by_cases h3 : x < y
    · simp [h3, e1]
    · by_cases h4 : y < x
      · have h5 : ¬ x = y := by omega
        simp [h3, h4, e1, e2, h5]
      · obtain rfl : x = y := by omega
        simp
end Go.Proofs.YtooiooledeblmaaGreat.Dcd
end
section
set_option linter.unusedVariables false
namespace Go.Proofs.YtooiooledeblmaaGreat.Open
open Go.ChangeShapes Go.WideShapes Go.RowKit Go.Proofs.YtooiooledeblmaaGreatW.PrintWords
section
variable {H : Type} {enc : TypeId × Value → H} {P : Program} {W : World} {base : Nat} {spare : Nat → Bool} {held : Bool}
theorem arg_nil {t e : TypeId} (ht : P.underlying t = some (.slice e)) {a : Option Addr} {len cap : Nat} {y : DataW H} {ps : List MemPlace} (h : DataW.Trod enc P W base spare held t (.slice a len cap) y ps) : a = none → cap = 0 := by
  obtain ⟨fuel, hf⟩ := h
  rcases Deep.open_slice ht hf with ⟨hcs, _⟩ | ⟨x, l, c, m, n, D, Pl, hcs, _⟩
  · simp [Value.cells] at hcs
    exact fun _ => hcs.2.2
  · simp [Value.cells] at hcs
    intro h
    rw [h] at hcs
    cases hcs.1
end
end Go.Proofs.YtooiooledeblmaaGreat.Open
namespace Go.Proofs.YtooiooledeblmaaGreat.Dcd
open Go.RowKit Go.Proofs.YtooiooledeblmaaGreat.Win Go.Proofs.YtooiooledeblmaaGreat.Stp Go.Proofs.YtooiooledeblmaaGreat.Out Go.Proofs.YtooiooledeblmaaGreat.Lst Go.Proofs.YtooiooledeblmaaGreatW.PrintWords
theorem lst_arg {w : World} {k : IntKind} {A : Option Addr} {n : Nat} {l : List Int} (h : (Kd.int k).C w A n l) : Lst w k A l := fun j hj => by
  obtain ⟨h1, h2, h3⟩ := h
  obtain ⟨ad, rfl, hc⟩ := h3 (by omega)
  obtain ⟨c, hl, hK, hcell⟩ := hc j _ (List.getElem?_eq_getElem hj)
  refine ⟨ad, rfl, ?_⟩
  have hs : (Kd.int k).sz = 1 := rfl
  rw [hs] at hcell
  have hc1 : c = [.int k l[j]] := hK
  subst hc1
  have := hcell 0 _ rfl
  rw [Nat.mul_one, Nat.add_zero] at this
  rw [this, List.getD_eq_getElem?_getD, List.getElem?_eq_getElem hj]
  rfl
theorem u32_pos {l : List Int} (hg : ∀ x ∈ l, (Lit.int .u32 x).wf = true) : ∀ x ∈ l, 0 ≤ x := by
  intro x hx
  have := hg x hx
  simp [Lit.wf, IntKind.min, IntKind.max, IntKind.signed, IntKind.bits] at this
  omega
theorem topKept_row (A : Option Addr) (c : Nat) (l : List Int) (w : World) (hr : (Kd.int .u32).C w A l.length l) (hc : l.length ≤ c) (hm : l.length ≤ maxLen) (hg : ∀ x ∈ l, (Lit.int .u32 x).wf = true) (hn : A = none → c = 0) :
    Calls Tryz.prog 5 #[.slice A l.length c] w fun e w' => e = .returned (.bool true) ∧ Below w.heap.size w w' :=
  kept_law (lst_arg hr) (u32_pos hg) hc hn hm
end Go.Proofs.YtooiooledeblmaaGreat.Dcd
end
section
namespace Go.Proofs.YtooiooledeblmaaGreat.Open
open Go.ChangeShapes Go.WideShapes Go.RowKit Go.Proofs.YtooiooledeblmaaGreatW.PrintWords Go.Proofs.YtooiooledeblmaaGreat.Lst
set_option linter.unusedVariables false
/-- A row of numbers: a slice that is read; a nil one has no room. -/
def RowK (w : World) (l : List Int) (cs : List Value) : Prop := ∃ A c, cs = [.slice A l.length c] ∧ l.length ≤ c ∧ (A = none → c = 0) ∧ Lst w .u32 A l ∧ (∀ x ∈ l, 0 ≤ x)
def rowN : Kd (List Int) where
  sz := 1
  E := []
  K := RowK
  M := fun _ _ _ _ _ => False
  K_len := by rintro w l cs ⟨A, c, rfl, _⟩; rfl
  K_one := by
    rintro w l cs ⟨A, c, rfl, _⟩ u hu
    rw [List.mem_singleton] at hu
    subst hu
    rfl
  K_below := by
    rintro w w1 l cs hb ⟨A, c, rfl, h1, h2, h3, h4⟩
    exact ⟨A, c, rfl, h1, h2, h3.below hb, h4⟩
  K_of_M := fun h => h.elim
  M_mono := fun _ h => h
  M_bound := fun h => h.elim
  M_move := fun _ h => h
  M_lower := fun _ h => h
section
variable {H : Type} {enc : TypeId × Value → H} {P : Program} {W : World} {base : Nat} {spare : Nat → Bool} {held : Bool}
theorem opens_rowN {t e : TypeId} (ht : P.underlying t = some (.slice e)) (he : P.underlying e = some (.int .u32)) (hc : P.cellsOf e = 1) : Opens enc P W base spare held rowN t (fun _ => True) := by
  intro fuel cs x _ h
  have h' := h
  obtain ⟨A, c, l, rfl, h1, h2, h3, h4⟩ := opens_row (d := Kd.int .u32) ht hc (opens_int he) h'
  refine ⟨l, ⟨A, c, rfl, h1, ?_, Dcd.lst_arg h3, Dcd.u32_pos h4⟩, trivial⟩
  rcases Deep.open_slice ht h with ⟨hcs, _⟩ | ⟨x, l', c', m, n, D, Pl, hcs, _⟩
  · simp at hcs
    exact fun _ => hcs.2.2
  · simp at hcs
    intro h
    rw [h] at hcs
    cases hcs.1
end
end Go.Proofs.YtooiooledeblmaaGreat.Open
namespace Go.Proofs.YtooiooledeblmaaGreat.Dcd
open Go.RowKit Go.Proofs.YtooiooledeblmaaGreat.Win Go.Proofs.YtooiooledeblmaaGreat.Stp Go.Proofs.YtooiooledeblmaaGreat.Out Go.Proofs.YtooiooledeblmaaGreat.Lst Go.Proofs.YtooiooledeblmaaGreatW.PrintWords
set_option linter.unusedVariables false
/-- The rows at a slice. -/
def RowsAt (w : World) (A : Option Addr) (ls : List (List Int)) : Prop := ∀ j, j < ls.length → ∃ (a : Addr) (B : Option Addr) (c : Nat), A = some a ∧ w.cell? (a.add j) = some (.slice B (ls.getD j []).length c) ∧ (ls.getD j []).length ≤ c ∧ (B = none → c = 0) ∧ Lst w .u32 B (ls.getD j []) ∧ ∀ x ∈ ls.getD j [], 0 ≤ x
theorem rows_arg {w : World} {A : Option Addr} {n : Nat} {ls : List (List Int)} (h : Open.rowN.C w A n ls) : RowsAt w A ls := fun j hj => by
  obtain ⟨h1, h2, h3⟩ := h
  obtain ⟨ad, rfl, hc⟩ := h3 (by omega)
  obtain ⟨cs, hl, hK, hcell⟩ := hc j _ (List.getElem?_eq_getElem hj)
  obtain ⟨B, c, rfl, q1, q2, q3, q4⟩ := hK
  have hg : ls.getD j [] = ls[j] := by rw [List.getD_eq_getElem?_getD, List.getElem?_eq_getElem hj]; rfl
  have hs : Open.rowN.sz = 1 := rfl
  rw [hs] at hcell
  have := hcell 0 _ rfl
  rw [Nat.mul_one, Nat.add_zero] at this
  rw [hg]
  exact ⟨ad, B, c, rfl, this, q1, q2, q3, q4⟩
theorem RowsAt.below {w w1 : World} {A : Option Addr} {ls : List (List Int)} (h : RowsAt w A ls) (hb : Below w.heap.size w w1) : RowsAt w1 A ls := fun j hj => by
  obtain ⟨a, B, c, q1, q2, q3, q4, q5, q6⟩ := h j hj
  exact ⟨a, B, c, q1, (hb.cell (p := a.add j) (World.block_lt_of_cell? w _ q2)).trans q2, q3, q4, q5.below hb, q6⟩
end Go.Proofs.YtooiooledeblmaaGreat.Dcd
end
section
namespace Go.Proofs.YtooiooledeblmaaGreat.Dcd
open Go.RowKit Go.Proofs.YtooiooledeblmaaGreat.Win Go.Proofs.YtooiooledeblmaaGreat.Stp Go.Proofs.YtooiooledeblmaaGreat.Out Go.Proofs.YtooiooledeblmaaGreat.Lst
set_option linter.unusedVariables false
set_option linter.unusedSimpArgs false
theorem less_str {xs ys : List Int} (hx : ∀ x ∈ xs, 0 ≤ x ∧ x ≤ 255) (hy : ∀ y ∈ ys, 0 ≤ y ∧ y ≤ 255) : Op.bytesLess (strOfNums xs).toList (strOfNums ys).toList = decide (ord xs ys < 0) := by
  rw [Lib.toList_data, Lib.toList_data]
  exact less_ord xs ys hx hy
theorem same_str {xs ys : List Int} (hx : ∀ x ∈ xs, 0 ≤ x ∧ x ≤ 255) (hy : ∀ y ∈ ys, 0 ≤ y ∧ y ≤ 255) : ((strOfNums xs).toList == (strOfNums ys).toList) = decide (ord xs ys = 0) := by
  rw [Bool.eq_iff_iff]
  simp only [beq_iff_eq, decide_eq_true_eq]
  constructor
  · intro h
    have h1 := less_str hx hy
    have h2 := less_str hy hx
    have h3 := less_str hx hx
    rw [← h, h3] at h1
    rw [← h, h3, ord_turn xs ys] at h2
    rw [(ord_zero xs xs).2 rfl] at h1 h2
    rcases ord_vals xs ys with h4 | h4 | h4
    · rw [h4] at h1; cases h1
    · exact h4
    · rw [h4] at h2; cases h2
  · intro h
    rw [(ord_zero xs ys).1 h]
/-- Some scalars, and not many. -/
def Few (ls : List (List Int)) (k most : Nat) : Prop := ∀ j, j < k → (ls.getD j []).length ≤ most ∧ Scal (ls.getD j [])
theorem Few.succ {ls : List (List Int)} {k most : Nat} (h : Few ls k most) (h1 : (ls.getD k []).length ≤ most) (h2 : Scal (ls.getD k [])) : Few ls (k + 1) most := fun j hj => by
  by_cases h3 : j = k
  · subst h3; exact ⟨h1, h2⟩
  · exact h j (by omega)
def codes : List Int := [1, 4, 8]
theorem codes_ok {k : Nat} (hk : k < 3) : codes.getD k 0 = 1 ∨ codes.getD k 0 = 4 ∨ codes.getD k 0 = 8 := by
  match k, hk with
  | 0, _ => exact .inl rfl
  | 1, _ => exact .inr (.inl rfl)
  | 2, _ => exact .inr (.inr rfl)
set_option maxRecDepth 100000 in
set_option maxHeartbeats 16000000 in
theorem order_law {w : World} {A : Option Addr} {c : Nat} {ls : List (List Int)} (h : RowsAt w A ls) (hm : ls.length ≤ maxLen) :
    Calls Tryz.prog 3 #[.slice A ls.length c] w (LawPost w) := by
  unfold maxLen at hm
  have H := Lib.hid h
  clear h
  go_enter Tryz.func3, Tryz.ntmps3
  go_wp2_with fail
  refine (live_calls _).mono ?_
  rintro e w1 ⟨rfl, hb1⟩
  have HB1 := Lib.hid hb1
  clear hb1
  by_cases hlen : 12 < ls.length
  · go_wp2_with fail
    refine (live_calls _).mono ?_
    rintro e w3 ⟨rfl, hb3⟩
    have HB3 := Lib.hid (HB1.out.trans (Below.mono hb3 HB1.out.size))
    clear hb3
    go_wp2_with fail
    go_ret
    exact ⟨rfl, HB3.out⟩
  · go_wp2_with fail
    go_loopw [26] (fun v wr => ∃ k : Nat, k ≤ ls.length ∧ v = .int .i64 k ∧ Few ls k 40 ∧ Below w.heap.size w wr) (fun v _ => ls.length - (intOf v).toNat)
    case atStart => exact ⟨0, Nat.zero_le _, rfl, fun j hj => absurd hj (Nat.not_lt_zero _), HB1.out⟩
    case round =>
      obtain ⟨k, hk, rfl, hf, hbw⟩ := hrel
      have HF := Lib.hid hf
      have HBw := Lib.hid hbw
      clear hf
      by_cases hlt : k < ls.length
      · obtain ⟨a, B, cb, rfl, q1, q2, q3, q4, q5⟩ := (H.out.below hbw) k hlt
        obtain ⟨l, hl⟩ : ∃ l, l = ls.getD k [] := ⟨_, rfl⟩
        rw [← hl] at q1 q2 q4 q5
        have HL := Lib.hid hl
        have HSm := Lib.hid (small_any (c := cb) (most := 40) (by decide) q4 q5)
        clear hbw hl q2 q3 q4 q5
        go_wp2_with fail
        refine HSm.out.mono ?_
        rintro e w2 ⟨⟨b, rfl, hb⟩, hb2⟩
        have HB2 := Lib.hid (HBw.out.trans (Below.mono hb2 HBw.out.size))
        cases b with
        | false =>
          clear hb hb2
          go_wp2_with fail
          go_ret
          exact ⟨rfl, HB2.out⟩
        | true =>
          obtain ⟨h1, h2⟩ := hb rfl
          have HF2 := Lib.hid (HF.out.succ (by rw [← HL.out]; omega) (by rw [← HL.out]; exact h2))
          clear hb hb2 h1 h2
          go_wp2_with fail
          go_roundw
          case rel => exact ⟨k + 1, hlt, by go_num, HF2.out, HB2.out⟩
          case measure => simp [intOf]; omega
      · obtain rfl : k = ls.length := by omega
        clear hlt
        have hb9 : Below w.heap.size w (wr.alloc (.cells #[.int .i64 1, .int .i64 4, .int .i64 8] 3)) := hbw.alloc hbw.size _
        have hc9 := heap_alloc_new wr (.cells #[.int .i64 1, .int .i64 4, .int .i64 8] 3)
        have HR9 := Lib.hid (H.out.below hb9)
        have HB9 := Lib.hid hb9
        have HC9 := Lib.hid hc9
        clear hb9 hc9 hbw
        go_upto_block 2 with fail
        obtain ⟨r, hr⟩ : ∃ r, r = wr.heap.size := ⟨_, rfl⟩
        rw [← hr] at HC9
        rw [← hr]
        clear hr
        generalize wr.alloc (.cells #[.int .i64 1, .int .i64 4, .int .i64 8] 3) = w9 at HR9 HB9 HC9 ⊢
        clear HBw
        go_wp2_with fail
        go_loopw [36] (fun v wr => ∃ k : Nat, k ≤ 3 ∧ v = .int .i64 k ∧ Below w9.heap.size w9 wr) (fun v _ => 3 - (intOf v).toNat)
        case atStart => exact ⟨0, by decide, rfl, Below.refl _ _⟩
        case round =>
          obtain ⟨k, hk, rfl, hbw⟩ := hrel
          have HBw := Lib.hid hbw
          by_cases hlt : k < 3
          · have hck := codes_ok hlt
            have hcell : wr.cell? ⟨r, k, none⟩ = some (.int .i64 (codes.getD k 0)) := by
              rw [cell_of ((hbw.block r (Array.getElem?_eq_some_iff.1 HC9.out).1).trans HC9.out)]
              match k, hlt with
              | 0, _ => rfl
              | 1, _ => rfl
              | 2, _ => rfl
            obtain ⟨cd, hcd⟩ : ∃ cd, cd = codes.getD k 0 := ⟨_, rfl⟩
            rw [← hcd] at hcell hck
            have hOK : EncOK cd (encS cd) := encOK_all (by omega)
            have HOK := Lib.hid hOK
            have HCK := Lib.hid hck
            have hkd : decide ((k : Int) < 3) = true := by simp; omega
            clear hbw hcd hOK hck
            go_wp2_with fail
            go_loopw [42] (fun v wr => ∃ i : Nat, i ≤ ls.length ∧ v = .int .i64 i ∧ Below w9.heap.size w9 wr) (fun v _ => ls.length - (intOf v).toNat)
            case atStart => exact ⟨0, Nat.zero_le _, rfl, HBw.out⟩
            case round =>
              obtain ⟨i, hi, rfl, hbw⟩ := hrel
              have HBi := Lib.hid hbw
              by_cases hlti : i < ls.length
              · obtain ⟨a, B, cb, rfl, q1, q2, q3, q4, q5⟩ := (HR9.out.below hbw) i hlti
                have hfi := HF.out i hlti
                obtain ⟨l, hl⟩ : ∃ l, l = ls.getD i [] := ⟨_, rfl⟩
                rw [← hl] at q1 q2 q4 q5 hfi
                have HFi := Lib.hid hfi
                have HEn := Lib.hid (lenc_calls HOK.out q4 hfi.2 (by omega) q3)
                obtain ⟨S, hS⟩ : ∃ S, S = strOfNums (encS cd l) := ⟨_, rfl⟩
                have hen := HEn.out
                unfold EncLPost at hen
                rw [← hS] at hen
                have HE1 := Lib.hid hen
                have HS1 := Lib.hid hS
                have hQ1 : ∀ wx, Below w9.heap.size w9 wx → Lst wx .u32 B l := by
                  intro wx hx
                  obtain ⟨a', B', cb', e1, e2, _, _, e4, _⟩ := (HR9.out.below hx) i hlti
                  injection e1 with e1
                  subst e1
                  rw [← hl] at e2 e4
                  obtain ⟨a2, B2, cb2, f1, f2, _, _, f4, _⟩ := HR9.out i hlti
                  injection f1 with f1
                  subst f1
                  rw [← hl] at f2 f4
                  have g1 := (hbw.cell (p := a.add i) (World.block_lt_of_cell? _ _ f2)).trans f2
                  rw [q1] at g1
                  injection g1 with g1
                  injection g1 with g1 _ _
                  subst g1
                  exact f4.below hx
                have HQ1 := Lib.hid hQ1
                clear hbw hl hS hen HEn q2 q3 q4 q5 hfi hQ1
                go_wp2_with fail
                refine HE1.out.mono ?_
                rintro e w10 ⟨rfl, hb10⟩
                have HB10 := Lib.hid (HBi.out.trans (Below.mono hb10 HBi.out.size))
                clear hb10 q1
                go_wp2_with fail
                go_loopw [54] (fun v wr => ∃ j : Nat, j ≤ ls.length ∧ v = .int .i64 j ∧ Below w9.heap.size w9 wr) (fun v _ => ls.length - (intOf v).toNat)
                case atStart => exact ⟨0, Nat.zero_le _, rfl, HB10.out⟩
                case round =>
                  obtain ⟨j, hj, rfl, hbw⟩ := hrel
                  have HBj := Lib.hid hbw
                  by_cases hltj : j < ls.length
                  · obtain ⟨a', B', cb', e1, q1, q2, q3, q4, q5⟩ := (HR9.out.below hbw) j hltj
                    injection e1 with e1
                    subst e1
                    have hfj := HF.out j hltj
                    obtain ⟨m, hm'⟩ : ∃ m, m = ls.getD j [] := ⟨_, rfl⟩
                    rw [← hm'] at q1 q2 q4 q5 hfj
                    have HFj := Lib.hid hfj
                    have hen := lenc_calls HOK.out q4 hfj.2 (by omega) q3
                    obtain ⟨T, hT⟩ : ∃ T, T = strOfNums (encS cd m) := ⟨_, rfl⟩
                    unfold EncLPost at hen
                    rw [← hT] at hen
                    have HE2 := Lib.hid hen
                    have HS2 := Lib.hid hT
                    have HQ2 := Lib.hid q4
                    clear hbw hm' hT hen q2 q3 q4 q5 hfj
                    go_wp2_with fail
                    refine HE2.out.mono ?_
                    rintro e w11 ⟨rfl, hb11⟩
                    have hB11 := HBj.out.trans (Below.mono hb11 HBj.out.size)
                    have hor := order_calls (c := cb) (d := cb') (HQ1.out _ hB11) (HQ2.out.below hb11) (by have := HFi.out.1; omega) (by have := HFj.out.1; omega)
                    obtain ⟨x, hx⟩ : ∃ x, x = ord l m := ⟨_, rfl⟩
                    have hrg1 := enc_rg HCK.out HFi.out.2
                    have hrg2 := enc_rg HCK.out HFj.out.2
                    have hl1 : Op.bytesLess S.toList T.toList = decide (x < 0) := by
                      rw [HS1.out, HS2.out, less_str hrg1 hrg2, enc_ord HCK.out HFi.out.2 HFj.out.2, hx]
                    have hl2 : (S.toList == T.toList) = decide (x = 0) := by
                      rw [HS1.out, HS2.out, same_str hrg1 hrg2, enc_ord HCK.out HFi.out.2 HFj.out.2, hx]
                    have hx3 := ord_vals l m
                    rw [← hx] at hx3
                    rw [← hx] at hor
                    have HOr := Lib.hid hor
                    have HB11 := Lib.hid hB11
                    clear hb11 hB11 hx hor hrg1 hrg2 q1
                    rcases hx3 with rfl | rfl | rfl
                    · replace hl1 : Op.bytesLess S.toList T.toList = true := hl1
                      replace hl2 : (S.toList == T.toList) = false := hl2
                      go_wp2_with fail
                      refine HOr.out.mono ?_
                      rintro e w12 ⟨rfl, hd⟩
                      have HB12 := Lib.hid (HB11.out.trans (hd.below _))
                      clear hd
                      go_wp2_with fail
                      go_roundw
                      case rel => exact ⟨j + 1, hltj, by go_num, HB12.out⟩
                      case measure => simp [intOf]; omega
                    · replace hl1 : Op.bytesLess S.toList T.toList = false := hl1
                      replace hl2 : (S.toList == T.toList) = true := hl2
                      go_wp2_with fail
                      refine HOr.out.mono ?_
                      rintro e w12 ⟨rfl, hd⟩
                      have HB12 := Lib.hid (HB11.out.trans (hd.below _))
                      clear hd
                      go_wp2_with fail
                      go_roundw
                      case rel => exact ⟨j + 1, hltj, by go_num, HB12.out⟩
                      case measure => simp [intOf]; omega
                    · replace hl1 : Op.bytesLess S.toList T.toList = false := hl1
                      replace hl2 : (S.toList == T.toList) = false := hl2
                      go_wp2_with fail
                      refine HOr.out.mono ?_
                      rintro e w12 ⟨rfl, hd⟩
                      have HB12 := Lib.hid (HB11.out.trans (hd.below _))
                      clear hd
                      go_wp2_with fail
                      go_roundw
                      case rel => exact ⟨j + 1, hltj, by go_num, HB12.out⟩
                      case measure => simp [intOf]; omega
                  · obtain rfl : j = ls.length := by omega
                    clear hbw
                    go_wp2_with fail
                    go_roundw
                    case rel => exact ⟨i + 1, hlti, by go_num, HBj.out⟩
                    case measure => simp [intOf]; omega
              · obtain rfl : i = ls.length := by omega
                clear hbw
                go_wp2_with fail
                go_roundw
                case rel => exact ⟨k + 1, hlt, by go_num, HBi.out⟩
                case measure => simp [intOf]; omega
          · obtain rfl : k = 3 := by omega
            go_wp2_with fail
            go_ret
            exact ⟨rfl, HB9.out.trans (Below.mono HBw.out HB9.out.size)⟩
theorem topOrder_row (A : Option Addr) (c : Nat) (ls : List (List Int)) (w : World) (hr : Open.rowN.C w A ls.length ls) (hc : ls.length ≤ c) (hm : ls.length ≤ maxLen) (hg : ∀ x ∈ ls, True) :
    Calls Tryz.prog 3 #[.slice A ls.length c] w fun e w' => e = .returned (.bool true) ∧ Below w.heap.size w w' :=
  order_law (rows_arg hr) hm
end Go.Proofs.YtooiooledeblmaaGreat.Dcd
end
