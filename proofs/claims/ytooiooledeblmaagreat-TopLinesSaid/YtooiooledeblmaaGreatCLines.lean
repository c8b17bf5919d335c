/- BOCU-1: the bytes that stand for nothing but themselves; plain. TopKept: the walk. Arguments, as the rows hand them over; a nil slice has no room. Rows of rows of numbers, as an argument. TopLines: the walk. -/
import Derived.Test.YtooiooledeblmaaGreatM8
section
namespace Go.Proofs.YtooiooledeblmaaGreat.Dcd
open Go.RowKit Go.Proofs.YtooiooledeblmaaGreat.Win Go.Proofs.YtooiooledeblmaaGreat.Stp Go.Proofs.YtooiooledeblmaaGreat.Out Go.Proofs.YtooiooledeblmaaGreat.Lst
set_option linter.unusedVariables false
set_option linter.unusedSimpArgs false
theorem byteC_nk (v : Int) (h0 : 0 ≤ v) (h1 : v < 243) : isK (byteC v) = false := by
  have h : ∀ n : Fin 243, isK (byteC (n.val : Int)) = false := by decide +kernel
  have := h ⟨v.toNat, by omega⟩
  rw [show ((v.toNat : Nat) : Int) = v from Int.toNat_of_nonneg h0] at this
  exact this
theorem digs_nk (L : Int) : ∀ j, ∀ x ∈ digs L j, isK x = false
  | 0 => fun x hx => by cases hx
  | j + 1 => fun x hx => by
    unfold digs at hx
    rcases List.mem_cons.1 hx with rfl | hx
    · exact byteC_nk _ (Int.emod_nonneg _ (by decide)) (Int.emod_lt_of_pos _ (by decide))
    · exact digs_nk L j x hx
theorem isK_big {x : Int} (h : 32 < x) : isK x = false := by unfold isK; simp; omega
theorem isK_le {x : Int} (h : isK x = true) : x ≤ 32 := by unfold isK at h; simp at h; exact h.1
theorem packC_nk {d : Int} (h0 : -1114111 ≤ d) (h1 : d ≤ 1114111) : ∀ x ∈ packC d, isK x = false := by
  intro x hx
  unfold packC at hx
  have h := place_rng h0 h1
  rcases List.mem_cons.1 hx with rfl | hx
  · exact isK_big (by omega)
  · exact digs_nk _ _ x hx
theorem bocuB_nk {r c : Int} (hI : bocuI r) (h0 : 0 ≤ c) (hb : isB c = true) (h : ¬ c ≤ 32) : ∀ x ∈ bocuB r c, isK x = false := by
  have hb := (isB_iff.1 hb).1
  obtain ⟨i1, i2⟩ := hI
  unfold bocuB
  rw [if_neg h]
  exact packC_nk (by omega) (by omega)
theorem kept_split {k : Int} (hk : isK k = true) : ∀ (l : List Int) (r : Int) (X Y : List Int), bocuI r → Scal l → told bocuB bocuN r l = X ++ k :: Y → (∀ x ∈ X, isK x = false) →
    ∃ A B, l = A ++ k :: B ∧ told bocuB bocuN r A = X ∧ ∀ x ∈ A, isK x = false
  | [], r, X, Y, _, _, h, _ => by
    simp only [told] at h
    cases X <;> cases h
  | c :: cs, r, X, Y, hI, hs, h, hX => by
    have hc := hs c List.mem_cons_self
    have hs' : Scal cs := fun x hx => hs x (List.mem_cons_of_mem _ hx)
    have hI' := bocuN_inv r c hI hc.1 hc.2
    simp only [told] at h
    by_cases h32 : c ≤ 32
    · have hB : bocuB r c = [c] := by unfold bocuB; rw [if_pos h32]
      rw [hB] at h
      cases X with
      | nil =>
        injection h with h1 h2
        exact ⟨[], cs, by rw [h1]; rfl, rfl, fun x hx => by cases hx⟩
      | cons x X =>
        injection h with h1 h2
        subst h1
        obtain ⟨A, B, q1, q2, q3⟩ := kept_split hk cs _ X Y hI' hs' h2 (fun y hy => hX y (List.mem_cons_of_mem _ hy))
        refine ⟨c :: A, B, by rw [q1]; rfl, ?_, fun y hy => ?_⟩
        · simp only [told]
          rw [hB, q2]
          rfl
        · rcases List.mem_cons.1 hy with rfl | hy
          · exact hX y List.mem_cons_self
          · exact q3 y hy
    · have hnk := bocuB_nk hI hc.1 hc.2 h32
      rcases List.append_eq_append_iff.1 h with ⟨Z, h1, h2⟩ | ⟨Z, h1, h2⟩
      · obtain ⟨A, B, q1, q2, q3⟩ := kept_split hk cs _ Z Y hI' hs' h2 (fun y hy => hX y (by rw [h1]; exact List.mem_append_right _ hy))
        refine ⟨c :: A, B, by rw [q1]; rfl, ?_, fun y hy => ?_⟩
        · simp only [told]
          rw [q2, h1]
        · rcases List.mem_cons.1 hy with rfl | hy
          · exact isK_big (by omega)
          · exact q3 y hy
      · cases Z with
        | nil =>
          rw [List.append_nil] at h1
          rw [List.nil_append] at h2
          obtain ⟨A, B, q1, q2, q3⟩ := kept_split hk cs _ [] Y hI' hs' h2.symm (fun y hy => by cases hy)
          refine ⟨c :: A, B, by rw [q1]; rfl, ?_, fun y hy => ?_⟩
          · simp only [told]
            rw [q2, h1, List.append_nil]
          · rcases List.mem_cons.1 hy with rfl | hy
            · exact isK_big (by omega)
            · exact q3 y hy
        | cons z Z =>
          injection h2 with h3 h4
          have := hnk k (by rw [h1, h3]; exact List.mem_append_right _ List.mem_cons_self)
          rw [hk] at this
          cases this
theorem kept_none : ∀ (l : List Int) (r : Int), bocuI r → Scal l → (∀ x ∈ told bocuB bocuN r l, isK x = false) → ∀ x ∈ l, isK x = false
  | [], _, _, _, _ => fun x hx => by cases hx
  | c :: cs, r, hI, hs, h => fun x hx => by
    have hc := hs c List.mem_cons_self
    have hs' : Scal cs := fun x hx => hs x (List.mem_cons_of_mem _ hx)
    have hI' := bocuN_inv r c hI hc.1 hc.2
    simp only [told] at h
    rcases List.mem_cons.1 hx with rfl | hx
    · by_cases h32 : x ≤ 32
      · exact h x (List.mem_append_left _ (by unfold bocuB; rw [if_pos h32]; exact List.mem_singleton.2 rfl))
      · exact isK_big (by omega)
    · exact kept_none cs _ hI' hs' (fun y hy => h y (List.mem_append_right _ hy)) x hx
theorem told_app {R : Type} (B : R → Int → List Int) (N : R → Int → R) : ∀ (xs ys : List Int) (r : R), told B N r (xs ++ ys) = told B N r xs ++ told B N (foldN N r xs) ys
  | [], ys, r => rfl
  | x :: xs, ys, r => by
    simp only [told, foldN, List.cons_append]
    rw [told_app B N xs ys, List.append_assoc]
theorem i64B : bocuI 64 := ⟨by decide, by decide⟩
/-- How far the law has come: the scalars below at have given the bytes below some j, and from there to i none is kept. -/
def KInv (l : List Int) (i at_ : Nat) : Prop := at_ ≤ l.length ∧ i ≤ (told bocuB bocuN 64 l).length ∧ ∃ j, j ≤ i ∧ told bocuB bocuN 64 (l.take at_) = (told bocuB bocuN 64 l).take j ∧ ∀ x ∈ ((told bocuB bocuN 64 l).drop j).take (i - j), isK x = false
theorem KInv.zero (l : List Int) : KInv l 0 0 := ⟨Nat.zero_le _, Nat.zero_le _, 0, Nat.le_refl _, by simp [told], fun x hx => by simp at hx⟩
theorem KInv.skip {l : List Int} {i at_ : Nat} (h : KInv l i at_) (hi : i < (told bocuB bocuN 64 l).length) (hk : isK ((told bocuB bocuN 64 l).getD i 0) = false) : KInv l (i + 1) at_ := by
  obtain ⟨h1, h2, j, h3, h4, h5⟩ := h
  refine ⟨h1, hi, j, by omega, h4, fun x hx => ?_⟩
  have : i + 1 - j = (i - j) + 1 := by omega
  rw [this, List.take_succ_eq_append_getElem (by rw [List.length_drop]; omega)] at hx
  rcases List.mem_append.1 hx with hx | hx
  · exact h5 x hx
  · rw [List.mem_singleton] at hx
    rw [hx, List.getElem_drop]
    rw [List.getD_eq_getElem?_getD, List.getElem?_eq_getElem hi] at hk
    simp only [show j + (i - j) = i by omega]
    exact hk
theorem getD_mid {A B : List Int} {k : Int} : (A ++ k :: B).getD A.length 0 = k := by
  rw [List.getD_eq_getElem?_getD, List.getElem?_append_right (Nat.le_refl _)]
  simp
theorem getD_left {A B : List Int} {m : Nat} (h : m < A.length) : (A ++ B).getD m 0 ∈ A := by
  rw [List.getD_eq_getElem?_getD, List.getElem?_append_left h, List.getElem?_eq_getElem h]
  exact List.getElem_mem _
theorem getD_drop' (l : List Int) (a m : Nat) : (l.drop a).getD m 0 = l.getD (a + m) 0 := by
  rw [List.getD_eq_getElem?_getD, List.getD_eq_getElem?_getD, List.getElem?_drop]
theorem KInv.kept {l : List Int} {i at_ : Nat} (h : KInv l i at_) (hs : Scal l) (hi : i < (told bocuB bocuN 64 l).length) (hk : isK ((told bocuB bocuN 64 l).getD i 0) = true) :
    ∃ n, at_ + n < l.length ∧ (∀ m, m < n → isK (l.getD (at_ + m) 0) = false) ∧ l.getD (at_ + n) 0 = (told bocuB bocuN 64 l).getD i 0 ∧ told bocuB bocuN 64 (l.take (at_ + n)) = (told bocuB bocuN 64 l).take i ∧ KInv l (i + 1) (at_ + n + 1) := by
  obtain ⟨h1, h2, j, h3, h4, h5⟩ := h
  obtain ⟨S, hS⟩ : ∃ S, S = told bocuB bocuN 64 l := ⟨_, rfl⟩
  have hsp : told bocuB bocuN 64 l = told bocuB bocuN 64 (l.take at_) ++ told bocuB bocuN (foldN bocuN 64 (l.take at_)) (l.drop at_) := by rw [← told_app, List.take_append_drop]
  have hI : bocuI (foldN bocuN 64 (l.take at_)) := fold_inv bocuN_inv (l.take at_) 64 i64B (fun x hx => hs x (List.mem_of_mem_take hx))
  rw [← hS] at hi hk h4 h5 hsp ⊢
  have htl : told bocuB bocuN (foldN bocuN 64 (l.take at_)) (l.drop at_) = S.drop j := by
    rw [h4] at hsp
    exact (List.append_cancel_left ((List.take_append_drop j S).trans hsp)).symm
  have hd : S.drop j = (S.drop j).take (i - j) ++ S.getD i 0 :: S.drop (i + 1) := by
    have e1 : (S.drop j).drop (i - j) = S.drop i := by rw [List.drop_drop]; congr 1; omega
    rw [← drop_cons hi, ← e1, List.take_append_drop]
  rw [hd] at htl
  obtain ⟨A, B, q1, q2, q3⟩ := kept_split hk (l.drop at_) _ _ _ hI (hs.drop at_) htl h5
  have hlen : at_ + A.length < l.length := by
    have := congrArg List.length q1
    rw [List.length_drop, List.length_append, List.length_cons] at this
    omega
  have hl : l = l.take at_ ++ (A ++ S.getD i 0 :: B) := by rw [← q1, List.take_append_drop]
  have hta : l.take (at_ + A.length) = l.take at_ ++ A := by
    rw [List.take_add, q1, List.take_left]
  have ht : told bocuB bocuN 64 (l.take (at_ + A.length)) = S.take i := by
    rw [hta, told_app, h4, q2]
    have : S.take i = S.take (j + (i - j)) := by congr 1; omega
    rw [this, List.take_add]
  have hg : l.getD (at_ + A.length) 0 = S.getD i 0 := by rw [← getD_drop', q1, getD_mid]
  refine ⟨A.length, hlen, fun m hm => ?_, hg, ht, by omega, by rw [← hS]; omega, i + 1, Nat.le_refl _, ?_, fun x hx => by simp at hx⟩
  · rw [← getD_drop', q1]
    exact q3 _ (getD_left hm)
  · rw [← hS, List.take_succ_eq_append_getElem hlen, told_app, ht, List.take_succ_eq_append_getElem hi]
    have e1 : l[at_ + A.length] = S[i] := by
      rw [List.getD_eq_getElem?_getD, List.getElem?_eq_getElem hlen, List.getD_eq_getElem?_getD, List.getElem?_eq_getElem hi] at hg
      exact hg
    have e2 : S.getD i 0 = S[i] := by rw [List.getD_eq_getElem?_getD, List.getElem?_eq_getElem hi]; rfl
    have e3 : S[i] ≤ 32 := by rw [← e2]; exact isK_le hk
    rw [e1]
    simp only [told, bocuB, if_pos e3]
    rfl
theorem KInv.done {l : List Int} {at_ : Nat} (h : KInv l (told bocuB bocuN 64 l).length at_) (hs : Scal l) : ∀ m, at_ ≤ m → m < l.length → isK (l.getD m 0) = false := by
  obtain ⟨h1, h2, j, h3, h4, h5⟩ := h
  have hsp : told bocuB bocuN 64 l = told bocuB bocuN 64 (l.take at_) ++ told bocuB bocuN (foldN bocuN 64 (l.take at_)) (l.drop at_) := by rw [← told_app, List.take_append_drop]
  have hI : bocuI (foldN bocuN 64 (l.take at_)) := fold_inv bocuN_inv (l.take at_) 64 i64B (fun x hx => hs x (List.mem_of_mem_take hx))
  have htl : told bocuB bocuN (foldN bocuN 64 (l.take at_)) (l.drop at_) = (told bocuB bocuN 64 l).drop j := by
    rw [h4] at hsp
    exact (List.append_cancel_left ((List.take_append_drop j _).trans hsp)).symm
  rw [List.take_of_length_le (by rw [List.length_drop]; omega), ← htl] at h5
  intro m hm hl
  have := kept_none (l.drop at_) _ hI (hs.drop at_) h5 ((l.drop at_).getD (m - at_) 0) (by
    rw [List.getD_eq_getElem?_getD, List.getElem?_eq_getElem (by rw [List.length_drop]; omega)]
    exact List.getElem_mem _)
  rw [getD_drop', show at_ + (m - at_) = m by omega] at this
  exact this
end Go.Proofs.YtooiooledeblmaaGreat.Dcd
end
section
namespace Go.Proofs.YtooiooledeblmaaGreat.Dcd
open Go.RowKit Go.Proofs.YtooiooledeblmaaGreat.Win Go.Proofs.YtooiooledeblmaaGreat.Stp Go.Proofs.YtooiooledeblmaaGreat.Out Go.Proofs.YtooiooledeblmaaGreat.Lst Go.Proofs.YtooiooledeblmaaGreat.Dec
set_option linter.unusedVariables false
set_option linter.unusedSimpArgs false
theorem small_any {w : World} {A : Option Addr} {c : Nat} {l : List Int} {most : Int} (hm : most ≤ 1000000) (hL : Lst w .u32 A l) (h0 : ∀ x ∈ l, 0 ≤ x) : Calls Tryz.prog 9 #[.slice A l.length c, .int .i64 most] w (SmallPost w l most) := by
  by_cases hl : l.length ≤ 1000000
  · exact small_calls hL h0 hl
  · refine (small_great (A := A) (c := c) (w := w) (show most < (l.length : Int) by omega)).mono ?_
    rintro e w' ⟨rfl, rfl⟩
    exact ⟨⟨false, rfl, fun h => by cases h⟩, Below.refl _ _⟩
theorem byt_str {xs : List Int} (h : ∀ x ∈ xs, 0 ≤ x ∧ x ≤ 255) : byt (strOfNums xs) = xs := by
  unfold byt strOfNums
  simp only [List.map_map]
  conv => rhs; rw [← List.map_id xs]
  apply List.map_congr_left
  intro x hx
  have := h x hx
  simp
  omega
theorem digs_rg (L : Int) : ∀ j, ∀ x ∈ digs L j, 0 ≤ x ∧ x ≤ 255
  | 0 => fun x hx => by cases hx
  | j + 1 => fun x hx => by
    unfold digs at hx
    rcases List.mem_cons.1 hx with rfl | hx
    · have := byteC_rng (Int.emod_nonneg (L / 243 ^ j) (show (243 : Int) ≠ 0 by decide)) (Int.emod_lt_of_pos _ (by decide))
      omega
    · exact digs_rg L j x hx
theorem told_rg {R : Type} {B : R → Int → List Int} {N : R → Int → R} {I : R → Prop} (hB : ∀ r c, I r → 0 ≤ c → isB c = true → ∀ x ∈ B r c, 0 ≤ x ∧ x ≤ 255) (hN : ∀ r c, I r → 0 ≤ c → isB c = true → I (N r c)) : ∀ (l : List Int) (r : R), I r → Scal l → ∀ x ∈ told B N r l, 0 ≤ x ∧ x ≤ 255
  | [], _, _, _ => fun x hx => by cases hx
  | c :: cs, r, hI, hs => fun x hx => by
    have hc := hs c List.mem_cons_self
    simp only [told] at hx
    rcases List.mem_append.1 hx with hx | hx
    · exact hB r c hI hc.1 hc.2 x hx
    · exact told_rg hB hN cs _ (hN r c hI hc.1 hc.2) (fun y hy => hs y (List.mem_cons_of_mem _ hy)) x hx
theorem bocuB_rg (r c : Int) (hI : bocuI r) (h0 : 0 ≤ c) (hb : isB c = true) : ∀ x ∈ bocuB r c, 0 ≤ x ∧ x ≤ 255 := by
  have hb := (isB_iff.1 hb).1
  obtain ⟨i1, i2⟩ := hI
  unfold bocuB
  intro x hx
  split at hx
  · rw [List.mem_singleton] at hx; omega
  · have h := place_rng (show -1114111 ≤ c - r by omega) (show c - r ≤ 1114111 by omega)
    unfold packC at hx
    rcases List.mem_cons.1 hx with rfl | hx
    · omega
    · exact digs_rg _ _ x hx
def LawPost (w : World) (e : Ending) (w' : World) : Prop := e = .returned (.bool true) ∧ Below w.heap.size w w'
def KRel (w : World) (l : List Int) (v5 v6 : Value) (wr : World) : Prop := ∃ i a : Nat, v5 = .int .i64 a ∧ v6 = .int .i64 i ∧ KInv l i a ∧ Below w.heap.size w wr
set_option maxRecDepth 100000 in
set_option maxHeartbeats 16000000 in
theorem kept_law {w : World} {A : Option Addr} {c : Nat} {l : List Int} (h : Lst w .u32 A l) (h0 : ∀ x ∈ l, 0 ≤ x) (hcap : l.length ≤ c) (hnil : A = none → c = 0) (hm : l.length ≤ maxLen) :
    Calls Tryz.prog 5 #[.slice A l.length c] w (LawPost w) := by
  unfold maxLen at hm
  have H := Lib.hid h
  have H0 := Lib.hid h0
  have HN := Lib.hid hnil
  clear h h0 hnil
  go_enter Tryz.func5, Tryz.ntmps5
  go_wp2_with fail
  refine (live_calls _).mono ?_
  rintro e w1 ⟨rfl, hb1⟩
  have HB1 := Lib.hid hb1
  have HL1 := Lib.hid (H.out.below hb1)
  clear hb1
  go_wp2_with fail
  refine (small_any (by decide) HL1.out H0.out).mono ?_
  rintro e w2 ⟨⟨b, rfl, hb⟩, hb2⟩
  have HB2 := Lib.hid (HB1.out.trans (Below.mono hb2 HB1.out.size))
  cases b with
  | false =>
    clear hb hb2
    go_wp2_with fail
    refine (live_calls _).mono ?_
    rintro e w3 ⟨rfl, hb3⟩
    have HB3 := Lib.hid (HB2.out.trans (Below.mono hb3 HB2.out.size))
    clear hb3
    go_wp2_with fail
    go_ret
    exact ⟨rfl, HB3.out⟩
  | true =>
    obtain ⟨hlen, hs⟩ := hb rfl
    have HS := Lib.hid hs
    have HL2 := Lib.hid (HL1.out.below hb2)
    clear hb hb2 hs
    go_wp2_with fail
    refine (lenc_calls (c := 8) (encOK_all (.inr rfl)) HL2.out HS.out (by omega) HN.out).mono ?_
    rw [show encS 8 l = told bocuB bocuN 64 l from rfl]
    rintro e w3 ⟨rfl, hb3⟩
    obtain ⟨S, hS⟩ : ∃ S, S = told bocuB bocuN 64 l := ⟨_, rfl⟩
    have hrg : ∀ x ∈ S, 0 ≤ x ∧ x ≤ 255 := by rw [hS]; exact told_rg (I := bocuI) bocuB_rg bocuN_inv l 64 i64B HS.out
    have hSl : S.length ≤ 500 := by
      have := told_len bocuN bocuB_len l 64
      rw [hS]; omega
    rw [← hS]
    obtain ⟨T, hT⟩ : ∃ T, T = strOfNums S := ⟨_, rfl⟩
    have HT := Lib.hid hT
    have hTs : T.size = S.length := by rw [hT, str_size]
    have HTs := Lib.hid hTs
    have HAt := Lib.hid (show ∀ k, (hk : k < T.size) → (T[k].toNat : Int) = S.getD k 0 from fun k hk => by rw [← byt_at T k hk, hT, byt_str hrg])
    have HSe := Lib.hid hS
    have HB3 := Lib.hid (HB2.out.trans (Below.mono hb3 HB2.out.size))
    rw [← hT]
    have hTl : T.size ≤ 500 := by omega
    clear hrg hT hb3 hS hTs hSl
    go_wp2_with fail
    go_loopw [5, 6] (fun v5 v6 wr => KRel w l v5 v6 wr) (fun _ v6 _ => T.size - (intOf v6).toNat)
    case atStart => exact ⟨0, 0, rfl, rfl, KInv.zero l, HB3.out⟩
    case round =>
      obtain ⟨i, a, rfl, rfl, hki, hbw⟩ := hrel
      have HK := Lib.hid hki
      have HBw := Lib.hid hbw
      have hile : i ≤ T.size := by rw [HTs.out, HSe.out]; exact hki.2.1
      have hale := hki.1
      clear hki hbw
      by_cases hlt : i < T.size
      · obtain ⟨x, hx⟩ : ∃ x : Int, x = (T[i].toNat : Int) := ⟨_, rfl⟩
        have hxr : 0 ≤ x ∧ x ≤ 255 := by have := T[i].toNat_lt; omega
        have hxS : S.getD i 0 = x := by rw [hx]; exact (HAt.out i hlt).symm
        have HX := Lib.hid hx
        have HXS := Lib.hid hxS
        have hiS : i < (told bocuB bocuN 64 l).length := by rw [← HSe.out, ← HTs.out]; exact hlt
        have HKp := Lib.hid (kept_calls2 x wr)
        have hxw : (T[i].toNat : Int) = x := hx.symm
        clear hx hxS
        cases hkx : isK x with
        | false =>
          have HKn := Lib.hid (HK.out.skip hiS (by rw [← HSe.out, HXS.out]; exact hkx))
          rw [hkx] at HKp
          clear hiS hkx
          go_wp2_with fail
          refine HKp.out.mono ?_
          rintro e w4 ⟨rfl, hb4⟩
          have HB4 := Lib.hid (HBw.out.trans (Below.mono hb4 HBw.out.size))
          clear hb4
          go_wp2_with fail
          go_roundw
          case rel => exact ⟨i + 1, a, rfl, by go_num, HKn.out, HB4.out⟩
          case measure => simp [intOf]; omega
        | true =>
          obtain ⟨n, n1, n2, n3, n4, n5⟩ := HK.out.kept HS.out hiS (by rw [← HSe.out, HXS.out]; exact hkx)
          have HKn := Lib.hid n5
          have HNo := Lib.hid n2
          have HFr := Lib.hid n4
          have HLa := Lib.hid (show l.getD (a + n) 0 = x by rw [n3, ← HSe.out, HXS.out])
          have hx32 := isK_le hkx
          have HKx := Lib.hid hkx
          rw [hkx] at HKp
          clear hiS hkx n2 n3 n4 n5
          go_wp2_with fail
          refine HKp.out.mono ?_
          rintro e w4 ⟨rfl, hb4⟩
          have HB4 := Lib.hid (HBw.out.trans (Below.mono hb4 HBw.out.size))
          clear hb4
          go_wp2_with fail
          go_loopw [5] (fun v5 wr => ∃ m : Nat, m ≤ n ∧ v5 = .int .i64 ((a + m : Nat) : Int) ∧ Below w.heap.size w wr) (fun v5 _ => a + n - (intOf v5).toNat)
          case atStart => exact ⟨0, Nat.zero_le _, rfl, HB4.out⟩
          case round =>
            obtain ⟨m, hmn, rfl, hbw4⟩ := hrel
            have HB5 := Lib.hid hbw4
            obtain ⟨ad, rfl, q⟩ := (H.out.below hbw4) (a + m) (by omega)
            have hy0 := H0.out (l.getD (a + m) 0) (by rw [List.getD_eq_getElem?_getD, List.getElem?_eq_getElem (by omega)]; exact List.getElem_mem _)
            obtain ⟨y, hy⟩ : ∃ y, y = l.getD (a + m) 0 := ⟨_, rfl⟩
            rw [← hy] at q hy0
            have HY := Lib.hid hy
            have hyS : y ≤ 1114111 := by
              have := HS.out y (by rw [hy, List.getD_eq_getElem?_getD, List.getElem?_eq_getElem (by omega)]; exact List.getElem_mem _)
              exact (isB_iff.1 this.2).1
            have hlta : decide (((a + m : Nat) : Int) < (l.length : Int)) = true := by simp; omega
            clear hbw4 hy
            by_cases hlm : m < n
            · have hnk := HNo.out m hlm
              rw [← HY.out] at hnk
              by_cases hy32 : 32 < y
              · clear hnk
                go_wp2_with fail
                go_roundw
                case rel => exact ⟨m + 1, hlm, by go_num, HB5.out⟩
                case measure => simp [intOf]; omega
              · have hw8 : IntKind.u8.wrap y = y := by rw [IntKind.wrap_u8]; omega
                have hky := kept_calls2 y wr
                rw [hnk] at hky
                have HKy := Lib.hid hky
                clear hnk hky
                go_wp2_with fail
                refine HKy.out.mono ?_
                rintro e w6 ⟨rfl, hb6⟩
                have HB6 := Lib.hid (HB5.out.trans (Below.mono hb6 HB5.out.size))
                clear hb6
                go_wp2_with fail
                go_roundw
                case rel => exact ⟨m + 1, hlm, by go_num, HB6.out⟩
                case measure => simp [intOf]; omega
            · obtain rfl : m = n := by omega
              obtain rfl : y = x := by rw [HY.out, HLa.out]
              have hw8 : IntKind.u8.wrap y = y := by rw [IntKind.wrap_u8]; omega
              have hky := kept_calls2 y wr
              rw [HKx.out] at hky
              have HKy := Lib.hid hky
              clear hky hlm
              go_wp2_with fail
              refine HKy.out.mono ?_
              rintro e w6 ⟨rfl, hb6⟩
              have HB6 := Lib.hid (HB5.out.trans (Below.mono hb6 HB5.out.size))
              have q6 : w6.cell? (ad.add (a + m)) = some (.int .u32 y) := (hb6.cell (p := ad.add (a + m)) (World.block_lt_of_cell? _ _ q)).trans q
              clear hb6 q
              go_wp2_with fail
              have hw32 : IntKind.u32.wrap y = y := by rw [IntKind.wrap_u32]; omega
              have hlt' : (l.take (a + m)).length = a + m := by rw [List.length_take]; omega
              have hen := fun (wz : World) (hz : Below w.heap.size w wz) => lenc_calls (c := 8) (encOK_all (.inr rfl)) (w := wz) (A := some ad) (cap := c) (l := l.take (a + m)) ((H.out.below hz).take _) (HS.out.take _) (by omega) (fun h => nomatch h)
              rw [hlt', show encS 8 (l.take (a + m)) = told bocuB bocuN 64 (l.take (a + m)) from rfl, HFr.out, ← HSe.out] at hen
              have hext := str_extract S 0 i
              rw [List.drop_zero, Nat.sub_zero, ← HT.out] at hext
              obtain ⟨F, hF⟩ : ∃ F, F = strOfNums (S.take i) := ⟨_, rfl⟩
              rw [← hF] at hext
              unfold EncLPost at hen
              rw [← hF] at hen
              have HEn := Lib.hid hen
              have HExt := Lib.hid hext
              clear hen hlt' hF hext
              have htn : ((a : Int) + (m : Int)).toNat = a + m := by omega
              have ht0 : (0 : Int) ≤ (a : Int) + (m : Int) := by omega
              have ht1 : (a : Int) + (m : Int) < (l.length : Int) := by omega
              go_quiet (fail)
              go_wp2_with fail
              refine (HEn.out _ (below_drewN HB6.out _)).mono ?_
              rintro e w7 ⟨rfl, hb7⟩
              have HB7 := Lib.hid ((below_drewN HB6.out nq).trans (Below.mono hb7 (below_drewN HB6.out nq).size))
              have hext := HExt.out
              clear hb7
              go_wp2_with fail
              go_roundw
              case rel => exact ⟨i + 1, a + m + 1, by go_num, by go_num, HKn.out, HB7.out⟩
              case measure => simp [intOf]; omega
      · obtain rfl : i = T.size := by omega
        have HDone := Lib.hid (KInv.done (l := l) (at_ := a) (by rw [← HSe.out, ← HTs.out]; exact HK.out) HS.out)
        clear hlt hile
        go_wp2_with fail
        go_loopw [5] (fun v5 wr' => ∃ m : Nat, a ≤ m ∧ m ≤ l.length ∧ v5 = .int .i64 (m : Int) ∧ Below w.heap.size w wr') (fun v5 _ => l.length - (intOf v5).toNat)
        case atStart => exact ⟨a, Nat.le_refl _, hale, rfl, HBw.out⟩
        case round =>
          obtain ⟨m, ham, hml, rfl, hbw4⟩ := hrel
          have HB5 := Lib.hid hbw4
          by_cases hlm : m < l.length
          · obtain ⟨ad, rfl, q⟩ := (H.out.below hbw4) m hlm
            have hy0 := H0.out (l.getD m 0) (by rw [List.getD_eq_getElem?_getD, List.getElem?_eq_getElem hlm]; exact List.getElem_mem _)
            have hnk := HDone.out m ham hlm
            generalize l.getD m 0 = y at q hy0 hnk
            clear hbw4
            by_cases hy32 : y ≤ 32
            · have hw8 : IntKind.u8.wrap y = y := by rw [IntKind.wrap_u8]; omega
              have hky := kept_calls2 y wr
              rw [hnk] at hky
              have HKy := Lib.hid hky
              clear hnk hky
              go_wp2_with fail
              refine HKy.out.mono ?_
              rintro e w6 ⟨rfl, hb6⟩
              have HB6 := Lib.hid (HB5.out.trans (Below.mono hb6 HB5.out.size))
              clear hb6
              go_wp2_with fail
              go_roundw
              case rel => exact ⟨m + 1, by omega, by omega, by go_num, HB6.out⟩
              case measure => simp [intOf]; omega
            · clear hnk
              go_wp2_with fail
              go_roundw
              case rel => exact ⟨m + 1, by omega, by omega, by go_num, HB5.out⟩
              case measure => simp [intOf]; omega
          · obtain rfl : m = l.length := by omega
            go_wp2_with fail
            go_ret
            exact ⟨rfl, HB5.out⟩
end Go.Proofs.YtooiooledeblmaaGreat.Dcd
end
section
set_option linter.unusedVariables false
namespace Go.Proofs.YtooiooledeblmaaGreat.Open
open Go.ChangeShapes Go.WideShapes Go.RowKit Go.Proofs.YtooiooledeblmaaGreatW.PrintWords
section
variable {H : Type} {enc : TypeId × Value → H} {P : Program} {W : World} {base : Nat} {spare : Nat → Bool} {held : Bool}
theorem arg_nil {t e : TypeId} (ht : P.underlying t = some (.slice e)) {a : Option Addr} {len cap : Nat} {y : DataW H} {ps : List MemPlace} (h : DataW.Trod enc P W base spare held t (.slice a len cap) y ps) : a = none → cap = 0 := by
  obtain ⟨fuel, hf⟩ := h
  rcases Deep.open_slice ht hf with ⟨hcs, _⟩ | ⟨x, l, c, m, n, D, Pl, hcs, _⟩
  · simp [Value.cells] at hcs
    exact fun _ => hcs.2.2
  · simp [Value.cells] at hcs
    intro h
    rw [h] at hcs
    cases hcs.1
end
end Go.Proofs.YtooiooledeblmaaGreat.Open
namespace Go.Proofs.YtooiooledeblmaaGreat.Dcd
open Go.RowKit Go.Proofs.YtooiooledeblmaaGreat.Win Go.Proofs.YtooiooledeblmaaGreat.Stp Go.Proofs.YtooiooledeblmaaGreat.Out Go.Proofs.YtooiooledeblmaaGreat.Lst Go.Proofs.YtooiooledeblmaaGreatW.PrintWords
theorem lst_arg {w : World} {k : IntKind} {A : Option Addr} {n : Nat} {l : List Int} (h : (Kd.int k).C w A n l) : Lst w k A l := fun j hj => by
  obtain ⟨h1, h2, h3⟩ := h
  obtain ⟨ad, rfl, hc⟩ := h3 (by omega)
  obtain ⟨c, hl, hK, hcell⟩ := hc j _ (List.getElem?_eq_getElem hj)
  refine ⟨ad, rfl, ?_⟩
  have hs : (Kd.int k).sz = 1 := rfl
  rw [hs] at hcell
  have hc1 : c = [.int k l[j]] := hK
  subst hc1
  have := hcell 0 _ rfl
  rw [Nat.mul_one, Nat.add_zero] at this
  rw [this, List.getD_eq_getElem?_getD, List.getElem?_eq_getElem hj]
  rfl
theorem u32_pos {l : List Int} (hg : ∀ x ∈ l, (Lit.int .u32 x).wf = true) : ∀ x ∈ l, 0 ≤ x := by
  intro x hx
  have := hg x hx
  simp [Lit.wf, IntKind.min, IntKind.max, IntKind.signed, IntKind.bits] at this
  omega
theorem topKept_row (A : Option Addr) (c : Nat) (l : List Int) (w : World) (hr : (Kd.int .u32).C w A l.length l) (hc : l.length ≤ c) (hm : l.length ≤ maxLen) (hg : ∀ x ∈ l, (Lit.int .u32 x).wf = true) (hn : A = none → c = 0) :
    Calls Tryz.prog 5 #[.slice A l.length c] w fun e w' => e = .returned (.bool true) ∧ Below w.heap.size w w' :=
  kept_law (lst_arg hr) (u32_pos hg) hc hn hm
end Go.Proofs.YtooiooledeblmaaGreat.Dcd
end
section
namespace Go.Proofs.YtooiooledeblmaaGreat.Open
open Go.ChangeShapes Go.WideShapes Go.RowKit Go.Proofs.YtooiooledeblmaaGreatW.PrintWords Go.Proofs.YtooiooledeblmaaGreat.Lst
set_option linter.unusedVariables false
/-- A row of numbers: a slice that is read; a nil one has no room. -/
def RowK (w : World) (l : List Int) (cs : List Value) : Prop := ∃ A c, cs = [.slice A l.length c] ∧ l.length ≤ c ∧ (A = none → c = 0) ∧ Lst w .u32 A l ∧ (∀ x ∈ l, 0 ≤ x)
def rowN : Kd (List Int) where
  sz := 1
  E := []
  K := RowK
  M := fun _ _ _ _ _ => False
  K_len := by rintro w l cs ⟨A, c, rfl, _⟩; rfl
  K_one := by
    rintro w l cs ⟨A, c, rfl, _⟩ u hu
    rw [List.mem_singleton] at hu
    subst hu
    rfl
  K_below := by
    rintro w w1 l cs hb ⟨A, c, rfl, h1, h2, h3, h4⟩
    exact ⟨A, c, rfl, h1, h2, h3.below hb, h4⟩
  K_of_M := fun h => h.elim
  M_mono := fun _ h => h
  M_bound := fun h => h.elim
  M_move := fun _ h => h
  M_lower := fun _ h => h
section
variable {H : Type} {enc : TypeId × Value → H} {P : Program} {W : World} {base : Nat} {spare : Nat → Bool} {held : Bool}
theorem opens_rowN {t e : TypeId} (ht : P.underlying t = some (.slice e)) (he : P.underlying e = some (.int .u32)) (hc : P.cellsOf e = 1) : Opens enc P W base spare held rowN t (fun _ => True) := by
  intro fuel cs x _ h
  have h' := h
  obtain ⟨A, c, l, rfl, h1, h2, h3, h4⟩ := opens_row (d := Kd.int .u32) ht hc (opens_int he) h'
  refine ⟨l, ⟨A, c, rfl, h1, ?_, Dcd.lst_arg h3, Dcd.u32_pos h4⟩, trivial⟩
  rcases Deep.open_slice ht h with ⟨hcs, _⟩ | ⟨x, l', c', m, n, D, Pl, hcs, _⟩
  · simp at hcs
    exact fun _ => hcs.2.2
  · simp at hcs
    intro h
    rw [h] at hcs
    cases hcs.1
end
end Go.Proofs.YtooiooledeblmaaGreat.Open
namespace Go.Proofs.YtooiooledeblmaaGreat.Dcd
open Go.RowKit Go.Proofs.YtooiooledeblmaaGreat.Win Go.Proofs.YtooiooledeblmaaGreat.Stp Go.Proofs.YtooiooledeblmaaGreat.Out Go.Proofs.YtooiooledeblmaaGreat.Lst Go.Proofs.YtooiooledeblmaaGreatW.PrintWords
set_option linter.unusedVariables false
/-- The rows at a slice. -/
def RowsAt (w : World) (A : Option Addr) (ls : List (List Int)) : Prop := ∀ j, j < ls.length → ∃ (a : Addr) (B : Option Addr) (c : Nat), A = some a ∧ w.cell? (a.add j) = some (.slice B (ls.getD j []).length c) ∧ (ls.getD j []).length ≤ c ∧ (B = none → c = 0) ∧ Lst w .u32 B (ls.getD j []) ∧ ∀ x ∈ ls.getD j [], 0 ≤ x
theorem rows_arg {w : World} {A : Option Addr} {n : Nat} {ls : List (List Int)} (h : Open.rowN.C w A n ls) : RowsAt w A ls := fun j hj => by
  obtain ⟨h1, h2, h3⟩ := h
  obtain ⟨ad, rfl, hc⟩ := h3 (by omega)
  obtain ⟨cs, hl, hK, hcell⟩ := hc j _ (List.getElem?_eq_getElem hj)
  obtain ⟨B, c, rfl, q1, q2, q3, q4⟩ := hK
  have hg : ls.getD j [] = ls[j] := by rw [List.getD_eq_getElem?_getD, List.getElem?_eq_getElem hj]; rfl
  have hs : Open.rowN.sz = 1 := rfl
  rw [hs] at hcell
  have := hcell 0 _ rfl
  rw [Nat.mul_one, Nat.add_zero] at this
  rw [hg]
  exact ⟨ad, B, c, rfl, this, q1, q2, q3, q4⟩
theorem RowsAt.below {w w1 : World} {A : Option Addr} {ls : List (List Int)} (h : RowsAt w A ls) (hb : Below w.heap.size w w1) : RowsAt w1 A ls := fun j hj => by
  obtain ⟨a, B, c, q1, q2, q3, q4, q5, q6⟩ := h j hj
  exact ⟨a, B, c, q1, (hb.cell (p := a.add j) (World.block_lt_of_cell? w _ q2)).trans q2, q3, q4, q5.below hb, q6⟩
end Go.Proofs.YtooiooledeblmaaGreat.Dcd
end
section
namespace Go.Proofs.YtooiooledeblmaaGreat.Dcd
open Go.RowKit Go.Proofs.YtooiooledeblmaaGreat.Win Go.Proofs.YtooiooledeblmaaGreat.Stp Go.Proofs.YtooiooledeblmaaGreat.Out Go.Proofs.YtooiooledeblmaaGreat.Lst
set_option linter.unusedVariables false
set_option linter.unusedSimpArgs false
/-- Some scalars, and not many. -/
def FewL (ls : List (List Int)) (k most : Nat) : Prop := ∀ j, j < k → (ls.getD j []).length ≤ most ∧ Scal (ls.getD j [])
theorem FewL.succ {ls : List (List Int)} {k most : Nat} (h : FewL ls k most) (h1 : (ls.getD k []).length ≤ most) (h2 : Scal (ls.getD k [])) : FewL ls (k + 1) most := fun j hj => by
  by_cases h3 : j = k
  · subst h3; exact ⟨h1, h2⟩
  · exact h j (by omega)
def allL (ls : List (List Int)) (e : Int) : Nat → List Int
  | 0 => []
  | k + 1 => allL ls e k ++ (ls.getD k [] ++ [e])
theorem allL_len {ls : List (List Int)} {e : Int} {most : Nat} : ∀ k, FewL ls k most → (allL ls e k).length ≤ k * (most + 1)
  | 0, _ => by simp [allL]
  | k + 1, h => by
    have := allL_len (e := e) k (fun j hj => h j (by omega))
    have := (h k (Nat.lt_succ_self _)).1
    simp only [allL, List.length_append, List.length_singleton, Nat.add_mul, Nat.one_mul]
    omega
theorem allL_scal {ls : List (List Int)} {e : Int} {most : Nat} (he : 0 ≤ e ∧ isB e = true) : ∀ k, FewL ls k most → Scal (allL ls e k)
  | 0, _ => fun x hx => by cases hx
  | k + 1, h => fun x hx => by
    unfold allL at hx
    rcases List.mem_append.1 hx with hx | hx
    · exact allL_scal he k (fun j hj => h j (by omega)) x hx
    · rcases List.mem_append.1 hx with hx | hx
      · exact (h k (Nat.lt_succ_self _)).2 x hx
      · rw [List.mem_singleton] at hx; rw [hx]; exact he
theorem foldN_app {R : Type} (N : R → Int → R) : ∀ (xs ys : List Int) (r : R), foldN N r (xs ++ ys) = foldN N (foldN N r xs) ys
  | [], _, _ => rfl
  | x :: xs, ys, r => foldN_app N xs ys (N r x)
theorem fold_end (l : List Int) (r : Int) {e : Int} (he : e < 32) : foldN bocuN r (l ++ [e]) = 64 := by
  rw [foldN_app]
  simp only [foldN, bocuN]
  rw [if_pos (by omega), if_pos he]
theorem allL_fold {ls : List (List Int)} {e : Int} (he : e < 32) : ∀ k, foldN bocuN 64 (allL ls e k) = 64
  | 0 => rfl
  | k + 1 => by
    unfold allL
    rw [← List.append_assoc]
    exact fold_end _ _ he
theorem allL_told {ls : List (List Int)} {e : Int} (he : e < 32) (k : Nat) : told bocuB bocuN 64 (allL ls e (k + 1)) = told bocuB bocuN 64 (allL ls e k) ++ told bocuB bocuN 64 (ls.getD k [] ++ [e]) := by
  rw [allL, told_app, allL_fold he]
theorem encS_app {c : Int} (h1 : 1 ≤ c) (h2 : c ≤ 6) (xs ys : List Int) : encS c (xs ++ ys) = encS c xs ++ encS c ys := by
  have : c = 1 ∨ c = 2 ∨ c = 3 ∨ c = 4 ∨ c = 5 ∨ c = 6 := by omega
  rcases this with rfl | rfl | rfl | rfl | rfl | rfl
  all_goals exact told_app _ _ xs ys ()
theorem own_below {w w1 : World} {base n : Nat} {e : TypeId} {size : Nat} {v : Value} {xs : List Value} (h : w.ownsRow base e size v n xs) (hb : Below w.heap.size w w1) : w1.ownsRow base e size v n xs :=
  Go.Proofs.YtooiooledeblmaaGreat.Out.own_chg h (Chg.of_below (S := fun _ => False) hb) (fun _ _ h => h)
theorem own_apart {w : World} {b1 b2 n1 n2 : Nat} {e1 e2 : TypeId} {s1 s2 : Nat} {v1 v2 : Value} {x1 x2 : List Value} {w0 : World} (h1 : w0.ownsRow b1 e1 s1 v1 n1 x1) (h2 : w.ownsRow b2 e2 s2 v2 n2 x2) (hz : w0.heap.size ≤ b2) : v2.ownBlock = none ∨ v2.ownBlock ≠ v1.ownBlock := by
  cases h : v2.ownBlock with
  | none => exact .inl rfl
  | some k =>
    right
    intro hh
    have q1 := (h1.lt k hh.symm).2
    have q2 := (h2.lt k h).1
    omega
theorem lst_at {w : World} {r : Nat} {e : Int} (h : w.heap[r]? = some (.cells #[.int .u32 e] 31 (0, 0))) : Lst w .u32 (some ⟨r, 0, none⟩) [e] := by
  intro k hk
  obtain rfl : k = 0 := by simp at hk; exact hk
  exact ⟨_, rfl, by rw [show (⟨r, 0, none⟩ : Addr).add 0 = ⟨r, 0, none⟩ from rfl, cell_of h]; rfl⟩
theorem encS_len {c : Int} (hc : (1 ≤ c ∧ c ≤ 6) ∨ c = 8) (l : List Int) : (encS c l).length ≤ 5 * l.length := by
  have : c = 1 ∨ c = 2 ∨ c = 3 ∨ c = 4 ∨ c = 5 ∨ c = 6 ∨ c = 8 := by omega
  rcases this with rfl | rfl | rfl | rfl | rfl | rfl | rfl
  · exact told_len unN (fun _ c => uni8B_len c) l ()
  · exact told_len unN (fun _ c => uni16B_len true c) l ()
  · exact told_len unN (fun _ c => uni16B_len false c) l ()
  · exact told_len unN (fun _ c => uni32B_len true c) l ()
  · exact told_len unN (fun _ c => uni32B_len false c) l ()
  · exact told_len unN ebB_len l ()
  · exact told_len bocuN bocuB_len l 64
theorem encS_nil (c : Int) : encS c [] = [] := by
  unfold encS
  repeat' split
  all_goals rfl
def LinesRel (w : World) (ls : List (List Int)) (e : Int) (v5 v6 v34 : Value) (wr : World) : Prop :=
  ∃ (k : Nat) (A : Option Addr) (c : Nat), k ≤ ls.length ∧ v34 = .int .i64 k ∧ FewL ls k 40 ∧ v5 = .slice A (allL ls e k).length c ∧ wr.ownsRow w.heap.size 31 1 (.slice A (allL ls e k).length c) (allL ls e k).length (u32s (allL ls e k)) ∧ (A = none → c = 0) ∧
    v6 = .string (strOfNums (told bocuB bocuN 64 (allL ls e k))) ∧ Below w.heap.size w wr
set_option maxRecDepth 100000 in
set_option maxHeartbeats 16000000 in
theorem lines_law {w : World} {A : Option Addr} {c : Nat} {ls : List (List Int)} {x : Int} (h : RowsAt w A ls) (hm : ls.length ≤ maxLen) (hx0 : 0 ≤ x) (hx1 : x ≤ 4294967295) :
    Calls Tryz.prog 4 #[.slice A ls.length c, .int .u32 x] w (LawPost w) := by
  unfold maxLen at hm
  have H := Lib.hid h
  clear h
  go_enter Tryz.func4, Tryz.ntmps4
  go_wp2_with fail
  obtain ⟨e, he⟩ : ∃ e, e = x % 32 := ⟨_, rfl⟩
  have he0 : 0 ≤ e ∧ e < 32 := by omega
  rw [← he]
  clear he hx0 hx1
  refine (live_calls _).mono ?_
  rintro e1 w1 ⟨rfl, hb1⟩
  have HB1 := Lib.hid hb1
  clear hb1
  by_cases hlen : 12 < ls.length
  · go_wp2_with fail
    refine (live_calls _).mono ?_
    rintro e3 w3 ⟨rfl, hb3⟩
    have HB3 := Lib.hid (HB1.out.trans (Below.mono hb3 HB1.out.size))
    clear hb3
    go_wp2_with fail
    go_ret
    exact ⟨rfl, HB3.out⟩
  · go_wp2_with fail
    go_loopw [5, 6, 34] (fun v5 v6 v34 wr => LinesRel w ls e v5 v6 v34 wr) (fun _ _ v _ => ls.length - (intOf v).toNat)
    case atStart => exact ⟨0, none, 0, Nat.zero_le _, rfl, fun j hj => absurd hj (Nat.not_lt_zero _), rfl, World.ownsRow_nil _ _ _ _, fun _ => rfl, rfl, HB1.out⟩
    case round =>
      obtain ⟨k, A5, c5, hk, rfl, hf, rfl, ho, hn5, rfl, hbw⟩ := hrel
      have HF := Lib.hid hf
      have HO := Lib.hid ho
      have HN5 := Lib.hid hn5
      have HBw := Lib.hid hbw
      have hal := allL_len (e := e) k hf
      clear hf ho hn5
      by_cases hlt : k < ls.length
      · obtain ⟨a, B, cb, rfl, q1, q2, q3, q4, q5⟩ := (H.out.below hbw) k hlt
        obtain ⟨l, hl⟩ : ∃ l, l = ls.getD k [] := ⟨_, rfl⟩
        rw [← hl] at q1 q2 q4 q5
        have HL := Lib.hid hl
        have HSm := Lib.hid (small_any (c := cb) (most := 40) (by decide) q4 q5)
        have HQ4 := Lib.hid q4
        have HQ3 := Lib.hid q3
        clear hbw hl q2 q3 q4 q5
        go_wp2_with fail
        refine HSm.out.mono ?_
        rintro e1 w2 ⟨⟨b, rfl, hb⟩, hb2⟩
        have HB2 := Lib.hid (HBw.out.trans (Below.mono hb2 HBw.out.size))
        cases b with
        | false =>
          clear hb hb2
          go_wp2_with fail
          go_ret
          exact ⟨rfl, HB2.out⟩
        | true =>
          obtain ⟨h1, h2⟩ := hb rfl
          have HF2 := Lib.hid (HF.out.succ (by rw [← HL.out]; omega) (by rw [← HL.out]; exact h2))
          have HS := Lib.hid h2
          have HO2 := Lib.hid (own_below HO.out hb2)
          have HLa := Lib.hid (show Lst (w2.alloc (.cells #[] 31)) .u32 B l from (HQ4.out.below hb2).below (bel_alloc _))
          have HOn := Lib.hid (World.ownsRow_lit (base := w2.heap.size) (e := 31) (size := 1) w2 #[] 0 (Nat.le_refl _) (by decide) rfl)
          have hll : l.length ≤ 40 := by omega
          obtain ⟨L, hLL⟩ : ∃ L, L = l ++ [e] := ⟨_, rfl⟩
          have hLlen : L.length = l.length + 1 := by rw [hLL]; simp
          obtain ⟨M, hMM⟩ : ∃ M, M = allL ls e k ++ L := ⟨_, rfl⟩
          have hMlen : M.length = (allL ls e k).length + L.length := by rw [hMM]; simp
          have HLL := Lib.hid hLL
          have HMM := Lib.hid hMM
          have HLs := Lib.hid (And.intro hLlen hMlen)
          clear hLL hMM hLlen hMlen
          clear hb hb2 h1 h2 HO q1
          go_upto_region 12 with (first
            | (at_builtin; refine app_lst rfl rfl _ _ rfl w2.heap.size _ [] rfl HOn.out _ _ l rfl HLa.out HQ3.out (by simp; omega) (by simp) ?_; intro A' c' w3 h1 h2 h3; rw [List.nil_append] at h1; rw [List.nil_append]; have H1 := Lib.hid (h1.alloc (.cells #[.int .u32 e] 31)); have hb3 : Below w2.heap.size w2 w3 := (bel_alloc (w := w2) (.cells #[] 31)).grown h2 (by simp) (fun k hk => Nat.le_of_eq (Option.some.inj (show some w2.heap.size = some k from hk))); have HB3 := Lib.hid (hb3.alloc hb3.size (.cells #[.int .u32 e] 31)); have HL3 := Lib.hid (lst_at (heap_alloc_new w3 (.cells #[.int .u32 e] 31))); clear h1 h2 h3 hb3)
            | (at_builtin; refine app_lst rfl rfl _ _ rfl w2.heap.size _ l rfl H1.out _ _ [e] rfl HL3.out (fun h => nomatch h) (by simp; omega) HB3.out.size ?_; intro A2 c2 w4 h4 h5 h6; rw [← HLL.out] at h4; rw [← HLL.out]; have H4 := Lib.hid h4; have HB4 := Lib.hid (HB3.out.grown h5 HB3.out.size (fun k hk => (H1.out.lt k hk).1)); have H6 := Lib.hid h6; clear h4 h5 h6))
          have HO4 := Lib.hid (own_below HO2.out HB4.out)
          have hbw4 : Below w.heap.size w w4 := HB2.out.trans (Below.mono HB4.out HB2.out.size)
          have HBw4 := Lib.hid hbw4
          have HLs4 := Lib.hid (Lst.of_owns H4.out)
          have hL41 : L.length ≤ 41 := by have := HLs.out.1; omega
          have hal2 : (allL ls e k).length ≤ 492 := by
            have : k * (40 + 1) ≤ 12 * 41 := Nat.mul_le_mul (by omega) (by decide)
            omega
          clear hbw4
          go_upto_region 13 with (at_builtin; refine app_lst rfl rfl _ _ rfl w.heap.size _ (allL ls e k) rfl HO4.out _ _ L rfl HLs4.out H6.out (by omega) HBw4.out.size ?_; intro A3 c3 w5 h7 h8 h9; rw [← HMM.out] at h7; rw [← HMM.out]; have H7 := Lib.hid h7; have HB5 := Lib.hid (HBw4.out.grown h8 HBw4.out.size (fun k hk => (HO4.out.lt k hk).1)); have H9 := Lib.hid h9; have HL5 := Lib.hid (Lst.of_owns (H4.out.kept h8 (own_apart HO2.out H4.out (Nat.le_refl _)))); clear h7 h8 h9)
          have hsL : Scal L := by
            rw [HLL.out]
            intro y hy
            rcases List.mem_append.1 hy with hy | hy
            · exact HS.out y hy
            · rw [List.mem_singleton] at hy
              rw [hy]
              exact ⟨he0.1, isB_iff.2 (by omega)⟩
          have hen := lenc_calls (c := 8) (encOK_all (.inr rfl)) HL5.out hsL (by omega) H6.out
          unfold EncLPost at hen
          rw [show encS 8 L = told bocuB bocuN 64 L from rfl] at hen
          obtain ⟨F, hF⟩ : ∃ F, F = strOfNums (told bocuB bocuN 64 (allL ls e k)) := ⟨_, rfl⟩
          obtain ⟨G, hG⟩ : ∃ G, G = strOfNums (told bocuB bocuN 64 L) := ⟨_, rfl⟩
          have hFs : F.size ≤ 3000 := by
            have := told_len bocuN bocuB_len (allL ls e k) 64
            rw [hF, str_size]; omega
          have hGs : G.size ≤ 3000 := by
            have := told_len bocuN bocuB_len L 64
            rw [hG, str_size]; omega
          have hFG : F ++ G = strOfNums (told bocuB bocuN 64 (allL ls e (k + 1))) := by
            rw [hF, hG, str_append, allL_told he0.2, ← HL.out, ← HLL.out]
          have hM1 : M = allL ls e (k + 1) := by rw [HMM.out, HLL.out, HL.out]; rfl
          rw [← hG] at hen
          have HEn := Lib.hid hen
          have HFG := Lib.hid hFG
          have HM1 := Lib.hid hM1
          rw [← hF]
          clear hsL hen hF hG hFG hM1
          go_wp2_with fail
          refine HEn.out.mono ?_
          rintro e1 w6 ⟨rfl, hb6⟩
          have HB6 := Lib.hid (HB5.out.trans (Below.mono hb6 HB5.out.size))
          have HO6 := Lib.hid (own_below H7.out hb6)
          clear hb6
          go_wp2_with fail
          go_roundw
          case rel =>
            refine ⟨k + 1, A3, c3, hlt, by go_num, HF2.out, by rw [HM1.out], by rw [← HM1.out]; exact HO6.out, H9.out, by rw [HFG.out], HB6.out⟩
          case measure => simp [intOf]; omega
      · obtain rfl : k = ls.length := by omega
        have hal2 : (allL ls e ls.length).length ≤ 492 := by
          have : ls.length * (40 + 1) ≤ 12 * 41 := Nat.mul_le_mul (by omega) (by decide)
          omega
        have hsM : Scal (allL ls e ls.length) := allL_scal ⟨he0.1, isB_iff.2 (by omega)⟩ ls.length HF.out
        obtain ⟨M, hM⟩ : ∃ M, M = allL ls e ls.length := ⟨_, rfl⟩
        rw [← hM] at hsM hal2 HO
        rw [← hM]
        have HSM := Lib.hid hsM
        clear hal hsM hM hlt hk
        have hen := lenc_calls (c := 8) (encOK_all (.inr rfl)) (Lst.of_owns HO.out) HSM.out (by omega) HN5.out
        unfold EncLPost at hen
        rw [show encS 8 M = told bocuB bocuN 64 M from rfl] at hen
        obtain ⟨F, hF⟩ : ∃ F, F = strOfNums (told bocuB bocuN 64 M) := ⟨_, rfl⟩
        rw [← hF] at hen
        rw [← hF]
        have HEn := Lib.hid hen
        clear hen hF
        go_wp2_with fail
        refine HEn.out.mono ?_
        rintro e1 w6 ⟨rfl, hb6⟩
        have HB6 := Lib.hid (hbw.trans (Below.mono hb6 hbw.size))
        have HO6 := Lib.hid (own_below HO.out hb6)
        clear hb6 hbw HBw HO
        go_wp2_with fail
        go_loopw [14] (fun v wr => ∃ k : Nat, 1 ≤ k ∧ k ≤ 7 ∧ v = .int .i64 k ∧ Below w6.heap.size w6 wr) (fun v _ => 7 - (intOf v).toNat)
        case atStart => exact ⟨1, by decide, by decide, rfl, Below.refl _ _⟩
        case round =>
          obtain ⟨cd, hcd1, hcd2, rfl, hbw⟩ := hrel
          have HBw := Lib.hid hbw
          by_cases hlt : cd < 7
          · have hkd : decide ((cd : Int) ≤ 6) = true := by simp; omega
            have HOK := Lib.hid (encOK_all (c := (cd : Int)) (.inl ⟨by omega, by omega⟩))
            have hle5 : ∀ x, (encS (cd : Int) x).length ≤ 5 * x.length := fun x => encS_len (.inl ⟨by omega, by omega⟩) x
            have HLe := Lib.hid hle5
            have HLM := Lib.hid (fun (wx : World) (hx : Below w6.heap.size w6 wx) => (Lst.of_owns HO6.out).below hx)
            clear hbw hle5
            go_wp2_with fail
            go_loopw [15, 79] (fun v15 v79 wr => ∃ i : Nat, i ≤ M.length ∧ v79 = .int .i64 i ∧ v15 = .string (strOfNums (encS cd (M.take i))) ∧ Below w6.heap.size w6 wr) (fun _ v _ => M.length - (intOf v).toNat)
            case atStart => exact ⟨0, Nat.zero_le _, rfl, by rw [List.take_zero, encS_nil]; rfl, HBw.out⟩
            case round =>
              obtain ⟨i, hi, rfl, rfl, hbw⟩ := hrel
              have HBi := Lib.hid hbw
              by_cases hlti : i < M.length
              · obtain ⟨a, rfl, q⟩ := HLM.out wr hbw i hlti
                have hy := HSM.out (M.getD i 0) (by rw [List.getD_eq_getElem?_getD, List.getElem?_eq_getElem hlti]; exact List.getElem_mem _)
                have htk := take_succ' hlti
                obtain ⟨y, hyy⟩ : ∃ y, y = M.getD i 0 := ⟨_, rfl⟩
                rw [← hyy] at q hy htk
                have hsy : Scal [y] := fun z hz => by rw [List.mem_singleton] at hz; rw [hz]; exact hy
                have hen := lenc_calls HOK.out (A := some ⟨wr.heap.size, 0, none⟩) (cap := 1) (l := [y]) (lst_at (heap_alloc_new wr (.cells #[.int .u32 y] 31))) hsy (by simp) (fun h => nomatch h)
                unfold EncLPost at hen
                obtain ⟨F1, hF1⟩ : ∃ F1, F1 = strOfNums (encS cd (M.take i)) := ⟨_, rfl⟩
                obtain ⟨G, hG⟩ : ∃ G, G = strOfNums (encS cd [y]) := ⟨_, rfl⟩
                have hFs : F1.size ≤ 3000 := by
                  have := HLe.out (M.take i)
                  rw [List.length_take] at this
                  rw [hF1, str_size]; omega
                have hGs : G.size ≤ 5 := by
                  have := HLe.out [y]
                  rw [List.length_singleton] at this
                  rw [hG, str_size]; omega
                have hFG : F1 ++ G = strOfNums (encS cd (M.take (i + 1))) := by
                  rw [hF1, hG, str_append, ← encS_app (by omega) (by omega), ← htk]
                rw [← hG] at hen
                rw [← hF1]
                have HEn2 := Lib.hid hen
                have HFG := Lib.hid hFG
                clear hbw hy htk hyy hsy hen hF1 hG hFG
                go_wp2_with fail
                refine HEn2.out.mono ?_
                rintro e1 w7 ⟨rfl, hb7⟩
                have HB7 := Lib.hid (HBi.out.trans (Below.mono ((bel_alloc (w := wr) (.cells #[.int .u32 y] 31)).trans (Below.mono hb7 (by simp))) HBi.out.size))
                clear hb7 q
                go_wp2_with fail
                go_roundw
                case rel => exact ⟨i + 1, hlti, by go_num, by rw [HFG.out], HB7.out⟩
                case measure => simp [intOf]; omega
              · obtain rfl : i = M.length := by omega
                have hen := lenc_calls HOK.out (HLM.out wr hbw) HSM.out (by omega) HN5.out
                unfold EncLPost at hen
                rw [List.take_length]
                obtain ⟨F1, hF1⟩ : ∃ F1, F1 = strOfNums (encS cd M) := ⟨_, rfl⟩
                rw [← hF1] at hen
                rw [← hF1]
                have HEn2 := Lib.hid hen
                clear hbw hen hF1
                go_wp2_with fail
                refine HEn2.out.mono ?_
                rintro e1 w7 ⟨rfl, hb7⟩
                have HB7 := Lib.hid (HBi.out.trans (Below.mono hb7 HBi.out.size))
                clear hb7
                go_wp2_with fail
                go_roundw
                case rel => exact ⟨cd + 1, by omega, by omega, by go_num, HB7.out⟩
                case measure => simp [intOf]; omega
          · obtain rfl : cd = 7 := by omega
            go_wp2_with fail
            go_ret
            exact ⟨rfl, HB6.out.trans (Below.mono HBw.out HB6.out.size)⟩
theorem topLines_row (A : Option Addr) (c : Nat) (ls : List (List Int)) (x : Int) (w : World) (hr : Open.rowN.C w A ls.length ls) (hc : ls.length ≤ c) (hm : ls.length ≤ maxLen) (hg : ∀ x ∈ ls, True) (hx : (Lit.int .u32 x).wf = true) :
    Calls Tryz.prog 4 #[.slice A ls.length c, .int .u32 x] w fun e w' => e = .returned (.bool true) ∧ Below w.heap.size w w' := by
  simp [Lit.wf, IntKind.min, IntKind.max, IntKind.signed, IntKind.bits] at hx
  exact lines_law (rows_arg hr) hm (by omega) (by omega)
end Go.Proofs.YtooiooledeblmaaGreat.Dcd
end
