/- BOCU-1: the bytes that stand for nothing but themselves; plain. TopKept: the walk. Arguments, as the rows hand them over; a nil slice has no room. -/
import Derived.Test.YtooiooledeblmaaGreatM8
section
namespace Go.Proofs.YtooiooledeblmaaGreat.Dcd
open Go.RowKit Go.Proofs.YtooiooledeblmaaGreat.Win Go.Proofs.YtooiooledeblmaaGreat.Stp Go.Proofs.YtooiooledeblmaaGreat.Out Go.Proofs.YtooiooledeblmaaGreat.Lst
set_option linter.unusedVariables false
set_option linter.unusedSimpArgs false
theorem byteC_nk (v : Int) (h0 : 0 ≤ v) (h1 : v < 243) : isK (byteC v) = false := by
  have h : ∀ n : Fin 243, isK (byteC (n.val : Int)) = false := by decide +kernel
  have := h ⟨v.toNat, by omega⟩
  rw [show ((v.toNat : Nat) : Int) = v from Int.toNat_of_nonneg h0] at this
  exact this
theorem digs_nk (L : Int) : ∀ j, ∀ x ∈ digs L j, isK x = false
  | 0 => fun x hx => by cases hx
  | j + 1 => fun x hx => by
    unfold digs at hx
    rcases List.mem_cons.1 hx with rfl | hx
    · exact byteC_nk _ (Int.emod_nonneg _ (by decide)) (Int.emod_lt_of_pos _ (by decide))
    · exact digs_nk L j x hx
theorem isK_big {x : Int} (h : 32 < x) : isK x = false := by unfold isK; simp; omega
theorem isK_le {x : Int} (h : isK x = true) : x ≤ 32 := by unfold isK at h; simp at h; exact h.1
theorem packC_nk {d : Int} (h0 : -1114111 ≤ d) (h1 : d ≤ 1114111) : ∀ x ∈ packC d, isK x = false := by
  intro x hx
  unfold packC at hx
  have h := place_rng h0 h1
  rcases List.mem_cons.1 hx with rfl | hx
  · exact isK_big (by omega)
  · exact digs_nk _ _ x hx
theorem bocuB_nk {r c : Int} (hI : bocuI r) (h0 : 0 ≤ c) (hb : isB c = true) (h : ¬ c ≤ 32) : ∀ x ∈ bocuB r c, isK x = false := by
  have hb := (isB_iff.1 hb).1
  obtain ⟨i1, i2⟩ := hI
  unfold bocuB
  rw [if_neg h]
  exact packC_nk (by omega) (by omega)
theorem kept_split {k : Int} (hk : isK k = true) : ∀ (l : List Int) (r : Int) (X Y : List Int), bocuI r → Scal l → told bocuB bocuN r l = X ++ k :: Y → (∀ x ∈ X, isK x = false) →
    ∃ A B, l = A ++ k :: B ∧ told bocuB bocuN r A = X ∧ ∀ x ∈ A, isK x = false
  | [], r, X, Y, _, _, h, _ => by
    simp only [told] at h
    cases X <;> cases h
  | c :: cs, r, X, Y, hI, hs, h, hX => by
    have hc := hs c List.mem_cons_self
    have hs' : Scal cs := fun x hx => hs x (List.mem_cons_of_mem _ hx)
    have hI' := bocuN_inv r c hI hc.1 hc.2
    simp only [told] at h
    by_cases h32 : c ≤ 32
    · have hB : bocuB r c = [c] := by unfold bocuB; rw [if_pos h32]
      rw [hB] at h
      cases X with
      | nil =>
        injection h with h1 h2
        exact ⟨[], cs, by rw [h1]; rfl, rfl, fun x hx => by cases hx⟩
      | cons x X =>
        injection h with h1 h2
        subst h1
        obtain ⟨A, B, q1, q2, q3⟩ := kept_split hk cs _ X Y hI' hs' h2 (fun y hy => hX y (List.mem_cons_of_mem _ hy))
        refine ⟨c :: A, B, by rw [q1]; rfl, ?_, fun y hy => ?_⟩
        · simp only [told]
          rw [hB, q2]
          rfl
        · rcases List.mem_cons.1 hy with rfl | hy
          · exact hX y List.mem_cons_self
          · exact q3 y hy
    · have hnk := bocuB_nk hI hc.1 hc.2 h32
      rcases List.append_eq_append_iff.1 h with ⟨Z, h1, h2⟩ | ⟨Z, h1, h2⟩
      · obtain ⟨A, B, q1, q2, q3⟩ := kept_split hk cs _ Z Y hI' hs' h2 (fun y hy => hX y (by rw [h1]; exact List.mem_append_right _ hy))
        refine ⟨c :: A, B, by rw [q1]; rfl, ?_, fun y hy => ?_⟩
        · simp only [told]
          rw [q2, h1]
        · rcases List.mem_cons.1 hy with rfl | hy
          · exact isK_big (by omega)
          · exact q3 y hy
      · cases Z with
        | nil =>
          rw [List.append_nil] at h1
          rw [List.nil_append] at h2
          obtain ⟨A, B, q1, q2, q3⟩ := kept_split hk cs _ [] Y hI' hs' h2.symm (fun y hy => by cases hy)
          refine ⟨c :: A, B, by rw [q1]; rfl, ?_, fun y hy => ?_⟩
          · simp only [told]
            rw [q2, h1, List.append_nil]
          · rcases List.mem_cons.1 hy with rfl | hy
            · exact isK_big (by omega)
            · exact q3 y hy
        | cons z Z =>
          injection h2 with h3 h4
          have := hnk k (by rw [h1, h3]; exact List.mem_append_right _ List.mem_cons_self)
          rw [hk] at this
          cases this
theorem kept_none : ∀ (l : List Int) (r : Int), bocuI r → Scal l → (∀ x ∈ told bocuB bocuN r l, isK x = false) → ∀ x ∈ l, isK x = false
  | [], _, _, _, _ => fun x hx => by cases hx
  | c :: cs, r, hI, hs, h => fun x hx => by
    have hc := hs c List.mem_cons_self
    have hs' : Scal cs := fun x hx => hs x (List.mem_cons_of_mem _ hx)
    have hI' := bocuN_inv r c hI hc.1 hc.2
    simp only [told] at h
    rcases List.mem_cons.1 hx with rfl | hx
    · by_cases h32 : x ≤ 32
      · exact h x (List.mem_append_left _ (by unfold bocuB; rw [if_pos h32]; exact List.mem_singleton.2 rfl))
      · exact isK_big (by omega)
    · exact kept_none cs _ hI' hs' (fun y hy => h y (List.mem_append_right _ hy)) x hx
theorem told_app {R : Type} (B : R → Int → List Int) (N : R → Int → R) : ∀ (xs ys : List Int) (r : R), told B N r (xs ++ ys) = told B N r xs ++ told B N (foldN N r xs) ys
  | [], ys, r => rfl
  | x :: xs, ys, r => by
    simp only [told, foldN, List.cons_append]
    rw [told_app B N xs ys, List.append_assoc]
theorem i64B : bocuI 64 := ⟨by decide, by decide⟩
/-- How far the law has come: the scalars below at have given the bytes below some j, and from there to i none is kept. -/
def KInv (l : List Int) (i at_ : Nat) : Prop := at_ ≤ l.length ∧ i ≤ (told bocuB bocuN 64 l).length ∧ ∃ j, j ≤ i ∧ told bocuB bocuN 64 (l.take at_) = (told bocuB bocuN 64 l).take j ∧ ∀ x ∈ ((told bocuB bocuN 64 l).drop j).take (i - j), isK x = false
theorem KInv.zero (l : List Int) : KInv l 0 0 := ⟨Nat.zero_le _, Nat.zero_le _, 0, Nat.le_refl _, by simp [told], fun x hx => by simp at hx⟩
theorem KInv.skip {l : List Int} {i at_ : Nat} (h : KInv l i at_) (hi : i < (told bocuB bocuN 64 l).length) (hk : isK ((told bocuB bocuN 64 l).getD i 0) = false) : KInv l (i + 1) at_ := by
  obtain ⟨h1, h2, j, h3, h4, h5⟩ := h
  refine ⟨h1, hi, j, by omega, h4, fun x hx => ?_⟩
  have : i + 1 - j = (i - j) + 1 := by omega
  rw [this, List.take_succ_eq_append_getElem (by rw [List.length_drop]; omega)] at hx
  rcases List.mem_append.1 hx with hx | hx
  · exact h5 x hx
  · rw [List.mem_singleton] at hx
    rw [hx, List.getElem_drop]
    rw [List.getD_eq_getElem?_getD, List.getElem?_eq_getElem hi] at hk
    simp only [show j + (i - j) = i by omega]
    exact hk
theorem getD_mid {A B : List Int} {k : Int} : (A ++ k :: B).getD A.length 0 = k := by
  rw [List.getD_eq_getElem?_getD, List.getElem?_append_right (Nat.le_refl _)]
  simp
theorem getD_left {A B : List Int} {m : Nat} (h : m < A.length) : (A ++ B).getD m 0 ∈ A := by
  rw [List.getD_eq_getElem?_getD, List.getElem?_append_left h, List.getElem?_eq_getElem h]
  exact List.getElem_mem _
theorem getD_drop' (l : List Int) (a m : Nat) : (l.drop a).getD m 0 = l.getD (a + m) 0 := by
  rw [List.getD_eq_getElem?_getD, List.getD_eq_getElem?_getD, List.getElem?_drop]
theorem KInv.kept {l : List Int} {i at_ : Nat} (h : KInv l i at_) (hs : Scal l) (hi : i < (told bocuB bocuN 64 l).length) (hk : isK ((told bocuB bocuN 64 l).getD i 0) = true) :
    ∃ n, at_ + n < l.length ∧ (∀ m, m < n → isK (l.getD (at_ + m) 0) = false) ∧ l.getD (at_ + n) 0 = (told bocuB bocuN 64 l).getD i 0 ∧ told bocuB bocuN 64 (l.take (at_ + n)) = (told bocuB bocuN 64 l).take i ∧ KInv l (i + 1) (at_ + n + 1) := by
  obtain ⟨h1, h2, j, h3, h4, h5⟩ := h
  obtain ⟨S, hS⟩ : ∃ S, S = told bocuB bocuN 64 l := ⟨_, rfl⟩
  have hsp : told bocuB bocuN 64 l = told bocuB bocuN 64 (l.take at_) ++ told bocuB bocuN (foldN bocuN 64 (l.take at_)) (l.drop at_) := by rw [← told_app, List.take_append_drop]
  have hI : bocuI (foldN bocuN 64 (l.take at_)) := fold_inv bocuN_inv (l.take at_) 64 i64B (fun x hx => hs x (List.mem_of_mem_take hx))
  rw [← hS] at hi hk h4 h5 hsp ⊢
  have htl : told bocuB bocuN (foldN bocuN 64 (l.take at_)) (l.drop at_) = S.drop j := by
    rw [h4] at hsp
    exact (List.append_cancel_left ((List.take_append_drop j S).trans hsp)).symm
  have hd : S.drop j = (S.drop j).take (i - j) ++ S.getD i 0 :: S.drop (i + 1) := by
    have e1 : (S.drop j).drop (i - j) = S.drop i := by rw [List.drop_drop]; congr 1; omega
    rw [← drop_cons hi, ← e1, List.take_append_drop]
  rw [hd] at htl
  obtain ⟨A, B, q1, q2, q3⟩ := kept_split hk (l.drop at_) _ _ _ hI (hs.drop at_) htl h5
  have hlen : at_ + A.length < l.length := by
    have := congrArg List.length q1
    rw [List.length_drop, List.length_append, List.length_cons] at this
    omega
  have hl : l = l.take at_ ++ (A ++ S.getD i 0 :: B) := by rw [← q1, List.take_append_drop]
  have hta : l.take (at_ + A.length) = l.take at_ ++ A := by
    rw [List.take_add, q1, List.take_left]
  have ht : told bocuB bocuN 64 (l.take (at_ + A.length)) = S.take i := by
    rw [hta, told_app, h4, q2]
    have : S.take i = S.take (j + (i - j)) := by congr 1; omega
    rw [this, List.take_add]
  have hg : l.getD (at_ + A.length) 0 = S.getD i 0 := by rw [← getD_drop', q1, getD_mid]
  refine ⟨A.length, hlen, fun m hm => ?_, hg, ht, by omega, by rw [← hS]; omega, i + 1, Nat.le_refl _, ?_, fun x hx => by simp at hx⟩
  · rw [← getD_drop', q1]
    exact q3 _ (getD_left hm)
  · rw [← hS, List.take_succ_eq_append_getElem hlen, told_app, ht, List.take_succ_eq_append_getElem hi]
    have e1 : l[at_ + A.length] = S[i] := by
      rw [List.getD_eq_getElem?_getD, List.getElem?_eq_getElem hlen, List.getD_eq_getElem?_getD, List.getElem?_eq_getElem hi] at hg
      exact hg
    have e2 : S.getD i 0 = S[i] := by rw [List.getD_eq_getElem?_getD, List.getElem?_eq_getElem hi]; rfl
    have e3 : S[i] ≤ 32 := by rw [← e2]; exact isK_le hk
    rw [e1]
    simp only [told, bocuB, if_pos e3]
    rfl
theorem KInv.done {l : List Int} {at_ : Nat} (h : KInv l (told bocuB bocuN 64 l).length at_) (hs : Scal l) : ∀ m, at_ ≤ m → m < l.length → isK (l.getD m 0) = false := by
  obtain ⟨h1, h2, j, h3, h4, h5⟩ := h
  have hsp : told bocuB bocuN 64 l = told bocuB bocuN 64 (l.take at_) ++ told bocuB bocuN (foldN bocuN 64 (l.take at_)) (l.drop at_) := by rw [← told_app, List.take_append_drop]
  have hI : bocuI (foldN bocuN 64 (l.take at_)) := fold_inv bocuN_inv (l.take at_) 64 i64B (fun x hx => hs x (List.mem_of_mem_take hx))
  have htl : told bocuB bocuN (foldN bocuN 64 (l.take at_)) (l.drop at_) = (told bocuB bocuN 64 l).drop j := by
    rw [h4] at hsp
    exact (List.append_cancel_left ((List.take_append_drop j _).trans hsp)).symm
  rw [List.take_of_length_le (by rw [List.length_drop]; omega), ← htl] at h5
  intro m hm hl
  have := kept_none (l.drop at_) _ hI (hs.drop at_) h5 ((l.drop at_).getD (m - at_) 0) (by
    rw [List.getD_eq_getElem?_getD, List.getElem?_eq_getElem (by rw [List.length_drop]; omega)]
    exact List.getElem_mem _)
  rw [getD_drop', show at_ + (m - at_) = m by omega] at this
  exact this
end Go.Proofs.YtooiooledeblmaaGreat.Dcd
end
section
namespace Go.Proofs.YtooiooledeblmaaGreat.Dcd
open Go.RowKit Go.Proofs.YtooiooledeblmaaGreat.Win Go.Proofs.YtooiooledeblmaaGreat.Stp Go.Proofs.YtooiooledeblmaaGreat.Out Go.Proofs.YtooiooledeblmaaGreat.Lst Go.Proofs.YtooiooledeblmaaGreat.Dec
set_option linter.unusedVariables false
set_option linter.unusedSimpArgs false
theorem small_any {w : World} {A : Option Addr} {c : Nat} {l : List Int} {most : Int} (hm : most ≤ 1000000) (hL : Lst w .u32 A l) (h0 : ∀ x ∈ l, 0 ≤ x) : Calls Tryz.prog 9 #[.slice A l.length c, .int .i64 most] w (SmallPost w l most) := by
  by_cases hl : l.length ≤ 1000000
  · exact small_calls hL h0 hl
  · refine (small_great (A := A) (c := c) (w := w) (show most < (l.length : Int) by omega)).mono ?_
    rintro e w' ⟨rfl, rfl⟩
    exact ⟨⟨false, rfl, fun h => by cases h⟩, Below.refl _ _⟩
theorem byt_str {xs : List Int} (h : ∀ x ∈ xs, 0 ≤ x ∧ x ≤ 255) : byt (strOfNums xs) = xs := by
  unfold byt strOfNums
  simp only [List.map_map]
  conv => rhs; rw [← List.map_id xs]
  apply List.map_congr_left
  intro x hx
  have := h x hx
  simp
  omega
theorem digs_rg (L : Int) : ∀ j, ∀ x ∈ digs L j, 0 ≤ x ∧ x ≤ 255
  | 0 => fun x hx => by cases hx
  | j + 1 => fun x hx => by
    unfold digs at hx
    rcases List.mem_cons.1 hx with rfl | hx
    · have := byteC_rng (Int.emod_nonneg (L / 243 ^ j) (show (243 : Int) ≠ 0 by decide)) (Int.emod_lt_of_pos _ (by decide))
      omega
    · exact digs_rg L j x hx
theorem told_rg {R : Type} {B : R → Int → List Int} {N : R → Int → R} {I : R → Prop} (hB : ∀ r c, I r → 0 ≤ c → isB c = true → ∀ x ∈ B r c, 0 ≤ x ∧ x ≤ 255) (hN : ∀ r c, I r → 0 ≤ c → isB c = true → I (N r c)) : ∀ (l : List Int) (r : R), I r → Scal l → ∀ x ∈ told B N r l, 0 ≤ x ∧ x ≤ 255
  | [], _, _, _ => fun x hx => by cases hx
  | c :: cs, r, hI, hs => fun x hx => by
    have hc := hs c List.mem_cons_self
    simp only [told] at hx
    rcases List.mem_append.1 hx with hx | hx
    · exact hB r c hI hc.1 hc.2 x hx
    · exact told_rg hB hN cs _ (hN r c hI hc.1 hc.2) (fun y hy => hs y (List.mem_cons_of_mem _ hy)) x hx
theorem bocuB_rg (r c : Int) (hI : bocuI r) (h0 : 0 ≤ c) (hb : isB c = true) : ∀ x ∈ bocuB r c, 0 ≤ x ∧ x ≤ 255 := by
  have hb := (isB_iff.1 hb).1
  obtain ⟨i1, i2⟩ := hI
  unfold bocuB
  intro x hx
  split at hx
  · rw [List.mem_singleton] at hx; omega
  · have h := place_rng (show -1114111 ≤ c - r by omega) (show c - r ≤ 1114111 by omega)
    unfold packC at hx
    rcases List.mem_cons.1 hx with rfl | hx
    · omega
    · exact digs_rg _ _ x hx
def LawPost (w : World) (e : Ending) (w' : World) : Prop := e = .returned (.bool true) ∧ Below w.heap.size w w'
def KRel (w : World) (l : List Int) (v5 v6 : Value) (wr : World) : Prop := ∃ i a : Nat, v5 = .int .i64 a ∧ v6 = .int .i64 i ∧ KInv l i a ∧ Below w.heap.size w wr
set_option maxRecDepth 100000 in
set_option maxHeartbeats 16000000 in
theorem kept_law {w : World} {A : Option Addr} {c : Nat} {l : List Int} (h : Lst w .u32 A l) (h0 : ∀ x ∈ l, 0 ≤ x) (hcap : l.length ≤ c) (hnil : A = none → c = 0) (hm : l.length ≤ maxLen) :
    Calls Tryz.prog 5 #[.slice A l.length c] w (LawPost w) := by
  unfold maxLen at hm
  have H := Lib.hid h
  have H0 := Lib.hid h0
  have HN := Lib.hid hnil
  clear h h0 hnil
  go_enter Tryz.func5, Tryz.ntmps5
  go_wp2_with fail
  refine (live_calls _).mono ?_
  rintro e w1 ⟨rfl, hb1⟩
  have HB1 := Lib.hid hb1
  have HL1 := Lib.hid (H.out.below hb1)
  clear hb1
  go_wp2_with fail
  refine (small_any (by decide) HL1.out H0.out).mono ?_
  rintro e w2 ⟨⟨b, rfl, hb⟩, hb2⟩
  have HB2 := Lib.hid (HB1.out.trans (Below.mono hb2 HB1.out.size))
  cases b with
  | false =>
    clear hb hb2
    go_wp2_with fail
    refine (live_calls _).mono ?_
    rintro e w3 ⟨rfl, hb3⟩
    have HB3 := Lib.hid (HB2.out.trans (Below.mono hb3 HB2.out.size))
    clear hb3
    go_wp2_with fail
    go_ret
    exact ⟨rfl, HB3.out⟩
  | true =>
    obtain ⟨hlen, hs⟩ := hb rfl
    have HS := Lib.hid hs
    have HL2 := Lib.hid (HL1.out.below hb2)
    clear hb hb2 hs
    go_wp2_with fail
    refine (lenc_calls (c := 8) (encOK_all (.inr rfl)) HL2.out HS.out (by omega) HN.out).mono ?_
    rw [show encS 8 l = told bocuB bocuN 64 l from rfl]
    rintro e w3 ⟨rfl, hb3⟩
    obtain ⟨S, hS⟩ : ∃ S, S = told bocuB bocuN 64 l := ⟨_, rfl⟩
    have hrg : ∀ x ∈ S, 0 ≤ x ∧ x ≤ 255 := by rw [hS]; exact told_rg (I := bocuI) bocuB_rg bocuN_inv l 64 i64B HS.out
    have hSl : S.length ≤ 500 := by
      have := told_len bocuN bocuB_len l 64
      rw [hS]; omega
    rw [← hS]
    obtain ⟨T, hT⟩ : ∃ T, T = strOfNums S := ⟨_, rfl⟩
    have HT := Lib.hid hT
    have hTs : T.size = S.length := by rw [hT, str_size]
    have HTs := Lib.hid hTs
    have HAt := Lib.hid (show ∀ k, (hk : k < T.size) → (T[k].toNat : Int) = S.getD k 0 from fun k hk => by rw [← byt_at T k hk, hT, byt_str hrg])
    have HSe := Lib.hid hS
    have HB3 := Lib.hid (HB2.out.trans (Below.mono hb3 HB2.out.size))
    rw [← hT]
    have hTl : T.size ≤ 500 := by omega
    clear hrg hT hb3 hS hTs hSl
    go_wp2_with fail
    go_loopw [5, 6] (fun v5 v6 wr => KRel w l v5 v6 wr) (fun _ v6 _ => T.size - (intOf v6).toNat)
    case atStart => exact ⟨0, 0, rfl, rfl, KInv.zero l, HB3.out⟩
    case round =>
      obtain ⟨i, a, rfl, rfl, hki, hbw⟩ := hrel
      have HK := Lib.hid hki
      have HBw := Lib.hid hbw
      have hile : i ≤ T.size := by rw [HTs.out, HSe.out]; exact hki.2.1
      have hale := hki.1
      clear hki hbw
      by_cases hlt : i < T.size
      · obtain ⟨x, hx⟩ : ∃ x : Int, x = (T[i].toNat : Int) := ⟨_, rfl⟩
        have hxr : 0 ≤ x ∧ x ≤ 255 := by have := T[i].toNat_lt; omega
        have hxS : S.getD i 0 = x := by rw [hx]; exact (HAt.out i hlt).symm
        have HX := Lib.hid hx
        have HXS := Lib.hid hxS
        have hiS : i < (told bocuB bocuN 64 l).length := by rw [← HSe.out, ← HTs.out]; exact hlt
        have HKp := Lib.hid (kept_calls2 x wr)
        have hxw : (T[i].toNat : Int) = x := hx.symm
        clear hx hxS
        cases hkx : isK x with
        | false =>
          have HKn := Lib.hid (HK.out.skip hiS (by rw [← HSe.out, HXS.out]; exact hkx))
          rw [hkx] at HKp
          clear hiS hkx
          go_wp2_with fail
          refine HKp.out.mono ?_
          rintro e w4 ⟨rfl, hb4⟩
          have HB4 := Lib.hid (HBw.out.trans (Below.mono hb4 HBw.out.size))
          clear hb4
          go_wp2_with fail
          go_roundw
          case rel => exact ⟨i + 1, a, rfl, by go_num, HKn.out, HB4.out⟩
          case measure => simp [intOf]; omega
        | true =>
          obtain ⟨n, n1, n2, n3, n4, n5⟩ := HK.out.kept HS.out hiS (by rw [← HSe.out, HXS.out]; exact hkx)
          have HKn := Lib.hid n5
          have HNo := Lib.hid n2
          have HFr := Lib.hid n4
          have HLa := Lib.hid (show l.getD (a + n) 0 = x by rw [n3, ← HSe.out, HXS.out])
          have hx32 := isK_le hkx
          have HKx := Lib.hid hkx
          rw [hkx] at HKp
          clear hiS hkx n2 n3 n4 n5
          go_wp2_with fail
          refine HKp.out.mono ?_
          rintro e w4 ⟨rfl, hb4⟩
          have HB4 := Lib.hid (HBw.out.trans (Below.mono hb4 HBw.out.size))
          clear hb4
          go_wp2_with fail
          go_loopw [5] (fun v5 wr => ∃ m : Nat, m ≤ n ∧ v5 = .int .i64 ((a + m : Nat) : Int) ∧ Below w.heap.size w wr) (fun v5 _ => a + n - (intOf v5).toNat)
          case atStart => exact ⟨0, Nat.zero_le _, rfl, HB4.out⟩
          case round =>
            obtain ⟨m, hmn, rfl, hbw4⟩ := hrel
            have HB5 := Lib.hid hbw4
            obtain ⟨ad, rfl, q⟩ := (H.out.below hbw4) (a + m) (by omega)
            have hy0 := H0.out (l.getD (a + m) 0) (by rw [List.getD_eq_getElem?_getD, List.getElem?_eq_getElem (by omega)]; exact List.getElem_mem _)
            obtain ⟨y, hy⟩ : ∃ y, y = l.getD (a + m) 0 := ⟨_, rfl⟩
            rw [← hy] at q hy0
            have HY := Lib.hid hy
            have hyS : y ≤ 1114111 := by
              have := HS.out y (by rw [hy, List.getD_eq_getElem?_getD, List.getElem?_eq_getElem (by omega)]; exact List.getElem_mem _)
              exact (isB_iff.1 this.2).1
            have hlta : decide (((a + m : Nat) : Int) < (l.length : Int)) = true := by simp; omega
            clear hbw4 hy
            by_cases hlm : m < n
            · have hnk := HNo.out m hlm
              rw [← HY.out] at hnk
              by_cases hy32 : 32 < y
              · clear hnk
                go_wp2_with fail
                go_roundw
                case rel => exact ⟨m + 1, hlm, by go_num, HB5.out⟩
                case measure => simp [intOf]; omega
              · have hw8 : IntKind.u8.wrap y = y := by rw [IntKind.wrap_u8]; omega
                have hky := kept_calls2 y wr
                rw [hnk] at hky
                have HKy := Lib.hid hky
                clear hnk hky
                go_wp2_with fail
                refine HKy.out.mono ?_
                rintro e w6 ⟨rfl, hb6⟩
                have HB6 := Lib.hid (HB5.out.trans (Below.mono hb6 HB5.out.size))
                clear hb6
                go_wp2_with fail
                go_roundw
                case rel => exact ⟨m + 1, hlm, by go_num, HB6.out⟩
                case measure => simp [intOf]; omega
            · obtain rfl : m = n := by omega
              obtain rfl : y = x := by rw [HY.out, HLa.out]
              have hw8 : IntKind.u8.wrap y = y := by rw [IntKind.wrap_u8]; omega
              have hky := kept_calls2 y wr
              rw [HKx.out] at hky
              have HKy := Lib.hid hky
              clear hky hlm
              go_wp2_with fail
              refine HKy.out.mono ?_
              rintro e w6 ⟨rfl, hb6⟩
              have HB6 := Lib.hid (HB5.out.trans (Below.mono hb6 HB5.out.size))
              have q6 : w6.cell? (ad.add (a + m)) = some (.int .u32 y) := (hb6.cell (p := ad.add (a + m)) (World.block_lt_of_cell? _ _ q)).trans q
              clear hb6 q
              go_wp2_with fail
              have hw32 : IntKind.u32.wrap y = y := by rw [IntKind.wrap_u32]; omega
              have hlt' : (l.take (a + m)).length = a + m := by rw [List.length_take]; omega
              have hen := fun (wz : World) (hz : Below w.heap.size w wz) => lenc_calls (c := 8) (encOK_all (.inr rfl)) (w := wz) (A := some ad) (cap := c) (l := l.take (a + m)) ((H.out.below hz).take _) (HS.out.take _) (by omega) (fun h => nomatch h)
              rw [hlt', show encS 8 (l.take (a + m)) = told bocuB bocuN 64 (l.take (a + m)) from rfl, HFr.out, ← HSe.out] at hen
              have hext := str_extract S 0 i
              rw [List.drop_zero, Nat.sub_zero, ← HT.out] at hext
              obtain ⟨F, hF⟩ : ∃ F, F = strOfNums (S.take i) := ⟨_, rfl⟩
              rw [← hF] at hext
              unfold EncLPost at hen
              rw [← hF] at hen
              have HEn := Lib.hid hen
              have HExt := Lib.hid hext
              clear hen hlt' hF hext
              have htn : ((a : Int) + (m : Int)).toNat = a + m := by omega
              have ht0 : (0 : Int) ≤ (a : Int) + (m : Int) := by omega
              have ht1 : (a : Int) + (m : Int) < (l.length : Int) := by omega
              go_quiet (fail)
              go_wp2_with fail
              refine (HEn.out _ (below_drewN HB6.out _)).mono ?_
              rintro e w7 ⟨rfl, hb7⟩
              have HB7 := Lib.hid ((below_drewN HB6.out nq).trans (Below.mono hb7 (below_drewN HB6.out nq).size))
              have hext := HExt.out
              clear hb7
              go_wp2_with fail
              go_roundw
              case rel => exact ⟨i + 1, a + m + 1, by go_num, by go_num, HKn.out, HB7.out⟩
              case measure => simp [intOf]; omega
      · obtain rfl : i = T.size := by omega
        have HDone := Lib.hid (KInv.done (l := l) (at_ := a) (by rw [← HSe.out, ← HTs.out]; exact HK.out) HS.out)
        clear hlt hile
        go_wp2_with fail
        go_loopw [5] (fun v5 wr' => ∃ m : Nat, a ≤ m ∧ m ≤ l.length ∧ v5 = .int .i64 (m : Int) ∧ Below w.heap.size w wr') (fun v5 _ => l.length - (intOf v5).toNat)
        case atStart => exact ⟨a, Nat.le_refl _, hale, rfl, HBw.out⟩
        case round =>
          obtain ⟨m, ham, hml, rfl, hbw4⟩ := hrel
          have HB5 := Lib.hid hbw4
          by_cases hlm : m < l.length
          · obtain ⟨ad, rfl, q⟩ := (H.out.below hbw4) m hlm
            have hy0 := H0.out (l.getD m 0) (by rw [List.getD_eq_getElem?_getD, List.getElem?_eq_getElem hlm]; exact List.getElem_mem _)
            have hnk := HDone.out m ham hlm
            generalize l.getD m 0 = y at q hy0 hnk
            clear hbw4
            by_cases hy32 : y ≤ 32
            · have hw8 : IntKind.u8.wrap y = y := by rw [IntKind.wrap_u8]; omega
              have hky := kept_calls2 y wr
              rw [hnk] at hky
              have HKy := Lib.hid hky
              clear hnk hky
              go_wp2_with fail
              refine HKy.out.mono ?_
              rintro e w6 ⟨rfl, hb6⟩
              have HB6 := Lib.hid (HB5.out.trans (Below.mono hb6 HB5.out.size))
              clear hb6
              go_wp2_with fail
              go_roundw
              case rel => exact ⟨m + 1, by omega, by omega, by go_num, HB6.out⟩
              case measure => simp [intOf]; omega
            · clear hnk
              go_wp2_with fail
              go_roundw
              case rel => exact ⟨m + 1, by omega, by omega, by go_num, HB5.out⟩
              case measure => simp [intOf]; omega
          · obtain rfl : m = l.length := by omega
            go_wp2_with fail
            go_ret
            exact ⟨rfl, HB5.out⟩
end Go.Proofs.YtooiooledeblmaaGreat.Dcd
end
section
set_option linter.unusedVariables false
namespace Go.Proofs.YtooiooledeblmaaGreat.Open
open Go.ChangeShapes Go.WideShapes Go.RowKit Go.Proofs.YtooiooledeblmaaGreatW.PrintWords
section
variable {H : Type} {enc : TypeId × Value → H} {P : Program} {W : World} {base : Nat} {spare : Nat → Bool} {held : Bool}
theorem arg_nil {t e : TypeId} (ht : P.underlying t = some (.slice e)) {a : Option Addr} {len cap : Nat} {y : DataW H} {ps : List MemPlace} (h : DataW.Trod enc P W base spare held t (.slice a len cap) y ps) : a = none → cap = 0 := by
  obtain ⟨fuel, hf⟩ := h
  rcases Deep.open_slice ht hf with ⟨hcs, _⟩ | ⟨x, l, c, m, n, D, Pl, hcs, _⟩
  · simp [Value.cells] at hcs
    exact fun _ => hcs.2.2
  · simp [Value.cells] at hcs
    intro h
    rw [h] at hcs
    cases hcs.1
end
end Go.Proofs.YtooiooledeblmaaGreat.Open
namespace Go.Proofs.YtooiooledeblmaaGreat.Dcd
open Go.RowKit Go.Proofs.YtooiooledeblmaaGreat.Win Go.Proofs.YtooiooledeblmaaGreat.Stp Go.Proofs.YtooiooledeblmaaGreat.Out Go.Proofs.YtooiooledeblmaaGreat.Lst Go.Proofs.YtooiooledeblmaaGreatW.PrintWords
theorem lst_arg {w : World} {k : IntKind} {A : Option Addr} {n : Nat} {l : List Int} (h : (Kd.int k).C w A n l) : Lst w k A l := fun j hj => by
  obtain ⟨h1, h2, h3⟩ := h
  obtain ⟨ad, rfl, hc⟩ := h3 (by omega)
  obtain ⟨c, hl, hK, hcell⟩ := hc j _ (List.getElem?_eq_getElem hj)
  refine ⟨ad, rfl, ?_⟩
  have hs : (Kd.int k).sz = 1 := rfl
  rw [hs] at hcell
  have hc1 : c = [.int k l[j]] := hK
  subst hc1
  have := hcell 0 _ rfl
  rw [Nat.mul_one, Nat.add_zero] at this
  rw [this, List.getD_eq_getElem?_getD, List.getElem?_eq_getElem hj]
  rfl
theorem u32_pos {l : List Int} (hg : ∀ x ∈ l, (Lit.int .u32 x).wf = true) : ∀ x ∈ l, 0 ≤ x := by
  intro x hx
  have := hg x hx
  simp [Lit.wf, IntKind.min, IntKind.max, IntKind.signed, IntKind.bits] at this
  omega
theorem topKept_row (A : Option Addr) (c : Nat) (l : List Int) (w : World) (hr : (Kd.int .u32).C w A l.length l) (hc : l.length ≤ c) (hm : l.length ≤ maxLen) (hg : ∀ x ∈ l, (Lit.int .u32 x).wf = true) (hn : A = none → c = 0) :
    Calls Tryz.prog 5 #[.slice A l.length c] w fun e w' => e = .returned (.bool true) ∧ Below w.heap.size w w' :=
  kept_law (lst_arg hr) (u32_pos hg) hc hn hm
end Go.Proofs.YtooiooledeblmaaGreat.Dcd
end
