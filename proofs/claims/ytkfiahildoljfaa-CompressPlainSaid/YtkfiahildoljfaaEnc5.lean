/- The compressor: a static window, the Unicode mode's beginning, a window laid. -/
import Derived.Test.YtkfiahildoljfaaEnc4
namespace Go.Proofs.Ytkfiahildoljfaa.Enc
open Go.RowKit Go.Proofs.Ytkfiahildoljfaa.Win Go.Proofs.Ytkfiahildoljfaa.Stp Go.Proofs.YtkfiahildoljfaaW.PrintMore
set_option linter.unusedVariables false
set_option linter.unusedSimpArgs false
attribute [local go_sem] max2_int min2_int max_two min_two
theorem hld_iff {o c : Int} : hld o c = true ↔ o ≤ c ∧ c - o < 128 := by unfold hld; simp
theorem idxFrom_hld {c : Int} : ∀ {l : List Int} {k n : Nat}, idxFrom c k l = some n → k ≤ n ∧ hld (l.getD (n - k) 0) c = true
  | [], k, n, h => by cases h
  | x :: l, k, n, h => by
    unfold idxFrom at h
    split at h
    · injection h with h
      subst h
      rename_i hx
      exact ⟨Nat.le_refl _, by rw [Nat.sub_self]; exact hx⟩
    · obtain ⟨h1, h2⟩ := idxFrom_hld h
      refine ⟨by omega, ?_⟩
      have : n - k = n - (k + 1) + 1 := by omega
      rw [this]
      exact h2
theorem index_own {c : Int} (h0 : 0 ≤ c) (h : (wIndex c).2 = true) : hld (wOffset (wIndex c).1).1 c = true ∧ (wOffset (wIndex c).1).2 = true := by
  unfold wIndex at h ⊢
  cases hi : idxFrom c 0 specials with
  | some n =>
    have h1 := (idxFrom_hld hi).2
    have h2 := idxFrom_lt hi
    have h7 : specials.length = 7 := rfl
    rw [h7] at h2
    rw [Nat.sub_zero] at h1
    simp only
    have key : ∀ n : Fin 7, wOffset (249 + (n.val : Int)) = (specials.getD n.val 0, true) := by decide +kernel
    have := key ⟨n, by omega⟩
    simp only at this
    rw [this]
    exact ⟨h1, rfl⟩
  | none =>
    rw [hi] at h
    simp only at h ⊢
    by_cases h1 : 128 ≤ c ∧ c < 13312
    · rw [if_pos h1]
      have : wOffset (c / 128) = (c / 128 * 128, true) := by
        unfold wOffset
        rw [if_neg (by omega), if_pos (by omega)]
      simp only [this]
      exact ⟨hld_iff.2 (by omega), by trivial⟩
    · rw [if_neg h1] at h ⊢
      by_cases h2 : 57344 ≤ c ∧ c < 65536
      · rw [if_pos h2]
        have : wOffset ((c - 44032) / 128) = ((c - 44032) / 128 * 128 + 44032, true) := by
          unfold wOffset
          rw [if_neg (by omega), if_neg (by omega), if_pos (by omega)]
        simp only [this]
        exact ⟨hld_iff.2 (by omega), by trivial⟩
      · rw [if_neg h2] at h
        cases h
theorem own_hld {c : Int} (h0 : 0 ≤ c) (h : (ownC c).2 = true) : hld (ownC c).1 c = true := by
  unfold ownC at h ⊢
  by_cases hc : 65536 ≤ c
  · rw [if_pos hc]
    exact hld_iff.2 (by simp only; omega)
  · rw [if_neg hc] at h ⊢
    exact (index_own h0 h).1
def staticC (c : Int) : Int × Int × Bool := if (findFrom c 1 (statics.drop 1)).2 = true then ((findFrom c 1 (statics.drop 1)).1, statics.getD (findFrom c 1 (statics.drop 1)).1.toNat 0, true) else (0, 0, false)
def StatRel (w : World) (c : Int) (i : Value) (wr : World) : Prop := ∃ k : Nat, 1 ≤ k ∧ k ≤ 8 ∧ i = .int .i64 k ∧ w = wr ∧ findFrom c 1 (statics.drop 1) = findFrom c k (statics.drop k)
theorem static_rng2 {k : Nat} (h : k < 8) : 0 ≤ statics.getD k 0 ∧ statics.getD k 0 ≤ 12288 := by
  match k with
  | 0 | 1 | 2 | 3 | 4 | 5 | 6 | 7 => decide
  | n + 8 => omega
theorem cstatic_calls (c : Int) (w : World) (h0 : 0 ≤ c) (h1 : c ≤ 4294967295) : Calls Try.prog 60 #[.int .u32 c] w fun e w' => e = .returned (.tuple #[.int .i64 (staticC c).1, .int .u32 (staticC c).2.1, .bool (staticC c).2.2]) ∧ w = w' := by
  obtain ⟨r, hr⟩ : ∃ r, r = staticC c := ⟨_, rfl⟩
  rw [← hr]
  obtain ⟨rn, ro, rb⟩ := r
  have HS := Lib.hid hr
  clear hr
  go_enter Try.func60, Try.ntmps60
  go_wp2_with fail
  go_loopw [5] (fun i wr => StatRel w c i wr) (fun i _ => 8 - (intOf i).toNat)
  case atStart => exact ⟨1, Nat.le_refl _, by decide, rfl, rfl, rfl⟩
  case round =>
    obtain ⟨k, hk1, hk8, rfl, rfl, hf⟩ := hrel
    by_cases hlt : k < 8
    · have hst := static_calls k
      have hw : wStatic k = (statics.getD k 0, true) := by
        unfold wStatic
        rw [if_pos (by omega)]
        simp
      rw [hw] at hst
      have hrg := static_rng2 hlt
      rw [find_step c statics k hlt] at hf
      obtain ⟨o, ho⟩ : ∃ o, o = statics.getD k 0 := ⟨_, rfl⟩
      rw [← ho] at hst hrg hf
      obtain ⟨r0, r1⟩ := hrg
      have hh := holds_calls o c
      have HST := Lib.hid hst
      cases hx : hld o c
      · rw [hx] at hf hh
        rw [if_neg (by decide)] at hf
        have HF := Lib.hid hf
        have HH := Lib.hid (fun w => hh w r0 (by omega) h0 h1)
        clear hst hf hh hx ho hw
        go_wp2_with (first | (go_at_call 68; refine (HST.out _).mono ?_; rintro e w1 ⟨rfl, rfl⟩) | (go_at_call 56; refine (HH.out _).mono ?_; rintro e w1 ⟨rfl, rfl⟩))
        go_roundw
        case rel => exact ⟨k + 1, by omega, hlt, by go_num, rfl, HF.out⟩
        case measure => simp [intOf]; omega
      · rw [hx] at hf hh
        rw [if_pos rfl] at hf
        have hv : staticC c = ((k : Int), o, true) := by
          unfold staticC
          rw [hf, ho]
          simp
        have HV := Lib.hid (HS.out.trans hv)
        have HH := Lib.hid (fun w => hh w r0 (by omega) h0 h1)
        clear hst hf hh hx ho hw hv
        go_wp2_with (first | (go_at_call 68; refine (HST.out _).mono ?_; rintro e w1 ⟨rfl, rfl⟩) | (go_at_call 56; refine (HH.out _).mono ?_; rintro e w1 ⟨rfl, rfl⟩))
        have hv := HV.out
        simp only [Prod.mk.injEq] at hv
        obtain ⟨rfl, rfl, rfl⟩ := hv
        exact bodyPost_ret (v := .tuple #[.int .i64 k, .int .u32 ro, .bool true]) (by simp [results, Try.results60, go_sem]) rfl ⟨rfl, rfl⟩
    · obtain rfl : k = 8 := by omega
      have hf2 : staticC c = (0, 0, false) := by
        unfold staticC
        rw [hf]
        rfl
      have HV := Lib.hid (HS.out.trans hf2)
      clear hf hf2
      go_wp2_with fail
      have hv := HV.out
      simp only [Prod.mk.injEq] at hv
      obtain ⟨rfl, rfl, rfl⟩ := hv
      exact bodyPost_ret (v := .tuple #[.int .i64 0, .int .u32 0, .bool false]) (by simp [results, Try.results60, go_sem]) rfl ⟨rfl, rfl⟩
section
variable {w : World} {g gw : Nat} {b : B4} {l : List Int} {m : E}
theorem double_calls (c : Int) (h : EncAt w g gw b l m) (h0 : 0 ≤ c) (h1 : c ≤ 1114111) (hl : l.length < 999999) :
    Calls Try.prog 41 #[.pointer (some ⟨g, 0, none⟩), .int .u32 c] w (KeepPost w g gw b (l ++ 15 :: unitsC c) { m with uni := true }) := by
  have HK := Lib.hid (keep_calls [15] h (by omega) (by simp))
  clear h
  go_enter Try.func41, Try.ntmps41
  go_wp2_with fail
  refine HK.out.mono ?_
  rintro e w1 ⟨rfl, hd, hc⟩
  have h7 := hd.c7
  have f7 := hd.fz 7
  have hs := hd.set 7 (.bool true) (b' := b) (l' := l ++ [15]) (m' := { m with uni := true }) rfl rfl rfl
  have HU := Lib.hid (units_calls c hs h0 h1 (by rw [List.length_append]; simp; omega))
  have HC := Lib.hid hc
  clear hd hc hs
  go_wp2_with fail
  refine HU.out.mono ?_
  rintro e w2 ⟨rfl, hd, hc⟩
  have HD := Lib.hid hd
  have HC2 := Lib.hid hc
  clear hd hc
  go_wp2_with fail
  go_end0
  refine ⟨rfl, ?_, (HC.out.trans (efs_g 7 _)).trans HC2.out⟩
  have := HD.out
  rw [List.append_assoc] at this
  exact this
end
end Go.Proofs.Ytkfiahildoljfaa.Enc
