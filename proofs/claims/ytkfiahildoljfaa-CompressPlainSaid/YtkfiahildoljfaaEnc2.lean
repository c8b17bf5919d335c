/- The compressor: what it asks of a scalar. -/
import Derived.Test.YtkfiahildoljfaaEnc
import Derived.Laws.BitsAllLaws
import Derived.Test.YtkfiahildoljfaaWMore
namespace Go.Proofs.Ytkfiahildoljfaa.Enc
open Go.RowKit Go.Proofs.Ytkfiahildoljfaa.Win Go.Proofs.Ytkfiahildoljfaa.Stp Go.Proofs.YtkfiahildoljfaaW.PrintMore
set_option linter.unusedVariables false
set_option linter.unusedSimpArgs false
attribute [local go_sem] max2_int min2_int max_two min_two
def passB (c : Int) : Bool := (decide (32 ≤ c) && decide (c < 128)) || decide (c = 0) || decide (c = 9) || decide (c = 10) || decide (c = 13)
theorem passB_iff {c : Int} : passB c = true ↔ (32 ≤ c ∧ c < 128) ∨ c = 0 ∨ c = 9 ∨ c = 10 ∨ c = 13 := by
  unfold passB
  simp
  omega
def tagB (c : Int) : Bool := decide (57344 ≤ c) && decide (c ≤ 62207)
def easyB (o : List Int) (c : Int) : Bool := (wFind o c).2 || decide (c < 128)
def softB (o : List Int) (d : Int) : Bool := (d == 2147483648) || easyB o d
def ownC (c : Int) : Int × Bool := if 65536 ≤ c then (c / 128 * 128, true) else ((wOffset (wIndex c).1).1, (wIndex c).2)
def twinsB (c d : Int) : Bool := (ownC c).2 && (d != 2147483648) && hld (ownC c).1 d
theorem andNot127 (c : Nat) (h : c < 4294967296) : c &&& 4294967168 = c / 128 * 128 := by
  have e1 : (4294967168 : Nat) = (2 ^ 25 - 1) <<< 7 := by decide
  have e2 : c / 128 * 128 = (c >>> 7) <<< 7 := by rw [Nat.shiftRight_eq_div_pow, Nat.shiftLeft_eq]
  apply Nat.eq_of_testBit_eq
  intro i
  rw [Nat.testBit_and, e1, e2, Nat.testBit_shiftLeft, Nat.testBit_shiftLeft, Nat.testBit_two_pow_sub_one, Nat.testBit_shiftRight]
  by_cases h7 : 7 ≤ i
  · have e3 : 7 + (i - 7) = i := by omega
    rw [e3]
    by_cases h32 : i < 32
    · simp [h7, show i - 7 < 25 by omega]
    · have : c.testBit i = false := Nat.testBit_lt_two_pow (Nat.lt_of_lt_of_le h (Nat.pow_le_pow_right (n := 2) (i := 32) (by decide) (by omega)))
      simp [this]
  · simp [h7]
theorem andNot_int (c : Int) (h0 : 0 ≤ c) (h1 : c < 4294967296) : bits .andNot .u32 c 127 = c / 128 * 128 := by
  rw [u32_andNot c 127 h0 h1 (by decide) (by decide)]
  have := andNot127 c.toNat (by omega)
  simp only [show (127 : Int).toNat = 127 from rfl, show 4294967295 - 127 = 4294967168 from rfl]
  rw [this]
  omega
theorem passes_calls (c : Int) (w : World) : Calls Try.prog 55 #[.int .u32 c] w fun e w' => e = .returned (.bool (passB c)) ∧ w = w' := by
  by_cases h : (32 ≤ c ∧ c < 128) ∨ c = 0 ∨ c = 9 ∨ c = 10 ∨ c = 13
  · rw [passB_iff.2 h]
    have hcs : (32 ≤ c ∧ c < 128) ∨ (c < 32 ∧ c = 0) ∨ (c < 32 ∧ c = 9) ∨ (c < 32 ∧ c = 10) ∨ (c < 32 ∧ c = 13) := by omega
    clear h
    rcases hcs with ⟨h1, h2⟩ | ⟨h1, rfl⟩ | ⟨h1, rfl⟩ | ⟨h1, rfl⟩ | ⟨h1, rfl⟩
    all_goals
      go_enter Try.func55, Try.ntmps55
      go_wp2
      go_ret
      exact ⟨rfl, rfl⟩
  · have e : passB c = false := by rw [← Bool.not_eq_true, passB_iff]; exact h
    rw [e]
    have k0 : (c == 0) = false := by rw [beq_eq_false_iff_ne]; omega
    have k9 : (c == 9) = false := by rw [beq_eq_false_iff_ne]; omega
    have k10 : (c == 10) = false := by rw [beq_eq_false_iff_ne]; omega
    have k13 : (c == 13) = false := by rw [beq_eq_false_iff_ne]; omega
    have hcs : c < 32 ∨ (32 ≤ c ∧ 128 ≤ c) := by omega
    clear h e
    rcases hcs with h1 | ⟨h1, h2⟩
    all_goals
      go_enter Try.func55, Try.ntmps55
      go_wp2
      go_ret
      first
      | exact ⟨rfl, rfl⟩
      | (refine ⟨?_, rfl⟩; simp [k0, k9, k10, k13]; done)
      | (refine ⟨?_, rfl⟩; simp; omega)
theorem tagged_calls (c : Int) (w : World) : Calls Try.prog 54 #[.int .u32 c] w fun e w' => e = .returned (.bool (tagB c)) ∧ w = w' := by
  unfold tagB
  by_cases h1 : 57344 ≤ c
  · go_enter Try.func54, Try.ntmps54
    go_wp2
    go_ret
    exact ⟨by simp [h1], rfl⟩
  · go_enter Try.func54, Try.ntmps54
    go_wp2
    go_ret
    refine ⟨?_, rfl⟩
    rw [decide_eq_false (by omega)]
    rfl
section
variable {w : World} {g gw : Nat} {b : B4} {l : List Int} {m : E}
theorem easy_calls (c : Int) (h : EncAt w g gw b l m) (hr : Rng m.o) (h0 : 0 ≤ c) (h1 : c ≤ 4294967295) : Calls Try.prog 43 #[.pointer (some ⟨g, 0, none⟩), .int .u32 c] w fun e w' => e = .returned (.bool (easyB m.o c)) ∧ w = w' := by
  have h6 := h.c6
  have HF := Lib.hid (find_calls gw m.o m.u c w h.win hr h0 h1)
  unfold easyB
  clear h
  generalize wFind m.o c = r at HF ⊢
  obtain ⟨n, x⟩ := r
  cases x
  all_goals
    go_enter Try.func43, Try.ntmps43
    go_wp2_with (go_at_call 45; refine HF.out.mono ?_; rintro e w1 ⟨rfl, rfl⟩)
    go_ret
    exact ⟨by simp, rfl⟩
theorem soft_calls (d : Int) (h : EncAt w g gw b l m) (hr : Rng m.o) (h0 : 0 ≤ d) (h1 : d ≤ 4294967295) : Calls Try.prog 44 #[.pointer (some ⟨g, 0, none⟩), .int .u32 d] w fun e w' => e = .returned (.bool (softB m.o d)) ∧ w = w' := by
  have HE := Lib.hid (easy_calls d h hr h0 h1)
  unfold softB
  clear h
  cases hd : (d == 2147483648)
  · go_enter Try.func44, Try.ntmps44
    go_wp2_with (go_at_call 43; refine HE.out.mono ?_; rintro e w1 ⟨rfl, rfl⟩)
    go_ret
    exact ⟨by simp, rfl⟩
  · go_enter Try.func44, Try.ntmps44
    go_wp2_with (go_at_call 43; refine HE.out.mono ?_; rintro e w1 ⟨rfl, rfl⟩)
    go_ret
    exact ⟨by simp, rfl⟩
end
theorem idxFrom_lt {c : Int} : ∀ {l : List Int} {k n : Nat}, idxFrom c k l = some n → n < k + l.length
  | [], k, n, h => by cases h
  | x :: l, k, n, h => by
    unfold idxFrom at h
    split at h
    · injection h with h
      rw [← h, List.length_cons]; omega
    · have := idxFrom_lt h
      rw [List.length_cons]; omega
theorem idx_rng {c : Int} (h0 : 0 ≤ c) (h1 : c ≤ 4294967295) : 0 ≤ (wIndex c).1 ∧ (wIndex c).1 ≤ 255 := by
  unfold wIndex
  split
  · rename_i n hn
    have := idxFrom_lt hn
    have h7 : specials.length = 7 := rfl
    simp only
    omega
  · split
    · simp only; omega
    · split
      · simp only; omega
      · simp
def OwnPost (w : World) (c : Int) (e : Ending) (w' : World) : Prop := e = .returned (.tuple #[.int .u32 (ownC c).1, .bool (ownC c).2]) ∧ Below w.heap.size w w'
theorem own_calls (c : Int) (w : World) (h0 : 0 ≤ c) (h1 : c ≤ 4294967295) : Calls Try.prog 61 #[.int .u32 c] w (OwnPost w c) := by
  unfold OwnPost ownC
  by_cases hc : 65536 ≤ c
  · have e := andNot_int c h0 (by omega)
    rw [if_pos hc]
    go_enter Try.func61, Try.ntmps61
    go_wp2
    go_ret2
    exact ⟨rfl, Below.refl _ _⟩
  · rw [if_neg hc]
    have hr := idx_rng h0 h1
    have HI := Lib.hid (index_calls c w h0 h1)
    generalize wIndex c = r at hr HI ⊢
    obtain ⟨x, ok⟩ := r
    simp only at hr
    have HO := Lib.hid (fun w => offset_calls x w hr.1 hr.2)
    generalize wOffset x = r at HO ⊢
    obtain ⟨o, ok2⟩ := r
    clear hr
    go_enter Try.func61, Try.ntmps61
    go_wp2_with fail
    refine HI.out.mono ?_
    rintro e w1 ⟨rfl, hb⟩
    have HB := Lib.hid hb
    clear hb
    go_wp2_with fail
    refine (HO.out _).mono ?_
    rintro e w2 ⟨rfl, hb⟩
    have HB2 := Lib.hid hb
    clear hb
    go_wp2_with fail
    go_ret2
    exact ⟨rfl, HB.out.trans ⟨HB2.out.os, HB2.out.tape, HB2.out.output, HB2.out.size, fun i hi => HB2.out.block i (Nat.lt_of_lt_of_le hi HB.out.size)⟩⟩
end Go.Proofs.Ytkfiahildoljfaa.Enc
