/- The tables of the windows: the static ones, the indexes. -/
import Derived.Test.YtnkinbfglenddaaWin2
namespace Go.Proofs.Ytnkinbfglenddaa.Win
open Go.RowKit
set_option linter.unusedVariables false
set_option linter.unusedSimpArgs false
def specials : List Int := [192, 592, 880, 1328, 12352, 12448, 65376]
theorem special_calls (w : World) : Calls Try.prog 58 #[] w fun e w' => e = .returned (.agg #[.int .u32 192, .int .u32 592, .int .u32 880, .int .u32 1328, .int .u32 12352, .int .u32 12448, .int .u32 65376]) ∧ Below w.heap.size w w' := by
  go_enter Try.func58, Try.ntmps58
  go_wp2
  exact bodyPost_ret (v := .agg #[.int .u32 192, .int .u32 592, .int .u32 880, .int .u32 1328, .int .u32 12352, .int .u32 12448, .int .u32 65376]) (by simp [results, Try.results58, go_sem]) rfl ⟨rfl, (Below.refl _ _).alloc (Nat.le_refl _) _⟩
def statics : List Int := [0, 128, 256, 768, 8192, 8320, 8448, 12288]
def wStatic (n : Int) : Int × Bool := if 0 ≤ n ∧ n < 8 then (statics.getD n.toNat 0, true) else (0, false)
theorem static_calls (n : Int) (w : World) : Calls Try.prog 47 #[.int .i64 n] w fun e w' => e = .returned (.tuple #[.int .u32 (wStatic n).1, .bool (wStatic n).2]) ∧ w = w' := by
  by_cases hn : 0 ≤ n ∧ n < 8
  · have h8 : n = 0 ∨ n = 1 ∨ n = 2 ∨ n = 3 ∨ n = 4 ∨ n = 5 ∨ n = 6 ∨ n = 7 := by omega
    clear hn
    rcases h8 with rfl | rfl | rfl | rfl | rfl | rfl | rfl | rfl
    · have ix : ∀ w : World, (Instr.index 78 (.agg #[.int .u32 0, .int .u32 128, .int .u32 256, .int .u32 768, .int .u32 8192, .int .u32 8320, .int .u32 8448, .int .u32 12288]) (.int .i64 0)).run Try.prog w = .ok (.int .u32 0) w := fun _ => by kernel_rfl
      go_enter Try.func47, Try.ntmps47
      go_wp2
      go_ret2
      exact ⟨rfl, rfl⟩
    · have ix : ∀ w : World, (Instr.index 78 (.agg #[.int .u32 0, .int .u32 128, .int .u32 256, .int .u32 768, .int .u32 8192, .int .u32 8320, .int .u32 8448, .int .u32 12288]) (.int .i64 1)).run Try.prog w = .ok (.int .u32 128) w := fun _ => by kernel_rfl
      go_enter Try.func47, Try.ntmps47
      go_wp2
      go_ret2
      exact ⟨rfl, rfl⟩
    · have ix : ∀ w : World, (Instr.index 78 (.agg #[.int .u32 0, .int .u32 128, .int .u32 256, .int .u32 768, .int .u32 8192, .int .u32 8320, .int .u32 8448, .int .u32 12288]) (.int .i64 2)).run Try.prog w = .ok (.int .u32 256) w := fun _ => by kernel_rfl
      go_enter Try.func47, Try.ntmps47
      go_wp2
      go_ret2
      exact ⟨rfl, rfl⟩
    · have ix : ∀ w : World, (Instr.index 78 (.agg #[.int .u32 0, .int .u32 128, .int .u32 256, .int .u32 768, .int .u32 8192, .int .u32 8320, .int .u32 8448, .int .u32 12288]) (.int .i64 3)).run Try.prog w = .ok (.int .u32 768) w := fun _ => by kernel_rfl
      go_enter Try.func47, Try.ntmps47
      go_wp2
      go_ret2
      exact ⟨rfl, rfl⟩
    · have ix : ∀ w : World, (Instr.index 78 (.agg #[.int .u32 0, .int .u32 128, .int .u32 256, .int .u32 768, .int .u32 8192, .int .u32 8320, .int .u32 8448, .int .u32 12288]) (.int .i64 4)).run Try.prog w = .ok (.int .u32 8192) w := fun _ => by kernel_rfl
      go_enter Try.func47, Try.ntmps47
      go_wp2
      go_ret2
      exact ⟨rfl, rfl⟩
    · have ix : ∀ w : World, (Instr.index 78 (.agg #[.int .u32 0, .int .u32 128, .int .u32 256, .int .u32 768, .int .u32 8192, .int .u32 8320, .int .u32 8448, .int .u32 12288]) (.int .i64 5)).run Try.prog w = .ok (.int .u32 8320) w := fun _ => by kernel_rfl
      go_enter Try.func47, Try.ntmps47
      go_wp2
      go_ret2
      exact ⟨rfl, rfl⟩
    · have ix : ∀ w : World, (Instr.index 78 (.agg #[.int .u32 0, .int .u32 128, .int .u32 256, .int .u32 768, .int .u32 8192, .int .u32 8320, .int .u32 8448, .int .u32 12288]) (.int .i64 6)).run Try.prog w = .ok (.int .u32 8448) w := fun _ => by kernel_rfl
      go_enter Try.func47, Try.ntmps47
      go_wp2
      go_ret2
      exact ⟨rfl, rfl⟩
    · have ix : ∀ w : World, (Instr.index 78 (.agg #[.int .u32 0, .int .u32 128, .int .u32 256, .int .u32 768, .int .u32 8192, .int .u32 8320, .int .u32 8448, .int .u32 12288]) (.int .i64 7)).run Try.prog w = .ok (.int .u32 12288) w := fun _ => by kernel_rfl
      go_enter Try.func47, Try.ntmps47
      go_wp2
      go_ret2
      exact ⟨rfl, rfl⟩
  · have he : wStatic n = (0, false) := by unfold wStatic; rw [if_neg hn]
    rw [he]
    clear he
    by_cases h0 : 0 ≤ n
    · have h1 : ¬ n < 8 := by omega
      clear hn
      go_enter Try.func47, Try.ntmps47
      go_wp2
      go_ret2
      exact ⟨rfl, rfl⟩
    · clear hn
      go_enter Try.func47, Try.ntmps47
      go_wp2
      go_ret2
      exact ⟨rfl, rfl⟩
def wOffset (x : Int) : Int × Bool := if x = 0 ∨ 167 < x ∧ x < 249 then (0, false) else if x ≤ 103 then (x * 128, true) else if x ≤ 167 then (x * 128 + 44032, true) else (specials.getD (x - 249).toNat 0, true)
set_option maxHeartbeats 1000000 in
theorem offset_calls (x : Int) (w : World) (h0 : 0 ≤ x) (h1 : x ≤ 255) : Calls Try.prog 50 #[.int .u8 x] w fun e w' => e = .returned (.tuple #[.int .u32 (wOffset x).1, .bool (wOffset x).2]) ∧ Below w.heap.size w w' := by
  by_cases ha : x = 0
  · subst ha
    go_enter Try.func50, Try.ntmps50
    go_wp2
    go_ret2
    exact ⟨rfl, Below.refl _ _⟩
  by_cases hb : 167 < x ∧ x < 249
  · have he : wOffset x = (0, false) := by unfold wOffset; rw [if_pos (.inr hb)]
    rw [he]
    have e0 : (x == 0) = false := by simpa using ha
    obtain ⟨hb1, hb2⟩ := hb
    clear he ha
    go_enter Try.func50, Try.ntmps50
    go_wp2
    go_ret2
    exact ⟨rfl, Below.refl _ _⟩
  by_cases hc : x ≤ 103
  · have he : wOffset x = (x * 128, true) := by unfold wOffset; rw [if_neg (by omega), if_pos hc]
    rw [he]
    have e0 : (x == 0) = false := by simpa using ha
    have hb1 : ¬ 167 < x := by omega
    clear he ha hb
    go_enter Try.func50, Try.ntmps50
    go_wp2
    go_ret2
    exact ⟨by first | (simp; done) | (simp; omega), Below.refl _ _⟩
  by_cases hd : x ≤ 167
  · have he : wOffset x = (x * 128 + 44032, true) := by unfold wOffset; rw [if_neg (by omega), if_neg hc, if_pos hd]
    rw [he]
    have e0 : (x == 0) = false := by simpa using ha
    have hb1 : ¬ 167 < x := by omega
    clear he ha hb
    go_enter Try.func50, Try.ntmps50
    go_wp2
    go_ret2
    exact ⟨by first | (simp; done) | (simp; omega), Below.refl _ _⟩
  have h7 : x = 249 ∨ x = 250 ∨ x = 251 ∨ x = 252 ∨ x = 253 ∨ x = 254 ∨ x = 255 := by omega
  clear ha hb hc hd h0 h1
  rcases h7 with rfl | rfl | rfl | rfl | rfl | rfl | rfl
  · have ix : ∀ w : World, (Instr.index 97 (.agg #[.int .u32 192, .int .u32 592, .int .u32 880, .int .u32 1328, .int .u32 12352, .int .u32 12448, .int .u32 65376]) (.int .u32 0)).run Try.prog w = .ok (.int .u32 192) w := fun _ => by kernel_rfl
    go_enter Try.func50, Try.ntmps50
    go_wp2_with (go_at_call 58; refine (special_calls _).mono ?_; rintro e w1 ⟨rfl, hB⟩)
    go_ret2
    exact ⟨rfl, by assumption⟩
  · have ix : ∀ w : World, (Instr.index 97 (.agg #[.int .u32 192, .int .u32 592, .int .u32 880, .int .u32 1328, .int .u32 12352, .int .u32 12448, .int .u32 65376]) (.int .u32 1)).run Try.prog w = .ok (.int .u32 592) w := fun _ => by kernel_rfl
    go_enter Try.func50, Try.ntmps50
    go_wp2_with (go_at_call 58; refine (special_calls _).mono ?_; rintro e w1 ⟨rfl, hB⟩)
    go_ret2
    exact ⟨rfl, by assumption⟩
  · have ix : ∀ w : World, (Instr.index 97 (.agg #[.int .u32 192, .int .u32 592, .int .u32 880, .int .u32 1328, .int .u32 12352, .int .u32 12448, .int .u32 65376]) (.int .u32 2)).run Try.prog w = .ok (.int .u32 880) w := fun _ => by kernel_rfl
    go_enter Try.func50, Try.ntmps50
    go_wp2_with (go_at_call 58; refine (special_calls _).mono ?_; rintro e w1 ⟨rfl, hB⟩)
    go_ret2
    exact ⟨rfl, by assumption⟩
  · have ix : ∀ w : World, (Instr.index 97 (.agg #[.int .u32 192, .int .u32 592, .int .u32 880, .int .u32 1328, .int .u32 12352, .int .u32 12448, .int .u32 65376]) (.int .u32 3)).run Try.prog w = .ok (.int .u32 1328) w := fun _ => by kernel_rfl
    go_enter Try.func50, Try.ntmps50
    go_wp2_with (go_at_call 58; refine (special_calls _).mono ?_; rintro e w1 ⟨rfl, hB⟩)
    go_ret2
    exact ⟨rfl, by assumption⟩
  · have ix : ∀ w : World, (Instr.index 97 (.agg #[.int .u32 192, .int .u32 592, .int .u32 880, .int .u32 1328, .int .u32 12352, .int .u32 12448, .int .u32 65376]) (.int .u32 4)).run Try.prog w = .ok (.int .u32 12352) w := fun _ => by kernel_rfl
    go_enter Try.func50, Try.ntmps50
    go_wp2_with (go_at_call 58; refine (special_calls _).mono ?_; rintro e w1 ⟨rfl, hB⟩)
    go_ret2
    exact ⟨rfl, by assumption⟩
  · have ix : ∀ w : World, (Instr.index 97 (.agg #[.int .u32 192, .int .u32 592, .int .u32 880, .int .u32 1328, .int .u32 12352, .int .u32 12448, .int .u32 65376]) (.int .u32 5)).run Try.prog w = .ok (.int .u32 12448) w := fun _ => by kernel_rfl
    go_enter Try.func50, Try.ntmps50
    go_wp2_with (go_at_call 58; refine (special_calls _).mono ?_; rintro e w1 ⟨rfl, hB⟩)
    go_ret2
    exact ⟨rfl, by assumption⟩
  · have ix : ∀ w : World, (Instr.index 97 (.agg #[.int .u32 192, .int .u32 592, .int .u32 880, .int .u32 1328, .int .u32 12352, .int .u32 12448, .int .u32 65376]) (.int .u32 6)).run Try.prog w = .ok (.int .u32 65376) w := fun _ => by kernel_rfl
    go_enter Try.func50, Try.ntmps50
    go_wp2_with (go_at_call 58; refine (special_calls _).mono ?_; rintro e w1 ⟨rfl, hB⟩)
    go_ret2
    exact ⟨rfl, by assumption⟩
def idxFrom (c : Int) : Nat → List Int → Option Nat
  | _, [] => none
  | n, x :: l => if hld x c = true then some n else idxFrom c (n + 1) l
def wIndex (c : Int) : Int × Bool := match idxFrom c 0 specials with
  | some n => (249 + (n : Int), true)
  | none => if 128 ≤ c ∧ c < 13312 then (c / 128, true) else if 57344 ≤ c ∧ c < 65536 then ((c - 44032) / 128, true) else (0, false)
end Go.Proofs.Ytnkinbfglenddaa.Win
