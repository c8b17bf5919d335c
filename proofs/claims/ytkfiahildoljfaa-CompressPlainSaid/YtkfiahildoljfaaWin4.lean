/- The tables of the windows: the static ones, the indexes. -/
import Derived.Test.YtkfiahildoljfaaWin2
namespace Go.Proofs.Ytkfiahildoljfaa.Win
open Go.RowKit
set_option linter.unusedVariables false
set_option linter.unusedSimpArgs false
def specials : List Int := [192, 592, 880, 1328, 12352, 12448, 65376]
theorem special_calls (w : World) : Calls Try.prog 70 #[] w fun e w' => e = .returned (.agg #[.int .u32 192, .int .u32 592, .int .u32 880, .int .u32 1328, .int .u32 12352, .int .u32 12448, .int .u32 65376]) ∧ Below w.heap.size w w' := by
  go_enter Try.func70, Try.ntmps70
  go_wp2
  exact bodyPost_ret (v := .agg #[.int .u32 192, .int .u32 592, .int .u32 880, .int .u32 1328, .int .u32 12352, .int .u32 12448, .int .u32 65376]) (by simp [results, Try.results70, go_sem]) rfl ⟨rfl, (Below.refl _ _).alloc (Nat.le_refl _) _⟩
def statics : List Int := [0, 128, 256, 768, 8192, 8320, 8448, 12288]
def wStatic (n : Int) : Int × Bool := if 0 ≤ n ∧ n < 8 then (statics.getD n.toNat 0, true) else (0, false)
theorem static_calls (n : Int) (w : World) : Calls Try.prog 68 #[.int .i64 n] w fun e w' => e = .returned (.tuple #[.int .u32 (wStatic n).1, .bool (wStatic n).2]) ∧ w = w' := by
  by_cases hn : 0 ≤ n ∧ n < 8
  · have h8 : n = 0 ∨ n = 1 ∨ n = 2 ∨ n = 3 ∨ n = 4 ∨ n = 5 ∨ n = 6 ∨ n = 7 := by omega
    clear hn
    rcases h8 with rfl | rfl | rfl | rfl | rfl | rfl | rfl | rfl
    · have ix : ∀ w : World, (Instr.index 67 (.agg #[.int .u32 0, .int .u32 128, .int .u32 256, .int .u32 768, .int .u32 8192, .int .u32 8320, .int .u32 8448, .int .u32 12288]) (.int .i64 0)).run Try.prog w = .ok (.int .u32 0) w := fun _ => by kernel_rfl
      go_enter Try.func68, Try.ntmps68
      go_wp2
      go_ret2
      exact ⟨rfl, rfl⟩
    · have ix : ∀ w : World, (Instr.index 67 (.agg #[.int .u32 0, .int .u32 128, .int .u32 256, .int .u32 768, .int .u32 8192, .int .u32 8320, .int .u32 8448, .int .u32 12288]) (.int .i64 1)).run Try.prog w = .ok (.int .u32 128) w := fun _ => by kernel_rfl
      go_enter Try.func68, Try.ntmps68
      go_wp2
      go_ret2
      exact ⟨rfl, rfl⟩
    · have ix : ∀ w : World, (Instr.index 67 (.agg #[.int .u32 0, .int .u32 128, .int .u32 256, .int .u32 768, .int .u32 8192, .int .u32 8320, .int .u32 8448, .int .u32 12288]) (.int .i64 2)).run Try.prog w = .ok (.int .u32 256) w := fun _ => by kernel_rfl
      go_enter Try.func68, Try.ntmps68
      go_wp2
      go_ret2
      exact ⟨rfl, rfl⟩
    · have ix : ∀ w : World, (Instr.index 67 (.agg #[.int .u32 0, .int .u32 128, .int .u32 256, .int .u32 768, .int .u32 8192, .int .u32 8320, .int .u32 8448, .int .u32 12288]) (.int .i64 3)).run Try.prog w = .ok (.int .u32 768) w := fun _ => by kernel_rfl
      go_enter Try.func68, Try.ntmps68
      go_wp2
      go_ret2
      exact ⟨rfl, rfl⟩
    · have ix : ∀ w : World, (Instr.index 67 (.agg #[.int .u32 0, .int .u32 128, .int .u32 256, .int .u32 768, .int .u32 8192, .int .u32 8320, .int .u32 8448, .int .u32 12288]) (.int .i64 4)).run Try.prog w = .ok (.int .u32 8192) w := fun _ => by kernel_rfl
      go_enter Try.func68, Try.ntmps68
      go_wp2
      go_ret2
      exact ⟨rfl, rfl⟩
    · have ix : ∀ w : World, (Instr.index 67 (.agg #[.int .u32 0, .int .u32 128, .int .u32 256, .int .u32 768, .int .u32 8192, .int .u32 8320, .int .u32 8448, .int .u32 12288]) (.int .i64 5)).run Try.prog w = .ok (.int .u32 8320) w := fun _ => by kernel_rfl
      go_enter Try.func68, Try.ntmps68
      go_wp2
      go_ret2
      exact ⟨rfl, rfl⟩
    · have ix : ∀ w : World, (Instr.index 67 (.agg #[.int .u32 0, .int .u32 128, .int .u32 256, .int .u32 768, .int .u32 8192, .int .u32 8320, .int .u32 8448, .int .u32 12288]) (.int .i64 6)).run Try.prog w = .ok (.int .u32 8448) w := fun _ => by kernel_rfl
      go_enter Try.func68, Try.ntmps68
      go_wp2
      go_ret2
      exact ⟨rfl, rfl⟩
    · have ix : ∀ w : World, (Instr.index 67 (.agg #[.int .u32 0, .int .u32 128, .int .u32 256, .int .u32 768, .int .u32 8192, .int .u32 8320, .int .u32 8448, .int .u32 12288]) (.int .i64 7)).run Try.prog w = .ok (.int .u32 12288) w := fun _ => by kernel_rfl
      go_enter Try.func68, Try.ntmps68
      go_wp2
      go_ret2
      exact ⟨rfl, rfl⟩
  · have he : wStatic n = (0, false) := by unfold wStatic; rw [if_neg hn]
    rw [he]
    clear he
    by_cases h0 : 0 ≤ n
    · have h1 : ¬ n < 8 := by omega
      clear hn
      go_enter Try.func68, Try.ntmps68
      go_wp2
      go_ret2
      exact ⟨rfl, rfl⟩
    · clear hn
      go_enter Try.func68, Try.ntmps68
      go_wp2
      go_ret2
      exact ⟨rfl, rfl⟩
def wOffset (x : Int) : Int × Bool := if x = 0 ∨ 167 < x ∧ x < 249 then (0, false) else if x ≤ 103 then (x * 128, true) else if x ≤ 167 then (x * 128 + 44032, true) else (specials.getD (x - 249).toNat 0, true)
set_option maxHeartbeats 1000000 in
theorem offset_calls (x : Int) (w : World) (h0 : 0 ≤ x) (h1 : x ≤ 255) : Calls Try.prog 69 #[.int .u8 x] w fun e w' => e = .returned (.tuple #[.int .u32 (wOffset x).1, .bool (wOffset x).2]) ∧ Below w.heap.size w w' := by
  by_cases ha : x = 0
  · subst ha
    go_enter Try.func69, Try.ntmps69
    go_wp2
    go_ret2
    exact ⟨rfl, Below.refl _ _⟩
  by_cases hb : 167 < x ∧ x < 249
  · have he : wOffset x = (0, false) := by unfold wOffset; rw [if_pos (.inr hb)]
    rw [he]
    have e0 : (x == 0) = false := by simpa using ha
    obtain ⟨hb1, hb2⟩ := hb
    clear he ha
    go_enter Try.func69, Try.ntmps69
    go_wp2
    go_ret2
    exact ⟨rfl, Below.refl _ _⟩
  by_cases hc : x ≤ 103
  · have he : wOffset x = (x * 128, true) := by unfold wOffset; rw [if_neg (by omega), if_pos hc]
    rw [he]
    have e0 : (x == 0) = false := by simpa using ha
    have hb1 : ¬ 167 < x := by omega
    clear he ha hb
    go_enter Try.func69, Try.ntmps69
    go_wp2
    go_ret2
    exact ⟨by first | (simp; done) | (simp; omega), Below.refl _ _⟩
  by_cases hd : x ≤ 167
  · have he : wOffset x = (x * 128 + 44032, true) := by unfold wOffset; rw [if_neg (by omega), if_neg hc, if_pos hd]
    rw [he]
    have e0 : (x == 0) = false := by simpa using ha
    have hb1 : ¬ 167 < x := by omega
    clear he ha hb
    go_enter Try.func69, Try.ntmps69
    go_wp2
    go_ret2
    exact ⟨by first | (simp; done) | (simp; omega), Below.refl _ _⟩
  have h7 : x = 249 ∨ x = 250 ∨ x = 251 ∨ x = 252 ∨ x = 253 ∨ x = 254 ∨ x = 255 := by omega
  clear ha hb hc hd h0 h1
  rcases h7 with rfl | rfl | rfl | rfl | rfl | rfl | rfl
  · have ix : ∀ w : World, (Instr.index 100 (.agg #[.int .u32 192, .int .u32 592, .int .u32 880, .int .u32 1328, .int .u32 12352, .int .u32 12448, .int .u32 65376]) (.int .u32 0)).run Try.prog w = .ok (.int .u32 192) w := fun _ => by kernel_rfl
    go_enter Try.func69, Try.ntmps69
    go_wp2_with (go_at_call 70; refine (special_calls _).mono ?_; rintro e w1 ⟨rfl, hB⟩)
    go_ret2
    exact ⟨rfl, by assumption⟩
  · have ix : ∀ w : World, (Instr.index 100 (.agg #[.int .u32 192, .int .u32 592, .int .u32 880, .int .u32 1328, .int .u32 12352, .int .u32 12448, .int .u32 65376]) (.int .u32 1)).run Try.prog w = .ok (.int .u32 592) w := fun _ => by kernel_rfl
    go_enter Try.func69, Try.ntmps69
    go_wp2_with (go_at_call 70; refine (special_calls _).mono ?_; rintro e w1 ⟨rfl, hB⟩)
    go_ret2
    exact ⟨rfl, by assumption⟩
  · have ix : ∀ w : World, (Instr.index 100 (.agg #[.int .u32 192, .int .u32 592, .int .u32 880, .int .u32 1328, .int .u32 12352, .int .u32 12448, .int .u32 65376]) (.int .u32 2)).run Try.prog w = .ok (.int .u32 880) w := fun _ => by kernel_rfl
    go_enter Try.func69, Try.ntmps69
    go_wp2_with (go_at_call 70; refine (special_calls _).mono ?_; rintro e w1 ⟨rfl, hB⟩)
    go_ret2
    exact ⟨rfl, by assumption⟩
  · have ix : ∀ w : World, (Instr.index 100 (.agg #[.int .u32 192, .int .u32 592, .int .u32 880, .int .u32 1328, .int .u32 12352, .int .u32 12448, .int .u32 65376]) (.int .u32 3)).run Try.prog w = .ok (.int .u32 1328) w := fun _ => by kernel_rfl
    go_enter Try.func69, Try.ntmps69
    go_wp2_with (go_at_call 70; refine (special_calls _).mono ?_; rintro e w1 ⟨rfl, hB⟩)
    go_ret2
    exact ⟨rfl, by assumption⟩
  · have ix : ∀ w : World, (Instr.index 100 (.agg #[.int .u32 192, .int .u32 592, .int .u32 880, .int .u32 1328, .int .u32 12352, .int .u32 12448, .int .u32 65376]) (.int .u32 4)).run Try.prog w = .ok (.int .u32 12352) w := fun _ => by kernel_rfl
    go_enter Try.func69, Try.ntmps69
    go_wp2_with (go_at_call 70; refine (special_calls _).mono ?_; rintro e w1 ⟨rfl, hB⟩)
    go_ret2
    exact ⟨rfl, by assumption⟩
  · have ix : ∀ w : World, (Instr.index 100 (.agg #[.int .u32 192, .int .u32 592, .int .u32 880, .int .u32 1328, .int .u32 12352, .int .u32 12448, .int .u32 65376]) (.int .u32 5)).run Try.prog w = .ok (.int .u32 12448) w := fun _ => by kernel_rfl
    go_enter Try.func69, Try.ntmps69
    go_wp2_with (go_at_call 70; refine (special_calls _).mono ?_; rintro e w1 ⟨rfl, hB⟩)
    go_ret2
    exact ⟨rfl, by assumption⟩
  · have ix : ∀ w : World, (Instr.index 100 (.agg #[.int .u32 192, .int .u32 592, .int .u32 880, .int .u32 1328, .int .u32 12352, .int .u32 12448, .int .u32 65376]) (.int .u32 6)).run Try.prog w = .ok (.int .u32 65376) w := fun _ => by kernel_rfl
    go_enter Try.func69, Try.ntmps69
    go_wp2_with (go_at_call 70; refine (special_calls _).mono ?_; rintro e w1 ⟨rfl, hB⟩)
    go_ret2
    exact ⟨rfl, by assumption⟩
def idxFrom (c : Int) : Nat → List Int → Option Nat
  | _, [] => none
  | n, x :: l => if hld x c = true then some n else idxFrom c (n + 1) l
def wIndex (c : Int) : Int × Bool := match idxFrom c 0 specials with
  | some n => (249 + (n : Int), true)
  | none => if 128 ≤ c ∧ c < 13312 then (c / 128, true) else if 57344 ≤ c ∧ c < 65536 then ((c - 44032) / 128, true) else (0, false)
set_option maxHeartbeats 2000000 in
theorem index_calls (c : Int) (w : World) (h0 : 0 ≤ c) (h1 : c ≤ 4294967295) : Calls Try.prog 64 #[.int .u32 c] w fun e w' => e = .returned (.tuple #[.int .u8 (wIndex c).1, .bool (wIndex c).2]) ∧ Below w.heap.size w w' := by
  go_enter Try.func64, Try.ntmps64
  go_wp2_with (go_at_call 70; refine (special_calls _).mono ?_; rintro e w1 ⟨rfl, hB⟩)
  have HB := Lib.hid hB
  clear hB
  go_loop [7] (fun i => ∃ (k : Nat) (z : Int), z = k ∧ k ≤ 7 ∧ i = .int .i64 z ∧ Hid (idxFrom c 0 specials = idxFrom c k (specials.drop k))) (fun i => 8 - (intOf i).toNat)
  case atStart => exact ⟨0, 0, rfl, by decide, rfl, Lib.hid rfl⟩
  case round =>
    obtain ⟨k, z, hz, hk, rfl, HF⟩ := hrel
    have hk8 : k = 0 ∨ k = 1 ∨ k = 2 ∨ k = 3 ∨ k = 4 ∨ k = 5 ∨ k = 6 ∨ k = 7 := by omega
    rcases hk8 with rfl | rfl | rfl | rfl | rfl | rfl | rfl | rfl
    · obtain rfl : z = 0 := hz
      have ix : ∀ w : World, (Instr.index 100 (.agg #[.int .u32 192, .int .u32 592, .int .u32 880, .int .u32 1328, .int .u32 12352, .int .u32 12448, .int .u32 65376]) (.int .i64 0)).run Try.prog w = .ok (.int .u32 192) w := fun _ => by kernel_rfl
      have hx := holds_calls 192 c w1 (by decide) (by decide) h0 h1
      by_cases hb : hld 192 c = true
      · have HS := Lib.hid (show wIndex c = (249 + 0, true) from by
          unfold wIndex
          rw [HF.out]
          simp [specials, idxFrom, hb])
        rw [hb] at hx
        clear hb HF
        go_wp2_with (go_at_call 56; refine hx.mono ?_; rintro e w2 ⟨rfl, rfl⟩)
        go_ret2
        exact ⟨by rw [HS.out]; rfl, HB.out⟩
      · have hb' : hld 192 c = false := by simpa using hb
        have HS := Lib.hid (show idxFrom c 0 specials = idxFrom c 1 (specials.drop 1) from by
          rw [HF.out]
          simp [specials, idxFrom, hb'])
        rw [hb'] at hx
        clear hb hb' HF
        go_wp2_with (go_at_call 56; refine hx.mono ?_; rintro e w2 ⟨rfl, rfl⟩)
        exact ⟨⟨1, 1, rfl, by decide, by rfl, HS⟩, by simp [intOf]⟩
    · obtain rfl : z = 1 := hz
      have ix : ∀ w : World, (Instr.index 100 (.agg #[.int .u32 192, .int .u32 592, .int .u32 880, .int .u32 1328, .int .u32 12352, .int .u32 12448, .int .u32 65376]) (.int .i64 1)).run Try.prog w = .ok (.int .u32 592) w := fun _ => by kernel_rfl
      have hx := holds_calls 592 c w1 (by decide) (by decide) h0 h1
      by_cases hb : hld 592 c = true
      · have HS := Lib.hid (show wIndex c = (249 + 1, true) from by
          unfold wIndex
          rw [HF.out]
          simp [specials, idxFrom, hb])
        rw [hb] at hx
        clear hb HF
        go_wp2_with (go_at_call 56; refine hx.mono ?_; rintro e w2 ⟨rfl, rfl⟩)
        go_ret2
        exact ⟨by rw [HS.out]; rfl, HB.out⟩
      · have hb' : hld 592 c = false := by simpa using hb
        have HS := Lib.hid (show idxFrom c 0 specials = idxFrom c 2 (specials.drop 2) from by
          rw [HF.out]
          simp [specials, idxFrom, hb'])
        rw [hb'] at hx
        clear hb hb' HF
        go_wp2_with (go_at_call 56; refine hx.mono ?_; rintro e w2 ⟨rfl, rfl⟩)
        exact ⟨⟨2, 2, rfl, by decide, by rfl, HS⟩, by simp [intOf]⟩
    · obtain rfl : z = 2 := hz
      have ix : ∀ w : World, (Instr.index 100 (.agg #[.int .u32 192, .int .u32 592, .int .u32 880, .int .u32 1328, .int .u32 12352, .int .u32 12448, .int .u32 65376]) (.int .i64 2)).run Try.prog w = .ok (.int .u32 880) w := fun _ => by kernel_rfl
      have hx := holds_calls 880 c w1 (by decide) (by decide) h0 h1
      by_cases hb : hld 880 c = true
      · have HS := Lib.hid (show wIndex c = (249 + 2, true) from by
          unfold wIndex
          rw [HF.out]
          simp [specials, idxFrom, hb])
        rw [hb] at hx
        clear hb HF
        go_wp2_with (go_at_call 56; refine hx.mono ?_; rintro e w2 ⟨rfl, rfl⟩)
        go_ret2
        exact ⟨by rw [HS.out]; rfl, HB.out⟩
      · have hb' : hld 880 c = false := by simpa using hb
        have HS := Lib.hid (show idxFrom c 0 specials = idxFrom c 3 (specials.drop 3) from by
          rw [HF.out]
          simp [specials, idxFrom, hb'])
        rw [hb'] at hx
        clear hb hb' HF
        go_wp2_with (go_at_call 56; refine hx.mono ?_; rintro e w2 ⟨rfl, rfl⟩)
        exact ⟨⟨3, 3, rfl, by decide, by rfl, HS⟩, by simp [intOf]⟩
    · obtain rfl : z = 3 := hz
      have ix : ∀ w : World, (Instr.index 100 (.agg #[.int .u32 192, .int .u32 592, .int .u32 880, .int .u32 1328, .int .u32 12352, .int .u32 12448, .int .u32 65376]) (.int .i64 3)).run Try.prog w = .ok (.int .u32 1328) w := fun _ => by kernel_rfl
      have hx := holds_calls 1328 c w1 (by decide) (by decide) h0 h1
      by_cases hb : hld 1328 c = true
      · have HS := Lib.hid (show wIndex c = (249 + 3, true) from by
          unfold wIndex
          rw [HF.out]
          simp [specials, idxFrom, hb])
        rw [hb] at hx
        clear hb HF
        go_wp2_with (go_at_call 56; refine hx.mono ?_; rintro e w2 ⟨rfl, rfl⟩)
        go_ret2
        exact ⟨by rw [HS.out]; rfl, HB.out⟩
      · have hb' : hld 1328 c = false := by simpa using hb
        have HS := Lib.hid (show idxFrom c 0 specials = idxFrom c 4 (specials.drop 4) from by
          rw [HF.out]
          simp [specials, idxFrom, hb'])
        rw [hb'] at hx
        clear hb hb' HF
        go_wp2_with (go_at_call 56; refine hx.mono ?_; rintro e w2 ⟨rfl, rfl⟩)
        exact ⟨⟨4, 4, rfl, by decide, by rfl, HS⟩, by simp [intOf]⟩
    · obtain rfl : z = 4 := hz
      have ix : ∀ w : World, (Instr.index 100 (.agg #[.int .u32 192, .int .u32 592, .int .u32 880, .int .u32 1328, .int .u32 12352, .int .u32 12448, .int .u32 65376]) (.int .i64 4)).run Try.prog w = .ok (.int .u32 12352) w := fun _ => by kernel_rfl
      have hx := holds_calls 12352 c w1 (by decide) (by decide) h0 h1
      by_cases hb : hld 12352 c = true
      · have HS := Lib.hid (show wIndex c = (249 + 4, true) from by
          unfold wIndex
          rw [HF.out]
          simp [specials, idxFrom, hb])
        rw [hb] at hx
        clear hb HF
        go_wp2_with (go_at_call 56; refine hx.mono ?_; rintro e w2 ⟨rfl, rfl⟩)
        go_ret2
        exact ⟨by rw [HS.out]; rfl, HB.out⟩
      · have hb' : hld 12352 c = false := by simpa using hb
        have HS := Lib.hid (show idxFrom c 0 specials = idxFrom c 5 (specials.drop 5) from by
          rw [HF.out]
          simp [specials, idxFrom, hb'])
        rw [hb'] at hx
        clear hb hb' HF
        go_wp2_with (go_at_call 56; refine hx.mono ?_; rintro e w2 ⟨rfl, rfl⟩)
        exact ⟨⟨5, 5, rfl, by decide, by rfl, HS⟩, by simp [intOf]⟩
    · obtain rfl : z = 5 := hz
      have ix : ∀ w : World, (Instr.index 100 (.agg #[.int .u32 192, .int .u32 592, .int .u32 880, .int .u32 1328, .int .u32 12352, .int .u32 12448, .int .u32 65376]) (.int .i64 5)).run Try.prog w = .ok (.int .u32 12448) w := fun _ => by kernel_rfl
      have hx := holds_calls 12448 c w1 (by decide) (by decide) h0 h1
      by_cases hb : hld 12448 c = true
      · have HS := Lib.hid (show wIndex c = (249 + 5, true) from by
          unfold wIndex
          rw [HF.out]
          simp [specials, idxFrom, hb])
        rw [hb] at hx
        clear hb HF
        go_wp2_with (go_at_call 56; refine hx.mono ?_; rintro e w2 ⟨rfl, rfl⟩)
        go_ret2
        exact ⟨by rw [HS.out]; rfl, HB.out⟩
      · have hb' : hld 12448 c = false := by simpa using hb
        have HS := Lib.hid (show idxFrom c 0 specials = idxFrom c 6 (specials.drop 6) from by
          rw [HF.out]
          simp [specials, idxFrom, hb'])
        rw [hb'] at hx
        clear hb hb' HF
        go_wp2_with (go_at_call 56; refine hx.mono ?_; rintro e w2 ⟨rfl, rfl⟩)
        exact ⟨⟨6, 6, rfl, by decide, by rfl, HS⟩, by simp [intOf]⟩
    · obtain rfl : z = 6 := hz
      have ix : ∀ w : World, (Instr.index 100 (.agg #[.int .u32 192, .int .u32 592, .int .u32 880, .int .u32 1328, .int .u32 12352, .int .u32 12448, .int .u32 65376]) (.int .i64 6)).run Try.prog w = .ok (.int .u32 65376) w := fun _ => by kernel_rfl
      have hx := holds_calls 65376 c w1 (by decide) (by decide) h0 h1
      by_cases hb : hld 65376 c = true
      · have HS := Lib.hid (show wIndex c = (249 + 6, true) from by
          unfold wIndex
          rw [HF.out]
          simp [specials, idxFrom, hb])
        rw [hb] at hx
        clear hb HF
        go_wp2_with (go_at_call 56; refine hx.mono ?_; rintro e w2 ⟨rfl, rfl⟩)
        go_ret2
        exact ⟨by rw [HS.out]; rfl, HB.out⟩
      · have hb' : hld 65376 c = false := by simpa using hb
        have HS := Lib.hid (show idxFrom c 0 specials = idxFrom c 7 (specials.drop 7) from by
          rw [HF.out]
          simp [specials, idxFrom, hb'])
        rw [hb'] at hx
        clear hb hb' HF
        go_wp2_with (go_at_call 56; refine hx.mono ?_; rintro e w2 ⟨rfl, rfl⟩)
        exact ⟨⟨7, 7, rfl, by decide, by rfl, HS⟩, by simp [intOf]⟩
    · obtain rfl : z = 7 := hz
      have hw : wIndex c = if 128 ≤ c ∧ c < 13312 then (c / 128, true) else if 57344 ≤ c ∧ c < 65536 then ((c - 44032) / 128, true) else (0, false) := by
        unfold wIndex
        rw [HF.out]
        rfl
      clear HF
      by_cases ha : 128 ≤ c ∧ c < 13312
      · rw [if_pos ha] at hw
        have HWI := Lib.hid hw
        obtain ⟨ha1, ha2⟩ := ha
        clear hw
        go_wp2
        go_ret2
        exact ⟨by rw [HWI.out]; first | rfl | (simp; omega), HB.out⟩
      · by_cases hb : 57344 ≤ c ∧ c < 65536
        · rw [if_neg ha, if_pos hb] at hw
          have HWI := Lib.hid hw
          obtain ⟨hb1, hb2⟩ := hb
          have ha2 : ¬ c < 13312 := by omega
          have ha3 : 0 ≤ c - 44032 := by omega
          clear hw ha
          go_wp2
          go_ret2
          exact ⟨by rw [HWI.out]; first | rfl | (simp; omega), HB.out⟩
        · rw [if_neg ha, if_neg hb] at hw
          have HWI := Lib.hid hw
          clear hw
          by_cases hc : 128 ≤ c
          · have ha2 : ¬ c < 13312 := by omega
            by_cases hd : 57344 ≤ c
            · have hb2 : ¬ c < 65536 := by omega
              clear ha hb
              go_wp2
              go_ret2
              exact ⟨by rw [HWI.out]; rfl, HB.out⟩
            · clear ha hb
              go_wp2
              go_ret2
              exact ⟨by rw [HWI.out]; rfl, HB.out⟩
          · have hd : ¬ 57344 ≤ c := by omega
            clear ha hb
            go_wp2
            go_ret2
            exact ⟨by rw [HWI.out]; rfl, HB.out⟩
end Go.Proofs.Ytkfiahildoljfaa.Win
