/- WindowPairs: two bytes stand for a window and an offset, and the program's pairs are the only ones that stand for a number's window; every input. -/
import Derived.Test.YtnidohbleffjkaaAwake
import Derived.ChangeKeysEq
import Derived.OwnWalk
import Derived.OpenShut
namespace Go.Proofs.Ytnidohbleffjkaa.Win
open Go.RowKit
set_option linter.unusedVariables false
set_option linter.unusedSimpArgs false
theorem below_drewN {B : Nat} {w W : World} (h : Below B w W) (n : Nat) : Below B w (W.drewN n) := ⟨h.os, h.tape, h.output, h.size, h.block⟩
theorem info_u8 : (Try.prog.info? 5).map (fun i => (i.zero, i.size, i.bytes)) = some (some (.int .u8 0), 1, 1) := by kernel_rfl
theorem cells_u8 : Try.prog.cellsOf 5 = 1 := by kernel_rfl
theorem eql_arr2 (w : World) (a b c d : Int) : (binOp .eql 23 (.agg #[.int .u8 a, .int .u8 b]) (.agg #[.int .u8 c, .int .u8 d])).run Try.prog w = .ok (.bool ((a == c) && (b == d))) w := by
  obtain ⟨i0, hi, _⟩ := info_parts info_u8
  rw [run_eql_struct, run_equalIn_array w 9999 _ _ Try.underlying23 hi, cells_u8]
  have r2 : List.range 2 = [0, 1] := rfl
  rw [r2]
  have hz : i0.size = 1 := by
    have h := info_u8
    rw [hi] at h
    simp at h
    exact h.2.1
  have he := fun (w : World) (x y : Int) => run_equalIn_int (P := Try.prog) w 9998 5 .u8 .u8 x y Try.underlying5
  by_cases h1 : a = c
  · by_cases h2 : b = d
    · simp [Op.eqItems, part, sizeOf, typeInfo, hi, hz, he, h1, h2]
    · simp [Op.eqItems, part, sizeOf, typeInfo, hi, hz, he, h1, h2]
  · simp [Op.eqItems, part, sizeOf, typeInfo, hi, hz, he, h1]
set_option maxHeartbeats 1000000 in
theorem windowPairs_calls (n c b0 b1 : Int) (w : World) (c0 : 0 ≤ c) (c1 : c ≤ 4294967295) (p0 : 0 ≤ b0) (p1 : b0 ≤ 255) (q0 : 0 ≤ b1) (q1 : b1 ≤ 255) :
    Calls Try.prog 3 #[.int .i64 n, .int .u32 c, .agg #[.int .u8 b0, .int .u8 b1]] w fun e w' => e = .returned (.bool true) ∧ Below w.heap.size w w' := by
  have hA : ∀ w, Calls Try.prog 9 #[] w fun e w' => e = .returned (.bool true) ∧ Below w.heap.size w w' := fun w => pilcrowlaw13_awake.calls true w rfl
  have HA := Lib.hid hA
  clear hA
  have hE := fun w => extended_calls b0 b1 w p0 p1 q0 q1
  have HE := Lib.hid hE
  clear hE
  by_cases hv : 0 ≤ n ∧ n < 8 ∧ 65536 ≤ c ∧ c ≤ 1114111
  · obtain ⟨n0, n1, x0, x1⟩ := hv
    obtain ⟨q, hq⟩ : ∃ q, q = (c - 65536) / 128 := ⟨_, rfl⟩
    have hw : wPair n c = (n * 32 + q / 256, q % 256, true) := by unfold wPair; rw [if_pos ⟨n0, n1, x0, x1⟩, hq]
    have hP := fun w => pair_calls n c w c0 c1
    rw [hw] at hP
    have HP := Lib.hid hP
    clear hP hw
    have hE2 := fun w => extended_calls (n * 32 + q / 256) (q % 256) w (by omega) (by omega) (by omega) (by omega)
    rw [show (n * 32 + q / 256) / 32 = n from by omega, show 65536 + 128 * ((n * 32 + q / 256) % 32 * 256 + q % 256) = 65536 + 128 * q from by omega] at hE2
    have HE2 := Lib.hid hE2
    clear hE2
    have hHt : hld (65536 + 128 * q) c = true := by unfold hld; simp; omega
    have hH : ∀ (off : Int) (w : World), 0 ≤ off → off ≤ 4294967295 → Calls Try.prog 11 #[.int .u32 off, .int .u32 c] w fun e w' => e = .returned (.bool (hld off c)) ∧ w' = w := fun off w a b => (holds_calls off c w a b c0 c1).mono fun e w' h => ⟨h.1, h.2.symm⟩
    have HH := Lib.hid hH
    clear hH
    have HQ := Lib.hid hq
    obtain ⟨h, hh⟩ : ∃ h, h = n * 32 + q / 256 := ⟨_, rfl⟩
    obtain ⟨l, hl⟩ : ∃ l, l = q % 256 := ⟨_, rfl⟩
    rw [← hh, ← hl] at HP HE2
    have hfin : ((b0 == h) && (b1 == l)) = ((b0 / 32 == n) && hld (65536 + 128 * (b0 % 32 * 256 + b1)) c) := by
      rw [Bool.eq_iff_iff]
      unfold hld
      simp
      omega
    have HF := Lib.hid hfin
    have heq := fun w => eql_arr2 w b0 b1 h l
    have q0' : 0 ≤ q := by omega
    have q1' : q ≤ 8191 := by omega
    clear hfin hq
    go_enter Try.func3, Try.ntmps3
    go_wp2_with fail
    refine (HP.out _).mono ?_
    rintro e w1 ⟨rfl, rfl⟩
    clear hh hl
    go_wp2_with fail
    refine (HA.out _).mono ?_
    rintro e w1 ⟨rfl, hB⟩
    have hcell0 : w1.cell? ⟨w.heap.size, 0, none⟩ = some (.int .u8 b0) := (hB.cell (p := ⟨w.heap.size, 0, none⟩) (by simp)).trans (by rw [cell_of (heap_alloc_new w _)]; rfl)
    have hcell1 : w1.cell? ⟨w.heap.size, 1, none⟩ = some (.int .u8 b1) := (hB.cell (p := ⟨w.heap.size, 1, none⟩) (by simp)).trans (by rw [cell_of (heap_alloc_new w _)]; rfl)
    have HB := Lib.hid hB
    clear hB
    go_wp2_with fail
    refine (HE.out _).mono ?_
    rintro e w2 ⟨rfl, rfl⟩
    go_wp2_with fail
    refine (HE2.out _).mono ?_
    rintro e w2 ⟨rfl, rfl⟩
    go_wp2_with fail
    by_cases hk : b0 / 32 = n
    all_goals
      have hkb : (b0 / 32 == n) = decide (b0 / 32 = n) := rfl
      first | rw [decide_eq_true hk] at hkb | rw [decide_eq_false hk] at hkb
      have hf := HF.out
      rw [hkb] at hf
      have HF' := Lib.hid hf
      clear hk hf
      go_quiet ((go_at_call 11; exact Calls.quiet_of_same (HH.out _ _ (by omega) (by omega))))
      go_wp2
      go_ret
      refine ⟨?_, below_drewN (((Below.refl _ _).alloc (Nat.le_refl _) _).trans (HB.out.mono (by simp))) _⟩
      first
      | (show Ending.returned (.bool (((b0 == h) && (b1 == l)) == hld (65536 + 128 * (b0 % 32 * 256 + b1)) c)) = _
         rw [HF'.out]; simp; done)
      | (show Ending.returned (.bool (!(b0 == h) || !(b1 == l))) = _
         rw [← Bool.not_and, HF'.out]; rfl)
  · have hP := fun w => pair_calls n c w c0 c1
    have hw : wPair n c = (0, 0, false) := by unfold wPair; rw [if_neg hv]
    rw [hw] at hP
    have HP := Lib.hid hP
    clear hP hw
    have hcs : n < 0 ∨ (0 ≤ n ∧ ¬ n ≤ 7) ∨ (0 ≤ n ∧ n ≤ 7 ∧ c < 65536) ∨ (0 ≤ n ∧ n ≤ 7 ∧ 65536 ≤ c ∧ ¬ c ≤ 1114111) := by omega
    clear hv
    rcases hcs with hn | ⟨hn, hm⟩ | ⟨hn, hm, hx⟩ | ⟨hn, hm, hx, hy⟩
    all_goals
      go_enter Try.func3, Try.ntmps3
      go_wp2_with fail
      refine (HP.out _).mono ?_
      rintro e w1 ⟨rfl, rfl⟩
      go_wp2_with fail
      refine (HA.out _).mono ?_
      rintro e w1 ⟨rfl, hB⟩
      have hcell0 : w1.cell? ⟨w.heap.size, 0, none⟩ = some (.int .u8 b0) := (hB.cell (p := ⟨w.heap.size, 0, none⟩) (by simp)).trans (by rw [cell_of (heap_alloc_new w _)]; rfl)
      have hcell1 : w1.cell? ⟨w.heap.size, 1, none⟩ = some (.int .u8 b1) := (hB.cell (p := ⟨w.heap.size, 1, none⟩) (by simp)).trans (by rw [cell_of (heap_alloc_new w _)]; rfl)
      have HB := Lib.hid hB
      clear hB
      go_wp2_with fail
      refine (HE.out _).mono ?_
      rintro e w2 ⟨rfl, rfl⟩
      go_wp2_with fail
      go_ret
      exact ⟨rfl, ((Below.refl _ _).alloc (Nat.le_refl _) _).trans (HB.out.mono (by simp))⟩
end Go.Proofs.Ytnidohbleffjkaa.Win
namespace Go.Proofs.Ytnidohbleffjkaa.Win
open Go.RowKit
theorem windowPairs_row (n c b0 b1 : Int) (w : World) (_ : (Lit.int .i64 n).wf = true) (hc : (Lit.int .u32 c).wf = true) (h0 : (Lit.int .u8 b0).wf = true) (h1 : (Lit.int .u8 b1).wf = true) :
    Calls Try.prog 3 #[.int .i64 n, .int .u32 c, .agg #[.int .u8 b0, .int .u8 b1]] w fun e w' => e = .returned (.bool true) ∧ Below w.heap.size w w' :=
  windowPairs_calls n c b0 b1 w (bounds_u32 hc).1 (bounds_u32 hc).2 (bounds_u8 h0).1 (bounds_u8 h0).2 (bounds_u8 h1).1 (bounds_u8 h1).2
end Go.Proofs.Ytnidohbleffjkaa.Win
