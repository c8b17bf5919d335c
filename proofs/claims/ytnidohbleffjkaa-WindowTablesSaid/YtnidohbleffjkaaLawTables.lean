/- WindowTables: any index, and any window's number, stands for the offset that the reference says, or for none; a window holds just its 128 numbers; every input. -/
import Derived.Test.YtnidohbleffjkaaAwake
import Derived.Test.YtnidohbleffjkaaRef13
import Derived.OpenShut
namespace Go.Proofs.Ytnidohbleffjkaa.Win
open Go.RowKit
set_option linter.unusedVariables false
set_option linter.unusedSimpArgs false
set_option maxHeartbeats 2000000 in
theorem windowTables_calls (x n a c : Int) (w : World) (x0 : 0 ≤ x) (x1 : x ≤ 255) (a0 : 0 ≤ a) (a1 : a ≤ 4294967295) (c0 : 0 ≤ c) (c1 : c ≤ 4294967295) :
    Calls Try.prog 5 #[.int .u8 x, .int .i64 n, .agg #[.int .u32 a, .int .u32 c]] w fun e w' => e = .returned (.bool true) ∧ Below w.heap.size w w' := by
  have HA := Lib.hid (fun w : World => pilcrowlaw13_awake.calls true w rfl)
  have HO := Lib.hid (fun w : World => offset_calls x w x0 x1)
  have HR := Lib.hid (fun w : World => roffset_calls x w x0 x1)
  have HS := Lib.hid (fun w : World => static_calls n w)
  have HH := Lib.hid (fun w : World => holds_calls a c w a0 a1 c0 c1)
  have HK := Lib.hid (fun w : World => rholds_calls a c w a0 a1 c0 c1)
  have hcs : n < 0 ∨ (0 ≤ n ∧ ¬ n ≤ 7) ∨ ∃ k : Nat, n = k ∧ k < 8 := by
    rcases Int.lt_or_le n 0 with h | h
    · exact .inl h
    · by_cases h7 : n ≤ 7
      · exact .inr (.inr ⟨n.toNat, by omega, by omega⟩)
      · exact .inr (.inl ⟨h, h7⟩)
  have hcase : (∃ s : Int, wStatic n = (s, false) ∧ s = 0 ∧ wAt firsts n = 0 ∧ (n < 0 ∨ (0 ≤ n ∧ ¬ n ≤ 7))) ∨ ∃ k : Nat, n = k ∧ k < 8 ∧ wStatic n = (statics.getD k 0, true) ∧ wAt firsts n = firsts.getD k 0 := by
    rcases hcs with h | ⟨h, h7⟩ | ⟨k, rfl, hk⟩
    · exact .inl ⟨0, by unfold wStatic; rw [if_neg (by omega)], rfl, by unfold wAt; rw [if_neg (by omega)], .inl h⟩
    · exact .inl ⟨0, by unfold wStatic; rw [if_neg (by omega)], rfl, by unfold wAt; rw [if_neg (by omega)], .inr ⟨h, h7⟩⟩
    · refine .inr ⟨k, rfl, hk, ?_, ?_⟩
      · unfold wStatic; rw [if_pos (by omega), Int.toNat_natCast]
      · unfold wAt; rw [if_pos (by omega), Int.toNat_natCast]
  clear hcs
  obtain ⟨o, ho⟩ : ∃ o, o = wOffset x := ⟨_, rfl⟩
  rw [← ho] at HO HR
  clear ho
  rcases hcase with ⟨s, hs, rfl, hat, hn⟩ | ⟨k, rfl, hk, hs, hat⟩
  · rw [hs] at HS
    have HAT := Lib.hid hat
    clear hs hat
    rcases hn with hn | ⟨hn, hm⟩
    all_goals
      go_enter Try.func5, Try.ntmps5
      go_wp2_with fail
      go_quiet (fail)
      go_wp2_with fail
      refine (HO.out _).mono ?_
      rintro e w1 ⟨rfl, hB⟩
      have B1 := Lib.hid (Below.trans (below_drewN ((Below.refl _ w).alloc (Nat.le_refl _) _) _) ((Below.mono hB (by simp) : Below w.heap.size _ _)))
      clear hB
      go_wp2_with fail
      refine (HR.out _).mono ?_
      rintro e w2 ⟨rfl, hB⟩
      have B2 := Lib.hid (B1.out.trans ((hB.mono B1.out.size : Below w.heap.size _ _)))
      clear hB
      go_wp2_with fail
      refine (HS.out _).mono ?_
      rintro e w3 ⟨rfl, rfl⟩
      go_wp2_with fail
      refine (HA.out _).mono ?_
      rintro e w3 ⟨rfl, hB⟩
      have B3 := Lib.hid (B2.out.trans ((hB.mono B2.out.size : Below w.heap.size _ _)))
      clear hB
      go_wp2_with fail
      refine (new_calls _).mono ?_
      rintro e w4 ⟨rfl, hW, hC, hz⟩
      have HW := Lib.hid hW
      have B4 := Lib.hid (Chg.below B3.out hC (fun i hi => hi.elim))
      clear hW hC
      go_wp2_with fail
      refine (HH.out _).mono ?_
      rintro e w5 ⟨rfl, rfl⟩
      go_wp2_with fail
      refine (HK.out _).mono ?_
      rintro e w5 ⟨rfl, rfl⟩
      go_wp2_with fail
      refine (at_calls _ _ _ _ _ HW.out).mono ?_
      rintro e w5 ⟨rfl, rfl⟩
      rw [HAT.out]
      go_wp2_with fail
      go_ret
      exact ⟨rfl, B4.out⟩
  · rw [hs] at HS
    have HAT := Lib.hid hat
    clear hs hat
    go_enter Try.func5, Try.ntmps5
    go_wp2_with fail
    go_quiet (fail)
    go_wp2_with fail
    refine (HO.out _).mono ?_
    rintro e w1 ⟨rfl, hB⟩
    have B1 := Lib.hid (Below.trans (below_drewN ((Below.refl _ w).alloc (Nat.le_refl _) _) _) ((Below.mono hB (by simp) : Below w.heap.size _ _)))
    clear hB
    go_wp2_with fail
    refine (HR.out _).mono ?_
    rintro e w2 ⟨rfl, hB⟩
    have B2 := Lib.hid (B1.out.trans ((hB.mono B1.out.size : Below w.heap.size _ _)))
    clear hB
    go_wp2_with fail
    refine (HS.out _).mono ?_
    rintro e w3 ⟨rfl, rfl⟩
    go_wp2_with fail
    refine (HA.out _).mono ?_
    rintro e w3 ⟨rfl, hB⟩
    have B3 := Lib.hid (B2.out.trans ((hB.mono B2.out.size : Below w.heap.size _ _)))
    clear hB
    go_wp2_with fail
    refine (new_calls _).mono ?_
    rintro e w4 ⟨rfl, hW, hC, hz⟩
    have HW := Lib.hid hW
    have B4 := Lib.hid (Chg.below B3.out hC (fun i hi => hi.elim))
    have hglt := Lib.hid hW.lt
    clear hW hC
    go_wp2_with fail
    refine (HH.out _).mono ?_
    rintro e w5 ⟨rfl, rfl⟩
    go_wp2_with fail
    refine (HK.out _).mono ?_
    rintro e w5 ⟨rfl, rfl⟩
    go_wp2_with fail
    refine (rstatics_calls _).mono ?_
    rintro e w5 ⟨rfl, hRow, hB, hz5⟩
    have hcell := hRow.cell k hk
    have B5 := Lib.hid (B4.out.trans ((hB.mono B4.out.size : Below w.heap.size _ _)))
    have HW5 := Lib.hid (HW.out.keep (hB.block _ HW.out.lt))
    clear hRow hB
    go_wp2_with fail
    refine (at_calls _ _ _ _ _ HW5.out).mono ?_
    rintro e w6 ⟨rfl, rfl⟩
    rw [HAT.out]
    go_wp2_with fail
    refine (rfirsts_calls _).mono ?_
    rintro e w6 ⟨rfl, hRow, hB, hz6⟩
    have hcell6 := hRow.cell k hk
    have B6 := Lib.hid (B5.out.trans ((hB.mono B5.out.size : Below w.heap.size _ _)))
    clear hRow hB
    go_wp2_with fail
    go_ret
    exact ⟨rfl, B6.out⟩
theorem windowTables_row (x n a c : Int) (w : World) (hx : (Lit.int .u8 x).wf = true) (_ : (Lit.int .i64 n).wf = true) (ha : (Lit.int .u32 a).wf = true) (hc : (Lit.int .u32 c).wf = true) :
    Calls Try.prog 5 #[.int .u8 x, .int .i64 n, .agg #[.int .u32 a, .int .u32 c]] w fun e w' => e = .returned (.bool true) ∧ Below w.heap.size w w' :=
  windowTables_calls x n a c w (bounds_u8 hx).1 (bounds_u8 hx).2 (bounds_u32 ha).1 (bounds_u32 ha).2 (bounds_u32 hc).1 (bounds_u32 hc).2
end Go.Proofs.Ytnidohbleffjkaa.Win
