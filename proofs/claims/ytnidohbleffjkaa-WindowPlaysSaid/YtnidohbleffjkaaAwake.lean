/- The program is awake. -/
import Derived.Test.YtnidohbleffjkaaWin5
namespace Go.Proofs.Ytnidohbleffjkaa.Win
open Go.RowKit
set_option linter.unusedVariables false
def pilcrowlaw13_awake.f : Option Bool := some true
theorem tb {w w1 w2 : World} (h : Below w.heap.size w w1) (k : Below w1.heap.size w1 w2) : Below w.heap.size w w2 := h.trans ⟨k.os, k.tape, k.output, k.size, fun i hi => k.block i (Nat.lt_of_lt_of_le hi h.size)⟩
set_option maxHeartbeats 1000000 in
theorem pilcrowlaw13_awake.calls (r : Bool) (w : World) (h : pilcrowlaw13_awake.f = some r) :
    Calls Try.prog 9 #[] w fun e w' => e = .returned (.bool r) ∧ Below w.heap.size w w' := by
  obtain rfl : true = r := by injection h
  clear h
  have i1 : wIndex 233 = (249, true) := by decide +kernel
  have i2 : wIndex 945 = (251, true) := by decide +kernel
  have i3 : wIndex 57344 = (104, true) := by decide +kernel
  have i4 : wIndex 19968 = (0, false) := by decide +kernel
  have s7 : wStatic 7 = (12288, true) := by decide +kernel
  have I1 := fun w => index_calls 233 w (by decide) (by decide)
  have I2 := fun w => index_calls 945 w (by decide) (by decide)
  have I3 := fun w => index_calls 57344 w (by decide) (by decide)
  have I4 := fun w => index_calls 19968 w (by decide) (by decide)
  have S7 := fun w => static_calls 7 w
  rw [i1] at I1; rw [i2] at I2; rw [i3] at I3; rw [i4] at I4; rw [s7] at S7
  have H1 := Lib.hid I1
  have H2 := Lib.hid I2
  have H3 := Lib.hid I3
  have H4 := Lib.hid I4
  have H7 := Lib.hid S7
  clear i1 i2 i3 i4 s7 I1 I2 I3 I4 S7
  go_enter Try.func9, Try.ntmps9
  go_wp2_with fail
  refine (H1.out _).mono ?_
  rintro e w1 ⟨rfl, hB⟩
  have B1 := Lib.hid hB
  clear hB
  go_wp2_with fail
  refine (H2.out _).mono ?_
  rintro e w2 ⟨rfl, hB⟩
  have B2 := Lib.hid (tb B1.out hB)
  clear hB
  go_wp2_with fail
  refine (H3.out _).mono ?_
  rintro e w3 ⟨rfl, hB⟩
  have B3 := Lib.hid (tb B2.out hB)
  clear hB
  go_wp2_with fail
  refine (H4.out _).mono ?_
  rintro e w4 ⟨rfl, hB⟩
  have B4 := Lib.hid (tb B3.out hB)
  clear hB
  go_wp2_with fail
  refine (extended_calls 127 255 _ (by decide) (by decide) (by decide) (by decide)).mono ?_
  rintro e w5 ⟨rfl, rfl⟩
  go_wp2_with fail
  refine (H7.out _).mono ?_
  rintro e w5 ⟨rfl, rfl⟩
  go_wp2_with fail
  refine (new_calls _).mono ?_
  rintro e w5 ⟨rfl, hW, hC, hz⟩
  have HW := Lib.hid hW
  have B5 := Lib.hid (Chg.below B4.out hC (fun i hi => hi.elim))
  clear hW hC
  go_wp2_with fail
  refine (oldest_calls _ _ _ _ HW.out).mono ?_
  rintro e w6 ⟨rfl, rfl⟩
  go_wp2_with fail
  refine (at_calls _ _ _ _ _ HW.out).mono ?_
  rintro e w6 ⟨rfl, rfl⟩
  rw [show wAt firsts 2 = 1024 from by decide +kernel]
  go_wp2_with fail
  go_ret
  exact ⟨rfl, B5.out⟩
end Go.Proofs.Ytnidohbleffjkaa.Win
