/- The windows' functions in the printed form. -/
import Derived.Test.YtnidohbleffjkaaAwake
import Derived.Test.YtnidohbleffjkaaWMore
namespace Go.Proofs.Ytnidohbleffjkaa.Hand
open Go.RowKit Go.Proofs.YtnidohbleffjkaaW.PrintWords Go.Proofs.Ytnidohbleffjkaa.Win
set_option linter.unusedVariables false
def window_Index.f (c : Int) : Option (Int × Bool) := if 0 ≤ c ∧ c ≤ 4294967295 then some (wIndex c) else none
theorem window_Index.calls (a0 : Int) (r1 : Int) (r2 : Bool) (w : World) (h : window_Index.f a0 = some (r1, r2)) : Calls Try.prog 22 #[.int .u32 a0] w fun e w' => e = .returned (.tuple #[.int .u8 r1, .bool r2]) ∧ Below w.heap.size w w' := by
  unfold window_Index.f at h
  split at h
  · rename_i hc
    injection h with h
    have := index_calls a0 w hc.1 hc.2
    rw [h] at this
    exact this
  · cases h
def window_Offset.f (x : Int) : Option (Int × Bool) := if 0 ≤ x ∧ x ≤ 255 then some (wOffset x) else none
theorem window_Offset.calls (a0 : Int) (r1 : Int) (r2 : Bool) (w : World) (h : window_Offset.f a0 = some (r1, r2)) : Calls Try.prog 15 #[.int .u8 a0] w fun e w' => e = .returned (.tuple #[.int .u32 r1, .bool r2]) ∧ Below w.heap.size w w' := by
  unfold window_Offset.f at h
  split at h
  · rename_i hc
    injection h with h
    have := offset_calls a0 w hc.1 hc.2
    rw [h] at this
    exact this
  · cases h
def window_Static.f (n : Int) : Option (Int × Bool) := some (wStatic n)
theorem window_Static.calls (a0 : Int) (r1 : Int) (r2 : Bool) (w : World) (h : window_Static.f a0 = some (r1, r2)) : Calls Try.prog 17 #[.int .i64 a0] w fun e w' => e = .returned (.tuple #[.int .u32 r1, .bool r2]) ∧ Drawn0 w w' := by
  injection h with h
  have := static_calls a0 w
  rw [h] at this
  refine this.mono ?_
  rintro e w' ⟨rfl, rfl⟩
  exact ⟨rfl, Drawn0.refl _⟩
def pilcrowlaw13_awake.f : Option Bool := some true
theorem pilcrowlaw13_awake.calls (r : Bool) (w : World) (h : pilcrowlaw13_awake.f = some r) :
    Calls Try.prog 9 #[] w fun e w' => e = .returned (.bool r) ∧ Below w.heap.size w w' := Win.pilcrowlaw13_awake.calls r w h
end Go.Proofs.Ytnidohbleffjkaa.Hand
