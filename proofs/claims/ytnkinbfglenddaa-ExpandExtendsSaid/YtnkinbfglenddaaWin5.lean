/- The windows beyond: two bytes stand for a window and an offset. -/
import Derived.Test.YtnkinbfglenddaaWin4
import Derived.Lib.EndianBits
namespace Go.Proofs.Ytnkinbfglenddaa.Win
open Go.RowKit
set_option linter.unusedVariables false
set_option linter.unusedSimpArgs false
theorem extended_calls (h l : Int) (w : World) (h0 : 0 ≤ h) (h1 : h ≤ 255) (l0 : 0 ≤ l) (l1 : l ≤ 255) : Calls Try.prog 53 #[.int .u8 h, .int .u8 l] w fun e w' => e = .returned (.tuple #[.int .i64 (h / 32), .int .u32 (65536 + 128 * (h % 32 * 256 + l))]) ∧ w = w' := by
  have or1 : bits .or .u32 (h % 32 * 256) l = h % 32 * 256 + l := bits_join .u32 32 (by decide) wraps_u32 8 (h % 32 * 256) l (by omega) (by omega) (by omega) (by omega) (by omega) (by omega)
  have HO := Lib.hid or1
  clear or1
  go_enter Try.func53, Try.ntmps53
  go_wp2
  go_ret2
  exact ⟨by simp only [HO.out]; simp; omega, rfl⟩
def wPair (n c : Int) : Int × Int × Bool := if 0 ≤ n ∧ n < 8 ∧ 65536 ≤ c ∧ c ≤ 1114111 then (n * 32 + (c - 65536) / 128 / 256, (c - 65536) / 128 % 256, true) else (0, 0, false)
end Go.Proofs.Ytnkinbfglenddaa.Win
