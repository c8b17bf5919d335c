/- The windows beyond: two bytes stand for a window and an offset. -/
import Derived.Test.YtkfiahildoljfaaWin4
import Derived.Lib.EndianBits
namespace Go.Proofs.Ytkfiahildoljfaa.Win
open Go.RowKit
set_option linter.unusedVariables false
set_option linter.unusedSimpArgs false
def wPair (n c : Int) : Int × Int × Bool := if 0 ≤ n ∧ n < 8 ∧ 65536 ≤ c ∧ c ≤ 1114111 then (n * 32 + (c - 65536) / 128 / 256, (c - 65536) / 128 % 256, true) else (0, 0, false)
theorem pair_calls (n c : Int) (w : World) (h0 : 0 ≤ c) (h1 : c ≤ 4294967295) : Calls Try.prog 63 #[.int .i64 n, .int .u32 c] w fun e w' => e = .returned (.tuple #[.int .u8 (wPair n c).1, .int .u8 (wPair n c).2.1, .bool (wPair n c).2.2]) ∧ w = w' := by
  by_cases ha : 0 ≤ n ∧ n < 8 ∧ 65536 ≤ c ∧ c ≤ 1114111
  · have he : wPair n c = (n * 32 + (c - 65536) / 128 / 256, (c - 65536) / 128 % 256, true) := by unfold wPair; rw [if_pos ha]
    rw [he]
    obtain ⟨a1, a2, a3, a4⟩ := ha
    have a5 : 0 ≤ c - 65536 := by omega
    have or1 : bits .or .u8 (n * 32) ((c - 65536) / 128 / 256) = n * 32 + (c - 65536) / 128 / 256 := bits_join .u8 8 (by decide) wraps_u8 5 (n * 32) _ (by omega) (by omega) (by omega) (by omega) (by omega) (by omega)
    have HO := Lib.hid or1
    clear or1 he
    go_enter Try.func63, Try.ntmps63
    go_wp2
    go_ret3
    exact ⟨by simp only [HO.out]; simp, rfl⟩
  · have he : wPair n c = (0, 0, false) := by unfold wPair; rw [if_neg ha]
    rw [he]
    clear he
    by_cases b1 : 0 ≤ n
    · by_cases b2 : n < 8
      · by_cases b3 : 65536 ≤ c
        · have b4 : ¬ c ≤ 1114111 := by omega
          clear ha
          go_enter Try.func63, Try.ntmps63
          go_wp2
          go_ret3
          exact ⟨rfl, rfl⟩
        · clear ha
          go_enter Try.func63, Try.ntmps63
          go_wp2
          go_ret3
          exact ⟨rfl, rfl⟩
      · clear ha
        go_enter Try.func63, Try.ntmps63
        go_wp2
        go_ret3
        exact ⟨rfl, rfl⟩
    · clear ha
      go_enter Try.func63, Try.ntmps63
      go_wp2
      go_ret3
      exact ⟨rfl, rfl⟩
end Go.Proofs.Ytkfiahildoljfaa.Win
