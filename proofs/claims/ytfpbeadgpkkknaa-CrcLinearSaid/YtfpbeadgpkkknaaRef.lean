/- The sum by bytes is the sum by bits: plain. -/
import Derived.Test.YtfpbeadgpkkknaaAdd
namespace Go.Proofs.Ytfpbeadgpkkknaa.Crc
open Go.RowKit
set_option linter.unusedVariables false
def bitB (s : ByteArray) (k : Nat) : Bool := (byteAt s (k / 8)).testBit (k % 8)
theorem runB_feed (s : ByteArray) (v : BitVec 32) (n : Nat) : runB s v n = feed (bitB s) v (8 * n) := by
  induction n with
  | zero => rfl
  | succ n ih =>
    have hb := byteAt_lt s n
    simp only [runB]
    rw [ih, feed_word _ _ 8 (by decide), Nat.mul_add, Nat.mul_one, feed_add]
    have hz : (BitVec.ofNat 32 (byteAt s n)) >>> 8 = 0#32 := by
      apply BitVec.eq_of_toNat_eq
      rw [BitVec.toNat_ushiftRight, BitVec.toNat_ofNat, Nat.shiftRight_eq_div_pow, Nat.mod_eq_of_lt (by omega)]
      simp; omega
    rw [hz, BitVec.xor_zero]
    apply feed_congr
    intro i hi
    unfold bitB
    rw [BitVec.getLsbD_ofNat, show (8 * n + i) / 8 = n by omega, show (8 * n + i) % 8 = i by omega]
    simp; omega
theorem addB_feed (v : BitVec 32) (s : ByteArray) : addB v s = ~~~(feed (bitB s) (~~~v) (8 * s.size)) := by unfold addB; rw [runB_feed]
theorem n32_odd (v : BitVec 32) : Int.tmod (n32 v) 2 = 1 ↔ v.getLsbD 0 = true := by
  rw [Int.tmod_eq_emod_of_nonneg (n32_lo v)]
  unfold n32
  rw [BitVec.getLsbD, Nat.testBit_zero]
  simp; omega
theorem n32_tdiv (v : BitVec 32) : Int.tdiv (n32 v) 2 % (4294967296 : Int) = n32 (v >>> 1) := by
  rw [Int.tdiv_eq_ediv_of_nonneg (n32_lo v), n32_half]
  have := n32_lo (v >>> 1); have := n32_hi (v >>> 1); omega
theorem bits_P (v : BitVec 32) : bits BinOp.xor IntKind.u32 (n32 v) 3988292384 = n32 (v ^^^ P) := by
  rw [show (3988292384 : Int) = n32 P from rfl, bits_xor]
theorem stp_bit_same (v : BitVec 32) (b : Bool) (h : v.getLsbD 0 = b) : stp (v ^^^ bit b) = v >>> 1 := by
  rw [stp_xor]
  unfold stp
  rw [h]
  cases b <;> simp [bit]
  have : (1#32 >>> 1) = 0#32 := by decide
  rw [BitVec.xor_assoc]
  simp
theorem stp_bit_other (v : BitVec 32) (b : Bool) (h : v.getLsbD 0 = !b) : stp (v ^^^ bit b) = (v >>> 1) ^^^ P := by
  rw [stp_xor]
  unfold stp
  rw [h]
  cases b <;> simp [bit]
theorem n32_not (v : BitVec 32) : (4294967295 - n32 v) % 4294967296 = n32 (~~~v) := by
  have := v.isLt
  unfold n32
  rw [BitVec.toNat_not]
  omega
end Go.Proofs.Ytfpbeadgpkkknaa.Crc
