/- The sum's machine: more bytes are added. -/
import Derived.Test.YtfpbeadgpkkknaaProg
import Derived.Test.YtfpbeadgpkkknaaMath
import Derived.Test.YtfpbeadgpkkknaaWMore
namespace Go.Proofs.Ytfpbeadgpkkknaa.Crc
open Go.RowKit
set_option linter.unusedVariables false
def byteAt (s : ByteArray) (k : Nat) : Nat := if h : k < s.size then (s[k]'h).toNat else 0
/-- The state behind k bytes. -/
def runB (s : ByteArray) (v : BitVec 32) : Nat → BitVec 32
  | 0 => v
  | k + 1 => stpN (runB s v k ^^^ BitVec.ofNat 32 (byteAt s k)) 8
def n32 (v : BitVec 32) : Int := (v.toNat : Int)
/-- The sum behind these bytes. -/
def addB (v : BitVec 32) (s : ByteArray) : BitVec 32 := ~~~(runB s (~~~v) s.size)
theorem n32_lo (v : BitVec 32) : 0 ≤ n32 v := by unfold n32; omega
theorem n32_hi (v : BitVec 32) : n32 v < 4294967296 := by have := v.isLt; unfold n32; omega
theorem u32_of (v : BitVec 32) : IntKind.u32.wrap (v.toNat : Int) = (v.toNat : Int) := by have := v.isLt; rw [IntKind.wrap_u32]; omega
theorem ofInt_n32 (v : BitVec 32) : BitVec.ofInt 32 (n32 v) = v := by unfold n32; simp
theorem bits_xor (a b : BitVec 32) : bits BinOp.xor IntKind.u32 (n32 a) (n32 b) = n32 (a ^^^ b) := by
  show IntKind.u32.wrap (((BitVec.ofInt 32 (n32 a)) ^^^ (BitVec.ofInt 32 (n32 b))).toNat : Int) = _
  rw [ofInt_n32, ofInt_n32, u32_of]; rfl
theorem bits_and (a b : BitVec 32) : bits BinOp.and IntKind.u32 (n32 a) (n32 b) = n32 (a &&& b) := by
  show IntKind.u32.wrap (((BitVec.ofInt 32 (n32 a)) &&& (BitVec.ofInt 32 (n32 b))).toNat : Int) = _
  rw [ofInt_n32, ofInt_n32, u32_of]; rfl
theorem n32_ofNat (n : Nat) (h : n < 4294967296) : (n : Int) = n32 (BitVec.ofNat 32 n) := by unfold n32; rw [BitVec.toNat_ofNat, Nat.mod_eq_of_lt h]
theorem n32_half (v : BitVec 32) : n32 v / (2 : Int) = n32 (v >>> 1) := by unfold n32; rw [BitVec.toNat_ushiftRight, Nat.shiftRight_eq_div_pow]; omega
theorem n32_neg (v : BitVec 32) : -n32 v % 4294967296 = n32 (-v) := by
  have := v.isLt
  unfold n32
  rw [BitVec.toNat_neg]
  omega
theorem e_not (v : BitVec 32) : bits BinOp.xor IntKind.u32 IntKind.u32.max (n32 v) = n32 (~~~v) := by
  rw [show IntKind.u32.max = n32 (BitVec.allOnes 32) from by rfl, bits_xor, BitVec.allOnes_xor]
theorem byteAt_lt (s : ByteArray) (k : Nat) : byteAt s k < 256 := by
  unfold byteAt; split
  · exact (s[k]'‹_›).toNat_lt
  · omega
theorem e_byte (v : BitVec 32) (s : ByteArray) (k : Nat) (h : k < s.size) : bits BinOp.xor IntKind.u32 (n32 v) (((s[k]'h).toNat : Int) % 4294967296) = n32 (v ^^^ BitVec.ofNat 32 (byteAt s k)) := by
  have hb : ((s[k]'h).toNat : Int) % 4294967296 = n32 (BitVec.ofNat 32 (byteAt s k)) := by
    have h1 := byteAt_lt s k
    rw [← n32_ofNat _ (by omega)]
    unfold byteAt at h1 ⊢
    rw [dif_pos h] at h1 ⊢
    omega
  rw [hb, bits_xor]
theorem stp_bits (x : BitVec 32) : (x >>> 1) ^^^ (P &&& -(x &&& 1#32)) = stp x := by
  unfold stp
  congr 1
  have h : x &&& 1#32 = if x.getLsbD 0 then 1#32 else 0#32 := by
    apply BitVec.eq_of_getLsbD_eq
    intro i hi
    rw [BitVec.getLsbD_and]
    rcases Nat.eq_zero_or_pos i with rfl | hp
    · cases x.getLsbD 0 <;> simp
    · have : (1#32).getLsbD i = false := by simp; omega
      rw [this]
      cases x.getLsbD 0 <;> simp [this]
  rw [h]
  cases x.getLsbD 0
  · simp
  · simp only [if_true]; decide
theorem e_step (x : BitVec 32) : bits BinOp.xor IntKind.u32 (n32 x / 2) (bits BinOp.and IntKind.u32 3988292384 (-bits BinOp.and IntKind.u32 (n32 x) 1 % 4294967296)) = n32 (stp x) := by
  rw [show (1 : Int) = n32 1#32 from rfl, bits_and, n32_half, n32_neg, show (3988292384 : Int) = n32 P from rfl, bits_and, bits_xor, stp_bits]
set_option maxRecDepth 100000 in
set_option maxHeartbeats 1000000 in
theorem add_calls (g : Nat) (v : BitVec 32) (s : ByteArray) (w : World) (hs : s.size ≤ maxLen) (hc : w.cell? ⟨g, 0, none⟩ = some (.int .u32 (n32 v))) (hf : w.frozen? ⟨g, 0, none⟩ = false) :
    Calls Try.prog 12 #[.pointer (some ⟨g, 0, none⟩), .string s] w fun e w' => e = .returned (.tuple #[]) ∧ w' = w.setCell ⟨g, 0, none⟩ (.int .u32 (n32 (addB v s))) := by
  unfold maxLen at hs
  go_enter Try.func12, Try.ntmps12
  go_wp2_with fail
  go_loop [4, 5] (fun x i => ∃ k : Nat, k ≤ s.size ∧ i = .int .i64 k ∧ x = .int .u32 (n32 (runB s (~~~v) k))) (fun _ i => s.size - (intOf i).toNat)
  case atStart => exact ⟨0, Nat.zero_le _, rfl, congrArg (Value.int IntKind.u32) (e_not v)⟩
  case round =>
    obtain ⟨k, hk, rfl, rfl⟩ := hrel
    by_cases hlt : k < s.size
    · go_wp2
      go_loop [4, 23] (fun x i => ∃ j : Nat, j ≤ 8 ∧ i = .int .i64 j ∧ x = .int .u32 (n32 (stpN (runB s (~~~v) k ^^^ BitVec.ofNat 32 (byteAt s k)) j))) (fun _ i => 8 - (intOf i).toNat)
      case atStart => exact ⟨0, by omega, rfl, congrArg (Value.int IntKind.u32) (e_byte _ s k hlt)⟩
      case round =>
        obtain ⟨j, hj, rfl, rfl⟩ := hrel
        generalize hu : runB s (~~~v) k ^^^ BitVec.ofNat 32 (byteAt s k) = u at *
        by_cases hlj : j < 8
        · clear hu
          go_wp2
          exact ⟨⟨j + 1, by omega, by go_num, congrArg (Value.int IntKind.u32) (e_step _)⟩, by simp [intOf]; omega⟩
        · go_wp2
          obtain rfl : j = 8 := by omega
          exact ⟨⟨k + 1, by omega, by go_num, by rw [← hu]; rfl⟩, by simp [intOf]; omega⟩
    · go_wp2
      obtain rfl : k = s.size := by omega
      go_end0
      exact ⟨rfl, by rw [e_not]; rfl⟩
end Go.Proofs.Ytfpbeadgpkkknaa.Crc
