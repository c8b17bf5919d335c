/- CrcSums over numbers and bytes: any bytes have the sum that the reference says, and no other one. -/
import Derived.Test.YtfpbeadgpkkknaaQCrcSumsx1
import Derived.Test.YtfpbeadgpkkknaaRef
namespace Go.Proofs.Ytfpbeadgpkkknaa.Pure
open Go.RowKit Go.Proofs.Ytfpbeadgpkkknaa.QCrcSums Go.Proofs.YtfpbeadgpkkknaaW.PrintWords Go.Proofs.YtfpbeadgpkkknaaW.PrintLast Go.Proofs.Ytfpbeadgpkkknaa.Crc Go.Proofs.Ytfpbeadgpkkknaa.Hand

theorem bt_byteAt (s : ByteArray) (k : Nat) : bt s (k : Int) = (byteAt s k : Int) := by
  unfold bt byteAt
  simp only [Int.toNat_natCast]
  split <;> rfl
theorem testBit_div (n m : Nat) : n.testBit m = (n / 2 ^ m % 2 == 1) := by
  rw [Nat.testBit_eq_decide_div_mod_eq]
  exact Bool.beq_eq_decide_eq _ _ |>.symm
theorem w64 {i : Nat} (h : i ≤ 1000000) : wrap64 ((i : Int) + 1) = ((i + 1 : Nat) : Int) := by unfold wrap64; omega
theorem bit_loop (i : Nat) (hi : i ≤ 1000000) : ∀ (d j k b : Nat), d + j = i % 8 → d < k → b < 256 → pilcrowref16_Bit.l0 k (i : Int) (b : Int) (j : Int) = some (b / 2 ^ d % 2 == 1)
  | 0, j, k, b, h, hk, hb => by
    obtain ⟨k, rfl⟩ : ∃ m, k = m + 1 := ⟨k - 1, by omega⟩
    simp only [pilcrowref16_Bit.l0]
    rw [Int.tmod_eq_emod_of_nonneg (by omega), Int.tmod_eq_emod_of_nonneg (by omega), if_neg (by omega)]
    congr 1
    rw [Bool.eq_iff_iff]
    simp
    omega
  | d + 1, j, k, b, h, hk, hb => by
    obtain ⟨k, rfl⟩ : ∃ m, k = m + 1 := ⟨k - 1, by omega⟩
    simp only [pilcrowref16_Bit.l0]
    rw [Int.tmod_eq_emod_of_nonneg (by omega), Int.tdiv_eq_ediv_of_nonneg (by omega), if_pos (by omega), w64 (by omega), show ((b : Int) / 2) % 256 = ((b / 2 : Nat) : Int) from by omega, bit_loop i hi d (j + 1) k (b / 2) (by omega) (by omega) (by omega)]
    rw [Nat.pow_succ, Nat.mul_comm, ← Nat.div_div_eq_div_mul]
theorem bit_ref (s : ByteArray) (hs : s.size ≤ 100000) (i k : Nat) (hi : i < 8 * s.size) (hk : 8 ≤ k) : pilcrowref16_Bit.f k s (i : Int) = some (bitB s i) := by
  unfold pilcrowref16_Bit.f
  rw [Int.tdiv_eq_ediv_of_nonneg (by omega), show wrap64 ((i : Int) / 8) = ((i / 8 : Nat) : Int) from by unfold wrap64; omega, if_pos (by omega), if_pos (by omega), bt_byteAt]
  have := bit_loop i (by omega) (i % 8) 0 k (byteAt s (i / 8)) (by omega) (by omega) (byteAt_lt _ _)
  rw [show ((0 : Nat) : Int) = 0 from rfl] at this
  rw [this]
  unfold bitB
  rw [testBit_div]
theorem of_loop (s : ByteArray) (hs : s.size ≤ 100000) : ∀ (d i k : Nat), d + i = 8 * s.size → d + 10 ≤ k → pilcrowref16_Of.l0 k s (n32 (feed (bitB s) (BitVec.allOnes 32) i)) (i : Int) = some (n32 (~~~(feed (bitB s) (BitVec.allOnes 32) (8 * s.size))))
  | 0, i, k, h, hk => by
    obtain ⟨k, rfl⟩ : ∃ m, k = m + 1 := ⟨k - 1, by omega⟩
    simp only [pilcrowref16_Of.l0]
    rw [show wrap64 (8 * (s.size : Int)) = ((8 * s.size : Nat) : Int) from by unfold wrap64; omega, if_neg (by omega), n32_not, show i = 8 * s.size by omega]
  | d + 1, i, k, h, hk => by
    obtain ⟨k, rfl⟩ : ∃ m, k = m + 1 := ⟨k - 1, by omega⟩
    have ih := of_loop s hs d (i + 1) k (by omega) (by omega)
    simp only [feed] at ih
    simp only [pilcrowref16_Of.l0]
    rw [show wrap64 (8 * (s.size : Int)) = ((8 * s.size : Nat) : Int) from by unfold wrap64; omega, if_pos (by omega), bit_ref s hs i k (by omega) (by omega), w64 (by omega)]
    simp only [Option.bind_some]
    rw [n32_tdiv, bits_P]
    generalize feed (bitB s) (BitVec.allOnes 32) i = v at *
    by_cases ho : v.getLsbD 0 = true
    · have ho' := (n32_odd v).2 ho
      cases hb : bitB s i with
      | true => rw [hb] at ih; rw [if_pos rfl, if_pos ho', ← stp_bit_same v true ho]; exact ih
      | false => rw [hb] at ih; rw [if_neg (by decide), if_pos ho', ← stp_bit_other v false ho]; exact ih
    · have ho' := fun h => ho ((n32_odd v).1 h)
      have hf : v.getLsbD 0 = false := by simpa using ho
      cases hb : bitB s i with
      | true => rw [hb] at ih; rw [if_pos rfl, if_neg ho', ← stp_bit_other v true hf]; exact ih
      | false => rw [hb] at ih; rw [if_neg (by decide), if_neg ho', ← stp_bit_same v false hf]; exact ih
theorem of_ref (s : ByteArray) (hs : s.size ≤ 100000) (k : Nat) (hk : 8 * s.size + 10 ≤ k) : pilcrowref16_Of.f k s = some (n32 (addB 0#32 s)) := by
  unfold pilcrowref16_Of.f
  have := of_loop s hs (8 * s.size) 0 k (by omega) (by omega)
  rw [show ((0 : Nat) : Int) = 0 from rfl] at this
  simp only [feed] at this
  rw [show (4294967295 : Int) = n32 (BitVec.allOnes 32) from by rfl, this, addB_feed]
  rfl
theorem is_f (s : ByteArray) (x : Int) (h : s.size ≤ maxLen) : crc_Is.f s x = some (n32 (addB 0#32 s) == x) := by
  unfold crc_Is.f
  rw [of_one h]; rfl

theorem CrcSums : pilcrowlaw16_CrcSums.Pure := by
  intro s x hs _
  have hm : s.size ≤ maxLen := by unfold maxLen; omega
  refine ⟨8 * s.size + 11, ?_⟩
  unfold pilcrowlaw16_CrcSums.f
  simp only [pilcrowlaw16_awake.f, Option.bind_some, if_true, pilcrowlaw16_CrcSums.j0]
  by_cases hb : (s.size : Int) > 2000
  · rw [if_pos (by simpa using hb)]
  · rw [if_neg (by simpa using hb), of_ref s (by omega) _ (by omega), of_one hm]
    simp only [Option.bind_some, if_true]
    rw [is_f _ _ hm, is_f _ _ hm]
    simp
    exact Bool.beq_comm ..
end Go.Proofs.Ytfpbeadgpkkknaa.Pure
