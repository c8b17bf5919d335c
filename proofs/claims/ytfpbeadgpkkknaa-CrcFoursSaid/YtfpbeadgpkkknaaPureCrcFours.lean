/- CrcFours over numbers and bytes: any number stands by four bytes, the lowest one first, and is told by them, whatever stands behind. -/
import Derived.Test.YtfpbeadgpkkknaaQCrcFoursx1
import Derived.Lib.EndianBits
namespace Go.Proofs.Ytfpbeadgpkkknaa.Pure
open Go.RowKit Go.Proofs.Ytfpbeadgpkkknaa.QCrcFours Go.Proofs.YtfpbeadgpkkknaaW.PrintWords Go.Proofs.YtfpbeadgpkkknaaW.PrintLast Go.Proofs.Ytfpbeadgpkkknaa.Hand

theorem bt_list (s : ByteArray) (i : Nat) : bt s (i : Int) = ((s.data.toList.getD i 0).toNat : Int) := by
  unfold bt
  simp only [Int.toNat_natCast]
  split
  · rename_i h
    have h' : i < s.data.toList.length := by simpa using h
    rw [List.getD_eq_getElem?_getD, List.getElem?_eq_getElem h']
    simp [ByteArray.getElem_eq_getElem_data]
  · rename_i h
    have h' : s.data.toList.length ≤ i := by simpa using h
    rw [List.getD_eq_getElem?_getD, List.getElem?_eq_none h']; rfl
theorem four_at (a b c d : Int) (t : ByteArray) (ha : 0 ≤ a ∧ a < 256) (hb : 0 ≤ b ∧ b < 256) (hc : 0 ≤ c ∧ c < 256) (hd : 0 ≤ d ∧ d < 256) :
    bt (strOfNums [a, b, c, d] ++ t) 0 = a ∧ bt (strOfNums [a, b, c, d] ++ t) 1 = b ∧ bt (strOfNums [a, b, c, d] ++ t) 2 = c ∧ bt (strOfNums [a, b, c, d] ++ t) 3 = d := by
  have e : (strOfNums [a, b, c, d] ++ t).data.toList = [UInt8.ofNat a.toNat, UInt8.ofNat b.toNat, UInt8.ofNat c.toNat, UInt8.ofNat d.toNat] ++ t.data.toList := by
    rw [ByteArray.data_append]; simp [strOfNums]
  have h0 := bt_list (strOfNums [a, b, c, d] ++ t) 0
  have h1 := bt_list (strOfNums [a, b, c, d] ++ t) 1
  have h2 := bt_list (strOfNums [a, b, c, d] ++ t) 2
  have h3 := bt_list (strOfNums [a, b, c, d] ++ t) 3
  rw [e] at h0 h1 h2 h3
  simp [UInt8.toNat_ofNat'] at h0 h1 h2 h3
  refine ⟨?_, ?_, ?_, ?_⟩
  · rw [h0]; omega
  · rw [h1]; omega
  · rw [h2]; omega
  · rw [h3]; omega
theorem number_app (a b c d : Int) (t : ByteArray) (ha : 0 ≤ a ∧ a < 256) (hb : 0 ≤ b ∧ b < 256) (hc : 0 ≤ c ∧ c < 256) (hd : 0 ≤ d ∧ d < 256) :
    crc_Number.f (strOfNums [a, b, c, d] ++ t) = some (a + b * 256 + c * 65536 + d * 16777216) := by
  obtain ⟨h0, h1, h2, h3⟩ := four_at a b c d t ha hb hc hd
  have hs : (strOfNums [a, b, c, d] ++ t).size = 4 + t.size := by rw [ByteArray.size_append]; rfl
  unfold crc_Number.f
  rw [hs, if_neg (by omega), if_pos (by omega), if_pos (by omega), if_pos (by omega), if_pos (by omega), h0, h1, h2, h3]
  have e1 : bits .or .u32 a (b * 256) = a + b * 256 := bits_join_low .u32 32 (by decide) wraps_u32 8 a (b * 256) ha.1 (by omega) (by omega) (by omega) (by omega) (by omega)
  have e2 : bits .or .u32 (a + b * 256) (c * 65536) = a + b * 256 + c * 65536 := bits_join_low .u32 32 (by decide) wraps_u32 16 (a + b * 256) (c * 65536) (by omega) (by omega) (by omega) (by omega) (by omega) (by omega)
  have e3 : bits .or .u32 (a + b * 256 + c * 65536) (d * 16777216) = a + b * 256 + c * 65536 + d * 16777216 := bits_join_low .u32 32 (by decide) wraps_u32 24 (a + b * 256 + c * 65536) (d * 16777216) (by omega) (by omega) (by omega) (by omega) (by omega) (by omega)
  rw [show a % 4294967296 = a from by omega, show b % 4294967296 * 256 % 4294967296 = b * 256 from by omega, show c % 4294967296 * 65536 % 4294967296 = c * 65536 from by omega, show d % 4294967296 * 16777216 % 4294967296 = d * 16777216 from by omega, e1, e2, e3]

theorem CrcFours : pilcrowlaw16_CrcFours.Pure := by
  intro x t hx ht
  obtain ⟨h0, h1⟩ : 0 ≤ x ∧ x < 4294967296 := by
    have := hx
    simp [Lit.wf, IntKind.min, IntKind.max, IntKind.signed, IntKind.bits] at this
    omega
  refine ⟨1, ?_⟩
  unfold pilcrowlaw16_CrcFours.f
  simp only [pilcrowlaw16_awake.f, Option.bind_some, if_true, pilcrowlaw16_CrcFours.j0]
  by_cases hb : (t.size : Int) > 100
  · rw [if_pos (by simpa using hb)]
  · rw [if_neg (by simpa using hb)]
    have hl : ([Int.tmod x 256 % 256, Int.tdiv x 256 % 4294967296 % 256, Int.tdiv x 65536 % 4294967296 % 256, Int.tdiv x 16777216 % 4294967296 % 256] : List Int) = [x % 256, x / 256 % 256, x / 65536 % 256, x / 16777216 % 256] := by
      rw [Int.tmod_eq_emod_of_nonneg h0, Int.tdiv_eq_ediv_of_nonneg h0, Int.tdiv_eq_ediv_of_nonneg h0, Int.tdiv_eq_ediv_of_nonneg h0]
      congr 1
      · omega
      · congr 1
        · omega
        · congr 1
          · omega
          · congr 1; omega
    unfold crc_Four.f pilcrowref16_Four.f
    rw [hl]
    simp only [Option.bind_some, if_true]
    rw [if_pos (by rw [show (strOfNums [x % 256, x / 256 % 256, x / 65536 % 256, x / 16777216 % 256]).size = 4 from rfl]; omega), number_app _ _ _ _ _ (by omega) (by omega) (by omega) (by omega)]
    simp only [Option.bind_some]
    rw [if_pos (by omega)]
    by_cases h3 : (t.size : Int) > 3
    · rw [if_pos h3]
    · rw [if_neg h3]
      unfold crc_Number.f
      rw [if_pos (by omega)]; rfl
end Go.Proofs.Ytfpbeadgpkkknaa.Pure
