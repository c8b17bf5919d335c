/- CrcLinear: the sum of the mixed texts is their sums, mixed: plain; and the walk's end. -/
import Derived.Test.YtfpbeadgpkkknaaLinear
namespace Go.Proofs.Ytfpbeadgpkkknaa.Lin
set_option linter.unusedVariables false
open Go.RowKit Go.Proofs.YtfpbeadgpkkknaaW.PrintWords Go.Proofs.YtfpbeadgpkkknaaW.PrintLast Go.Proofs.YtfpbeadgpkkknaaW.PrintMore Go.Proofs.Ytfpbeadgpkkknaa.Crc Go.Proofs.Ytfpbeadgpkkknaa.Hand
theorem byteAt_list (s : ByteArray) (k : Nat) : byteAt s k = (s.data.toList.getD k 0).toNat := by
  unfold byteAt
  split
  · rename_i h
    have h' : k < s.data.toList.length := by simpa using h
    rw [List.getD_eq_getElem?_getD, List.getElem?_eq_getElem h']
    simp [ByteArray.getElem_eq_getElem_data]
  · rename_i h
    have h' : s.data.toList.length ≤ k := by simpa using h
    rw [List.getD_eq_getElem?_getD, List.getElem?_eq_none h']; rfl
theorem byteAt_extract (t : ByteArray) (a b k : Nat) (hb : b ≤ t.size) (h : a + k < b) : byteAt (t.extract a b) k = byteAt t (a + k) := by
  rw [byteAt_list, byteAt_list, ByteArray.data_extract, Array.toList_extract, List.extract_eq_take_drop]
  rw [List.getD_eq_getElem?_getD, List.getD_eq_getElem?_getD, List.getElem?_take_of_lt (by omega), List.getElem?_drop]
theorem byteAt_mix (a b c : ByteArray) (n i : Nat) (h : i < n) : byteAt (strOfNums (mixL a b c n)) i = (byteAt a i ^^^ byteAt b i) ^^^ byteAt c i := by
  have h1 : byteAt a i ^^^ byteAt b i < 2 ^ 8 := Nat.xor_lt_two_pow (byteAt_lt a i) (byteAt_lt b i)
  have h2 : (byteAt a i ^^^ byteAt b i) ^^^ byteAt c i < 2 ^ 8 := Nat.xor_lt_two_pow h1 (byteAt_lt c i)
  rw [byteAt_list]
  unfold strOfNums mixL
  simp only [List.map_map, List.getD_eq_getElem?_getD, List.getElem?_map, List.getElem?_range h, Option.map_some, Option.getD_some, Function.comp, UInt8.toNat_ofNat', Int.toNat_natCast]
  rw [Nat.mod_eq_of_lt h2]
theorem not3 (x y z : BitVec 32) : ~~~(x ^^^ y ^^^ z) = ~~~x ^^^ ~~~y ^^^ ~~~z := by
  apply BitVec.eq_of_getLsbD_eq
  intro i hi
  simp only [BitVec.getLsbD_not, BitVec.getLsbD_xor, hi, decide_true, Bool.true_and]
  cases x.getLsbD i <;> cases y.getLsbD i <;> cases z.getLsbD i <;> rfl
theorem linear (a b c : ByteArray) (n : Nat) (h : n = min a.size (min b.size c.size)) : addB 0#32 (strOfNums (mixL a b c n)) = addB 0#32 (a.extract 0 n) ^^^ addB 0#32 (b.extract 0 n) ^^^ addB 0#32 (c.extract 0 n) := by
  have hna : n ≤ a.size := by omega
  have hnb : n ≤ b.size := by omega
  have hnc : n ≤ c.size := by omega
  have sa : (a.extract 0 n).size = n := by rw [ByteArray.size_extract]; omega
  have sb : (b.extract 0 n).size = n := by rw [ByteArray.size_extract]; omega
  have sc : (c.extract 0 n).size = n := by rw [ByteArray.size_extract]; omega
  have sm : (strOfNums (mixL a b c n)).size = n := by rw [strOfNums_size]; unfold mixL; simp
  rw [addB_feed, addB_feed, addB_feed, addB_feed, sa, sb, sc, sm, ← not3]
  congr 1
  have e1 : (~~~0#32 : BitVec 32) = (~~~0#32 ^^^ ~~~0#32) ^^^ ~~~0#32 := by decide
  conv => lhs; rw [e1]
  rw [← feed_xor, ← feed_xor]
  apply feed_congr
  intro i hi
  unfold bitB
  rw [byteAt_mix a b c n _ (by omega), byteAt_extract a 0 n _ hna (by omega), byteAt_extract b 0 n _ hnb (by omega), byteAt_extract c 0 n _ hnc (by omega), Nat.zero_add, Nat.testBit_xor, Nat.testBit_xor]
theorem lin_calls (a b c : ByteArray) (w : World) (ha : a.size ≤ 140737488351232) (hb : b.size ≤ 140737488351232) (hc : c.size ≤ 140737488351232) :
    Calls Try.prog 7 #[.string a, .string b, .string c] w fun e w' => e = .returned (.bool true) ∧ Below w.heap.size w w' :=
  lin_walk a b c w (fun n h _ => linear a b c n h) (by unfold maxLen; omega) (by unfold maxLen; omega) (by unfold maxLen; omega)
end Go.Proofs.Ytfpbeadgpkkknaa.Lin
