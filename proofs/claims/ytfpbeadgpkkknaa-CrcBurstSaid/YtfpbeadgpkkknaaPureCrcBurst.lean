/- CrcBurst over numbers and bytes: behind a burst of at most 32 bits the bytes have not that sum. -/
import Derived.Test.YtfpbeadgpkkknaaQCrcBurstx2
import Derived.Test.YtfpbeadgpkkknaaRef
import Derived.Lib.EndianBits
namespace Go.Proofs.Ytfpbeadgpkkknaa.Pure
open Go.RowKit Go.Proofs.Ytfpbeadgpkkknaa.QCrcBurst Go.Proofs.YtfpbeadgpkkknaaW.PrintWords Go.Proofs.YtfpbeadgpkkknaaW.PrintLast Go.Proofs.Ytfpbeadgpkkknaa.Crc Go.Proofs.Ytfpbeadgpkkknaa.Hand
set_option linter.unusedVariables false
def bitL (l : List UInt8) (k : Nat) : Bool := (l.getD (k / 8) 0).toNat.testBit (k % 8)
theorem byteAt_list (s : ByteArray) (k : Nat) : byteAt s k = (s.data.toList.getD k 0).toNat := by
  unfold byteAt
  split
  · rename_i h
    have h' : k < s.data.toList.length := by simpa using h
    rw [List.getD_eq_getElem?_getD, List.getElem?_eq_getElem h']
    simp [ByteArray.getElem_eq_getElem_data]
  · rename_i h
    have h' : s.data.toList.length ≤ k := by simpa using h
    rw [List.getD_eq_getElem?_getD, List.getElem?_eq_none h']; rfl
theorem bitB_list (s : ByteArray) (k : Nat) : bitB s k = bitL s.data.toList k := by unfold bitB bitL; rw [byteAt_list]
theorem bit_turn1 (l : List UInt8) (j k : Nat) (hj : j < 8 * l.length) : bitL (turn1 l j) k = (bitL l k ^^ decide (k = j)) := by
  unfold bitL turn1
  by_cases h : k / 8 = j / 8
  · rw [h, List.getD_eq_getElem?_getD, List.getElem?_set_self (by omega)]
    generalize hx : l.getD (j / 8) 0 = x
    have hx8 : x.toNat < 2 ^ 8 := x.toNat_lt
    have hp := pow_lt j
    have hxo : x.toNat ^^^ 2 ^ (j % 8) < 2 ^ 8 := Nat.xor_lt_two_pow hx8 hp
    simp only [Option.getD_some, UInt8.toNat_ofNat']
    rw [Nat.mod_eq_of_lt hxo, Nat.testBit_xor, Nat.testBit_two_pow]
    congr 1
    rw [decide_eq_decide]
    omega
  · rw [List.getD_eq_getElem?_getD, List.getElem?_set_ne (by omega), ← List.getD_eq_getElem?_getD]
    have : decide (k = j) = false := by simp; rintro rfl; exact h rfl
    rw [this]; simp
/-- Which bits the burst turns. -/
def brst (a p m k : Nat) : Bool := decide (a ≤ k) && decide (k < a + m) && p.testBit (k - a)
theorem bit_spl (l : List UInt8) (a p : Nat) : ∀ m k, a + m ≤ 8 * l.length → bitL (spl l a p m) k = (bitL l k ^^ brst a p m k)
  | 0, k, h => by
    have : brst a p 0 k = false := by unfold brst; simp; omega
    rw [this]; simp [spl]
  | m + 1, k, h => by
    have ih := bit_spl l a p m k (by omega)
    unfold spl
    split
    · rename_i ht
      rw [bit_turn1 _ _ _ (by rw [spl_length]; omega), ih, Bool.xor_assoc]
      congr 1
      unfold brst
      by_cases hk : k = a + m
      · subst hk
        simp [ht]
      · have e : decide (k < a + (m + 1)) = decide (k < a + m) := by rw [decide_eq_decide]; omega
        rw [e]; simp [hk]
    · rename_i ht
      rw [ih]
      congr 1
      unfold brst
      by_cases hk : k = a + m
      · subst hk
        simp [ht]
      · have e : decide (k < a + (m + 1)) = decide (k < a + m) := by rw [decide_eq_decide]; omega
        rw [e]
theorem any_iff (p : Nat) : ∀ m, anyN p m = false ↔ ∀ i, i < m → p.testBit i = false
  | 0 => by simp [anyN]
  | m + 1 => by
    rw [anyN, Bool.or_eq_false_iff, any_iff p m]
    constructor
    · rintro ⟨h1, h2⟩ i hi
      by_cases h : i = m
      · rw [h]; exact h1
      · exact h2 i (by omega)
    · intro h; exact ⟨h m (by omega), fun i hi => h i (by omega)⟩
/-- A burst of at most 32 bits, fed from zero, gives zero just if it turns nothing. -/
theorem feed_burst (a p m n : Nat) (hm : m ≤ 32) (hn : a + m ≤ n) : feed (brst a p m) 0#32 n = 0#32 ↔ anyN p m = false := by
  obtain ⟨d, rfl⟩ : ∃ d, n = a + (m + d) := ⟨n - (a + m), by omega⟩
  have z0 : feed (brst a p m) 0#32 a = 0#32 := (feed_zeros (fun i hi => by unfold brst; simp; omega)).2 rfl
  rw [feed_add, z0, feed_add, feed_zeros (fun i hi => by unfold brst; simp; omega), feed_short hm, any_iff]
  constructor
  · intro h i hi
    have := h i hi
    unfold brst at this
    simpa [hi] using this
  · intro h i hi
    unfold brst
    simp [h i hi]
theorem four_bits (b0 b1 b2 b3 : Nat) (h0 : b0 < 256) (h1 : b1 < 256) (h2 : b2 < 256) (h3 : b3 < 256) (i : Nat) (hi : i < 32) :
    (b0 + b1 * 256 + b2 * 65536 + b3 * 16777216).testBit i = (([b0, b1, b2, b3] : List Nat).getD (i / 8) 0).testBit (i % 8) := by
  have e : b0 + b1 * 256 + b2 * 65536 + b3 * 16777216 = 2 ^ 8 * (2 ^ 8 * (2 ^ 8 * b3 + b2) + b1) + b0 := by omega
  rw [e, Nat.testBit_two_pow_mul_add _ h0, Nat.testBit_two_pow_mul_add _ h1, Nat.testBit_two_pow_mul_add _ h2]
  by_cases c0 : i < 8
  · rw [if_pos c0, show i / 8 = 0 by omega, show i % 8 = i by omega]; rfl
  · rw [if_neg c0]
    by_cases c1 : i - 8 < 8
    · rw [if_pos c1, show i / 8 = 1 by omega, show i % 8 = i - 8 by omega]; rfl
    · rw [if_neg c1]
      by_cases c2 : i - 8 - 8 < 8
      · rw [if_pos c2, show i / 8 = 2 by omega, show i % 8 = i - 8 - 8 by omega]; rfl
      · rw [if_neg c2, show i / 8 = 3 by omega, show i % 8 = i - 8 - 8 - 8 by omega]; rfl
theorem bt_byteAt (s : ByteArray) (k : Nat) : bt s (k : Int) = (byteAt s k : Int) := by
  unfold bt byteAt
  simp only [Int.toNat_natCast]
  split <;> rfl
theorem number_bits (t : ByteArray) (ht : t.size = 4) : ∃ V : BitVec 32, crc_Number.f t = some (n32 V) ∧ ∀ i, i < 32 → V.getLsbD i = bitB t i := by
  have q0 := byteAt_lt t 0
  have q1 := byteAt_lt t 1
  have q2 := byteAt_lt t 2
  have q3 := byteAt_lt t 3
  refine ⟨BitVec.ofNat 32 (byteAt t 0 + byteAt t 1 * 256 + byteAt t 2 * 65536 + byteAt t 3 * 16777216), ?_, ?_⟩
  · have c0 := bt_byteAt t 0
    have c1 := bt_byteAt t 1
    have c2 := bt_byteAt t 2
    have c3 := bt_byteAt t 3
    rw [show ((0 : Nat) : Int) = 0 from rfl] at c0
    rw [show ((1 : Nat) : Int) = 1 from rfl] at c1
    rw [show ((2 : Nat) : Int) = 2 from rfl] at c2
    rw [show ((3 : Nat) : Int) = 3 from rfl] at c3
    unfold crc_Number.f
    rw [ht, if_neg (by decide), if_pos (by decide), if_pos (by decide), if_pos (by decide), if_pos (by decide), c0, c1, c2, c3]
    obtain ⟨a, ha⟩ : ∃ a : Int, a = (byteAt t 0 : Int) := ⟨_, rfl⟩
    obtain ⟨b, hb⟩ : ∃ a : Int, a = (byteAt t 1 : Int) := ⟨_, rfl⟩
    obtain ⟨c, hc⟩ : ∃ a : Int, a = (byteAt t 2 : Int) := ⟨_, rfl⟩
    obtain ⟨d, hd⟩ : ∃ a : Int, a = (byteAt t 3 : Int) := ⟨_, rfl⟩
    rw [← n32_ofNat _ (by omega)]
    rw [show ((byteAt t 0 + byteAt t 1 * 256 + byteAt t 2 * 65536 + byteAt t 3 * 16777216 : Nat) : Int) = a + b * 256 + c * 65536 + d * 16777216 from by omega, ← ha, ← hb, ← hc, ← hd]
    have e1 : bits .or .u32 a (b * 256) = a + b * 256 := bits_join_low .u32 32 (by decide) wraps_u32 8 a (b * 256) (by omega) (by omega) (by omega) (by omega) (by omega) (by omega)
    have e2 : bits .or .u32 (a + b * 256) (c * 65536) = a + b * 256 + c * 65536 := bits_join_low .u32 32 (by decide) wraps_u32 16 (a + b * 256) (c * 65536) (by omega) (by omega) (by omega) (by omega) (by omega) (by omega)
    have e3 : bits .or .u32 (a + b * 256 + c * 65536) (d * 16777216) = a + b * 256 + c * 65536 + d * 16777216 := bits_join_low .u32 32 (by decide) wraps_u32 24 (a + b * 256 + c * 65536) (d * 16777216) (by omega) (by omega) (by omega) (by omega) (by omega) (by omega)
    rw [show a % 4294967296 = a from by omega, show b % 4294967296 * 256 % 4294967296 = b * 256 from by omega, show c % 4294967296 * 65536 % 4294967296 = c * 65536 from by omega, show d % 4294967296 * 16777216 % 4294967296 = d * 16777216 from by omega, e1, e2, e3]
  · intro i hi
    rw [BitVec.getLsbD_ofNat, four_bits _ _ _ _ q0 q1 q2 q3 i hi]
    unfold bitB
    have hq : i / 8 = 0 ∨ i / 8 = 1 ∨ i / 8 = 2 ∨ i / 8 = 3 := by omega
    rcases hq with h | h | h | h <;> rw [h] <;> simp [hi]
/-- The number's own four bytes. -/
theorem four_f (C : BitVec 32) : ∃ t : ByteArray, crc_Four.f (n32 C) = some t ∧ t.size = 4 ∧ ∀ i, i < 32 → bitB t i = C.getLsbD i := by
  refine ⟨_, rfl, rfl, fun i hi => ?_⟩
  rw [bitB_list]
  unfold bitL
  have hC := C.isLt
  obtain ⟨N, hN⟩ : ∃ N, N = C.toNat := ⟨_, rfl⟩
  have e : (strOfNums [n32 C % 256, n32 C / 256 % 256, n32 C / 65536 % 256, n32 C / 16777216 % 256]).data.toList = [UInt8.ofNat (N % 256), UInt8.ofNat (N / 256 % 256), UInt8.ofNat (N / 65536 % 256), UInt8.ofNat (N / 16777216 % 256)] := by
    unfold n32
    rw [← hN]
    simp only [strOfNums]
    have t0 : ((N : Int) % 256).toNat = N % 256 := by omega
    have t1 : ((N : Int) / 256 % 256).toNat = N / 256 % 256 := by omega
    have t2 : ((N : Int) / 65536 % 256).toNat = N / 65536 % 256 := by omega
    have t3 : ((N : Int) / 16777216 % 256).toNat = N / 16777216 % 256 := by omega
    simp [t0, t1, t2, t3]
  rw [e]
  show _ = C.toNat.testBit i
  rw [← hN]
  have hb : ∀ q r : Nat, r < 8 → (N / 2 ^ (8 * q) % 2 ^ 8).testBit r = N.testBit (8 * q + r) := by
    intro q r hr
    rw [Nat.testBit_mod_two_pow, Nat.testBit_div_two_pow]
    simp [hr, Nat.add_comm]
  have hu : ∀ x : Nat, (UInt8.ofNat (x % 256)).toNat = x % 2 ^ 8 := by intro x; rw [UInt8.toNat_ofNat']; omega
  have hr : i % 8 < 8 := by omega
  have hq : i / 8 = 0 ∨ i / 8 = 1 ∨ i / 8 = 2 ∨ i / 8 = 3 := by omega
  rcases hq with h | h | h | h
  · have := hb 0 (i % 8) hr
    rw [h]
    show (UInt8.ofNat (N % 256)).toNat.testBit (i % 8) = _
    rw [hu, show i = 8 * 0 + i % 8 by omega]
    simpa using this
  · have := hb 1 (i % 8) hr
    rw [h]
    show (UInt8.ofNat (N / 256 % 256)).toNat.testBit (i % 8) = _
    rw [hu]
    rw [show 8 * 1 + i % 8 = i by omega] at this
    exact this
  · have := hb 2 (i % 8) hr
    rw [h]
    show (UInt8.ofNat (N / 65536 % 256)).toNat.testBit (i % 8) = _
    rw [hu]
    rw [show 8 * 2 + i % 8 = i by omega] at this
    exact this
  · have := hb 3 (i % 8) hr
    rw [h]
    show (UInt8.ofNat (N / 16777216 % 256)).toNat.testBit (i % 8) = _
    rw [hu]
    rw [show 8 * 3 + i % 8 = i by omega] at this
    exact this
theorem byteAt_extract (t : ByteArray) (a b k : Nat) (hb : b ≤ t.size) (h : a + k < b) : byteAt (t.extract a b) k = byteAt t (a + k) := by
  rw [byteAt_list, byteAt_list, ByteArray.data_extract, Array.toList_extract, List.extract_eq_take_drop]
  rw [List.getD_eq_getElem?_getD, List.getD_eq_getElem?_getD, List.getElem?_take_of_lt (by omega), List.getElem?_drop]
theorem byteAt_append_left (s t : ByteArray) (k : Nat) (h : k < s.size) : byteAt (s ++ t) k = byteAt s k := by
  unfold byteAt
  rw [dif_pos (by rw [ByteArray.size_append]; omega), dif_pos h, ByteArray.getElem_append_left h]
theorem byteAt_append_right (s t : ByteArray) (k : Nat) (h : k < t.size) : byteAt (s ++ t) (s.size + k) = byteAt t k := by
  unfold byteAt
  rw [dif_pos (by rw [ByteArray.size_append]; omega), dif_pos h, ByteArray.getElem_append_right (by omega)]
  simp
/-- The heart: the bytes with the burst have the number with the burst for a sum just if it turns nothing. -/
theorem heart (C G E : BitVec 32) (a p m n : Nat) (hm : m ≤ 32) (hn : a + m ≤ 8 * n + 32) (hG : G = feed (brst a p m) 0#32 (8 * n)) (hE : ∀ i, i < 32 → E.getLsbD i = brst a p m (8 * n + i)) :
    (n32 (C ^^^ G) == n32 (C ^^^ E)) = !anyN p m := by
  have h1 := feed_word E G 32 (by decide)
  have hz : E >>> 32 = 0#32 := by
    apply BitVec.eq_of_getLsbD_eq
    intro i hi
    rw [BitVec.getLsbD_ushiftRight, BitVec.getLsbD_of_ge _ _ (by omega)]; simp
  rw [hz, BitVec.xor_zero, feed_congr (g := fun i => brst a p m (8 * n + i)) hE, hG, ← feed_add, ← hG] at h1
  have h2 := stpN_zero_iff (G ^^^ E) 32
  rw [h1, feed_burst a p m _ hm hn] at h2
  have h3 : n32 (C ^^^ G) = n32 (C ^^^ E) ↔ G ^^^ E = 0#32 := by
    constructor
    · intro h
      have : C ^^^ G = C ^^^ E := by
        have := congrArg (BitVec.ofInt 32) h
        rwa [ofInt_n32, ofInt_n32] at this
      have hh := congrArg (C ^^^ ·) this
      simp only [← BitVec.xor_assoc, BitVec.xor_self, BitVec.zero_xor] at hh
      rw [hh, BitVec.xor_self]
    · intro h
      have hh := congrArg (· ^^^ E) h
      simp only [BitVec.xor_assoc, BitVec.xor_self, BitVec.xor_zero, BitVec.zero_xor] at hh
      rw [hh]
  cases ha : anyN p m with
  | false => simp [h3.2 (h2.1 ha)]
  | true =>
    have : ¬ n32 (C ^^^ G) = n32 (C ^^^ E) := fun h => by have := h2.2 (h3.1 h); rw [ha] at this; cases this
    simp [this]
theorem spoil_f (u : ByteArray) (a p n : Nat) (hu : u.size = n) (hn : n ≤ 500) (ha : a ≤ 10000) (hp : p < 4294967296) : ∃ (S : ByteArray) (m : Nat), pilcrowref16_Spoil.f u (a : Int) (p : Int) = some (S, anyN p m) ∧ m ≤ 32 ∧ (a ≤ 8 * n → a + m ≤ 8 * n) ∧ S.size = n ∧ (a ≤ 8 * n → ∀ k, bitB S k = (bitB u k ^^ brst a p m k)) := by
  have hl : u.data.toList.length = n := by rw [Array.length_toList]; exact hu
  refine ⟨⟨(spl u.data.toList a p (rounds a n)).toArray⟩, rounds a n, ?_, by unfold rounds; exact Nat.min_le_left _ _, ?_, ?_, ?_⟩
  · unfold pilcrowref16_Spoil.f
    rw [hu, if_pos ⟨Int.natCast_nonneg _, by omega, by omega, Int.natCast_nonneg _, by omega⟩, Int.toNat_natCast, Int.toNat_natCast]
  · intro h
    have : rounds a n ≤ 8 * n - a := by unfold rounds; exact Nat.min_le_right _ _
    omega
  · show (List.toArray _).size = _; rw [List.size_toArray, spl_length, hl]
  · intro h k
    have : rounds a n ≤ 8 * n - a := by unfold rounds; exact Nat.min_le_right _ _
    rw [bitB_list, bitB_list, List.toList_toArray, bit_spl _ _ _ _ _ (by rw [hl]; omega)]
theorem CrcBurst : pilcrowlaw16_CrcBurst.Pure := by
  intro s a p hs ha hp
  obtain ⟨hp0, hp1⟩ : 0 ≤ p ∧ p < 4294967296 := by
    have := hp
    simp [Lit.wf, IntKind.min, IntKind.max, IntKind.signed, IntKind.bits] at this
    omega
  obtain ⟨p, rfl⟩ := Int.eq_ofNat_of_zero_le hp0
  refine ⟨2, ?_⟩
  unfold pilcrowlaw16_CrcBurst.f
  simp only [pilcrowlaw16_awake.f, Option.bind_some, if_true, pilcrowlaw16_CrcBurst.j0]
  by_cases hb : (s.size : Int) > 400
  · rw [if_pos hb]
  rw [if_neg hb]
  by_cases h0 : a < 0
  · rw [if_pos h0]
  rw [if_neg h0]
  have hw : wrap64 (wrap64 (8 * (s.size : Int)) + 32) = 8 * s.size + 32 := by unfold wrap64; omega
  rw [hw]
  by_cases h1 : a > 8 * s.size + 32
  · rw [if_pos (by simpa using h1)]
  rw [if_neg (by simpa using h1)]
  obtain ⟨a, rfl⟩ := Int.eq_ofNat_of_zero_le (Int.not_lt.1 h0)
  have hm : s.size ≤ maxLen := by unfold maxLen; omega
  rw [of_one hm]
  simp only [Option.bind_some]
  generalize hC : addB 0#32 s = C
  obtain ⟨t, ht, ht4, htb⟩ := four_f C
  rw [ht]
  simp only [Option.bind_some]
  rw [ht4, if_pos (by omega)]
  have hfull : (s ++ t).size = s.size + 4 := by rw [ByteArray.size_append, ht4]
  obtain ⟨S, m, hsp, hm32, hma, hSs, hSb⟩ := spoil_f (s ++ t) a p (s.size + 4) hfull (by omega) (by omega) (by omega)
  have hma := hma (by omega)
  have hSb := hSb (by omega)
  have HSS := Aside0.mk hSs
  clear hSs hfull
  rw [hsp]
  clear hsp
  rw [Option.bind_some]
  have hww : wrap64 ((s.size : Int) + 4) = s.size + 4 := by unfold wrap64; omega
  rw [HSS.out, hww, if_pos (by omega), if_pos (by omega), if_pos (by omega), Int.toNat_natCast]
  have hts : (S.extract s.size (s.size + 4)).size = 4 := by rw [ByteArray.size_extract, HSS.out]; omega
  have HTS := Aside0.mk hts
  clear hts
  have hhs : (S.extract 0 s.size).size = s.size := by rw [ByteArray.size_extract, HSS.out]; omega
  have HHS := Aside0.mk hhs
  clear hhs
  obtain ⟨V, hV, hVb⟩ := number_bits _ HTS.out
  rw [hV]
  simp only [Option.bind_some]
  unfold crc_Is.f
  rw [of_one (by rw [HHS.out]; exact hm)]
  simp only [Option.bind_some]
  obtain ⟨E, hE⟩ := vec_of (fun i => brst a p m (8 * s.size + i)) 32 (by decide)
  have hE' : ∀ i, i < 32 → E.getLsbD i = brst a p m (8 * s.size + i) := fun i hi => by rw [hE]; simp [hi]
  have hVE : V = C ^^^ E := by
    apply BitVec.eq_of_getLsbD_eq
    intro i hi
    rw [hVb i hi, BitVec.getLsbD_xor, hE' i hi, ← htb i hi]
    have e1 : bitB (S.extract s.size (s.size + 4)) i = bitB S (8 * s.size + i) := by
      unfold bitB
      rw [byteAt_extract _ _ _ _ (by rw [HSS.out]; omega) (by omega), show (8 * s.size + i) / 8 = s.size + i / 8 by omega, show (8 * s.size + i) % 8 = i % 8 by omega]
    have e2 : bitB (s ++ t) (8 * s.size + i) = bitB t i := by
      unfold bitB
      rw [show (8 * s.size + i) / 8 = s.size + i / 8 by omega, show (8 * s.size + i) % 8 = i % 8 by omega, byteAt_append_right _ _ _ (by omega)]
    rw [e1, hSb, e2]
  have hAG : addB 0#32 (S.extract 0 s.size) = C ^^^ feed (brst a p m) 0#32 (8 * s.size) := by
    rw [← hC, addB_feed, addB_feed, HHS.out]
    have e1 : feed (bitB (S.extract 0 s.size)) (~~~0#32) (8 * s.size) = feed (fun i => bitB s i ^^ brst a p m i) (~~~0#32 ^^^ 0#32) (8 * s.size) := by
      rw [BitVec.xor_zero]
      apply feed_congr
      intro i hi
      have e2 : bitB (S.extract 0 s.size) i = bitB S i := by
        unfold bitB
        rw [byteAt_extract _ _ _ _ (by rw [HSS.out]; omega) (by omega), Nat.zero_add]
      have e3 : bitB (s ++ t) i = bitB s i := by
        unfold bitB
        rw [byteAt_append_left _ _ _ (by omega)]
      rw [e2, hSb, e3]
    rw [e1, feed_xor]
    generalize feed (bitB s) (~~~0#32) (8 * s.size) = F
    generalize feed (brst a p m) 0#32 (8 * s.size) = G
    rw [← BitVec.allOnes_xor, ← BitVec.allOnes_xor, BitVec.xor_assoc]
  rw [hAG, hVE, heart C _ E a p m s.size hm32 (by omega) rfl hE']
  simp
end Go.Proofs.Ytfpbeadgpkkknaa.Pure
