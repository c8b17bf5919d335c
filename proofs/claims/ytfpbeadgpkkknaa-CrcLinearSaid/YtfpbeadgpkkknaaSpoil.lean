/- A text with a burst: what the reference's function does to its bytes: a contract by hand, in the printed form. -/
import Derived.Test.YtfpbeadgpkkknaaHand
import Derived.Laws.IdiomStrings
namespace Go.Proofs.Ytfpbeadgpkkknaa.Hand
open Go.RowKit Go.Proofs.YtfpbeadgpkkknaaW.PrintWords Go.Proofs.Ytfpbeadgpkkknaa.Crc
set_option linter.unusedVariables false
/-- One bit turned. -/
def turn1 (l : List UInt8) (k : Nat) : List UInt8 := l.set (k / 8) (UInt8.ofNat ((l.getD (k / 8) 0).toNat ^^^ 2 ^ (k % 8)))
def spl (l : List UInt8) (at0 p : Nat) : Nat → List UInt8
  | 0 => l
  | m + 1 => if p.testBit m then turn1 (spl l at0 p m) (at0 + m) else spl l at0 p m
def anyN (p : Nat) : Nat → Bool
  | 0 => false
  | m + 1 => p.testBit m || anyN p m
def rounds (at0 n : Nat) : Nat := min 32 (8 * n - at0)
theorem turn1_length (l : List UInt8) (k : Nat) : (turn1 l k).length = l.length := by unfold turn1; simp
theorem spl_length (l : List UInt8) (at0 p : Nat) : ∀ m, (spl l at0 p m).length = l.length
  | 0 => rfl
  | m + 1 => by unfold spl; split <;> simp [turn1_length, spl_length l at0 p m]
def pilcrowref16_Spoil.f (s : ByteArray) (a p : Int) : Option (ByteArray × Bool) :=
  if 0 ≤ a ∧ a ≤ 100000 ∧ s.size ≤ 10000 ∧ 0 ≤ p ∧ p < 4294967296 then some (⟨(spl s.data.toList a.toNat p.toNat (rounds a.toNat s.size)).toArray⟩, anyN p.toNat (rounds a.toNat s.size)) else none
def SpRel (w : World) (l : List UInt8) (a p : Nat) (M : Nat) (x y z : Value) (wr : World) : Prop :=
  ∃ (m q : Nat) (k : Int), m ≤ M ∧ q = p / 2 ^ m ∧ k = (a + m : Nat) ∧ x = .int .u32 (q : Int) ∧ y = .bool (anyN p m) ∧ z = .int .i64 k ∧ Below w.heap.size w wr ∧ w.heap.size < wr.heap.size
    ∧ (∀ j, j < l.length → wr.cell? ⟨w.heap.size, j, none⟩ = some (.int .u8 (((spl l a p m).getD j 0).toNat : Int))) ∧ (∀ j, j < l.length → wr.frozen? ⟨w.heap.size, j, none⟩ = false)
theorem bits_xor8 (x y : Nat) (hx : x < 256) (hy : y < 256) : bits BinOp.xor IntKind.u8 (x : Int) (y : Int) = ((x ^^^ y : Nat) : Int) := by
  show IntKind.u8.wrap (((BitVec.ofInt 8 (x : Int)) ^^^ (BitVec.ofInt 8 (y : Int))).toNat : Int) = _
  rw [BitVec.toNat_xor, BitVec.ofInt_natCast, BitVec.ofInt_natCast, BitVec.toNat_ofNat, BitVec.toNat_ofNat, Nat.mod_eq_of_lt hx, Nat.mod_eq_of_lt hy]
  have : x ^^^ y < 2 ^ 8 := Nat.xor_lt_two_pow hx hy
  rw [IntKind.wrap_u8]
  omega
theorem odd_test (p m : Nat) : ∀ q : Nat, q = p / 2 ^ m → ((q : Int).tmod 2 = 1 ↔ p.testBit m = true) := by
  rintro q rfl
  rw [Nat.testBit_eq_decide_div_mod_eq]
  generalize p / 2 ^ m = q
  rw [Int.tmod_eq_emod_of_nonneg (by omega), decide_eq_true_iff]
  omega
theorem half_div (p m : Nat) : ∀ q : Nat, q = p / 2 ^ m → Int.tdiv (q : Int) 2 = ((p / 2 ^ (m + 1) : Nat) : Int) := by
  rintro q rfl
  rw [Nat.pow_succ, ← Nat.div_div_eq_div_mul]
  generalize p / 2 ^ m = q
  rw [Int.tdiv_eq_ediv_of_nonneg (by omega)]; omega
theorem pow_lt (k : Nat) : 2 ^ (k % 8) < 256 := by
  have : k % 8 < 8 := Nat.mod_lt _ (by decide)
  calc 2 ^ (k % 8) < 2 ^ 8 := Nat.pow_lt_pow_right (by decide) this
    _ = 256 := rfl
set_option maxRecDepth 100000 in
set_option maxHeartbeats 400000 in
theorem spoil_walk (s : ByteArray) (a p : Nat) (w : World) (ha : a ≤ 100000) (hs : s.size ≤ 10000) (hp : p < 4294967296) :
    Calls Try.prog 17 #[.string s, .int .i64 a, .int .u32 p] w fun e w' => e = .returned (.tuple #[.string ⟨(spl s.data.toList a p (rounds a s.size)).toArray⟩, .bool (anyN p (rounds a s.size))]) ∧ Below w.heap.size w w' := by
  have kc := fun (w : World) => run_bytes_of_string (P := Try.prog) w 9 38 5 s Try.underlying9 Try.underlying38 Try.underlying5
  have hl : s.data.toList.length = s.size := by rw [Array.length_toList]; rfl
  go_enter Try.func17, Try.ntmps17
  go_wp2_with fail
  go_loopw [2, 9, 10] (fun x y z wr => SpRel w s.data.toList a p (rounds a s.size) x y z wr) (fun _ _ z _ => a + 40 - (intOf z).toNat)
  case atStart =>
    refine ⟨0, p, a, Nat.zero_le _, by simp, by simp, rfl, rfl, rfl, below_alloc (pw_below_drewN (Below.refl _ _) 1) _, by simp, ?_, ?_⟩
    · intro j hj
      rw [hl] at hj
      have hj' : j < s.data.size := hj
      have := World.cell?_alloc_mark w.drew (bytesRow s (grownCap w s.size 0 5)) 5 ((bytesRow s (grownCap w s.size 0 5)).size, (bytesRow s (grownCap w s.size 0 5)).size + 1) j
      rw [bytesRow_at s _ j hj'] at this
      refine Eq.trans this ?_
      simp only [spl, List.getD_eq_getElem?_getD]
      rw [Array.getElem?_toList, Array.getElem?_eq_getElem hj']
      rfl
    · intro j hj
      rw [hl] at hj
      have := World.frozen?_alloc_mark w.drew (bytesRow s (grownCap w s.size 0 5)) 5 (bytesRow s (grownCap w s.size 0 5)).size ((bytesRow s (grownCap w s.size 0 5)).size + 1) j
      refine Eq.trans this ?_
      have hsz : s.size ≤ (bytesRow s (grownCap w s.size 0 5)).size := by
        unfold bytesRow
        simp
      simp only [Bool.and_eq_false_imp, decide_eq_true_eq, decide_eq_false_iff_not]; omega
  case round =>
    obtain ⟨m, q, k, hm, hq, hk, rfl, rfl, rfl, hB, hz, hc, hf⟩ := hrel
    have HC := Aside0.mk hc
    have HF := Aside0.mk hf
    have HB := Aside0.mk hB
    have HZ := Aside0.mk hz
    have HQ := Aside0.mk hq
    have hql : q < 4294967296 := by rw [hq]; exact Nat.lt_of_le_of_lt (Nat.div_le_self _ _) hp
    clear hc hf hB hq hz
    have hM : m ≤ rounds a s.size := hm
    have g1 : wrap64 ((a : Int) + 32) = ((a + 32 : Nat) : Int) := by unfold wrap64; omega
    have g2 : wrap64 (8 * (s.size : Int)) = ((8 * s.size : Nat) : Int) := by unfold wrap64; omega
    by_cases hlt : m < rounds a s.size
    · have h32 : m < 32 := by unfold rounds at hlt; omega
      have h8 : a + m < 8 * s.size := by unfold rounds at hlt; omega
      have hk0 : 0 ≤ k := by omega
      have hk1 : k < a + 32 := by omega
      have hk2 : k < 8 * (s.size : Int) := by omega
      have hk3 : wrap64 (k + 1) = k + 1 := by unfold wrap64; omega
      obtain ⟨r8, hr8⟩ : ∃ r : Nat, r = (a + m) % 8 := ⟨_, rfl⟩
      obtain ⟨n8, hn8⟩ : ∃ r : Nat, r = (a + m) / 8 := ⟨_, rfl⟩
      have t8 : k.tmod 8 = (r8 : Int) := by rw [Int.tmod_eq_emod_of_nonneg hk0]; omega
      have d8 : k.tdiv 8 = (n8 : Int) := by rw [Int.tdiv_eq_ediv_of_nonneg hk0]; omega
      have hr8l : r8 < 8 := by omega
      have hn8l : n8 < s.size := by omega
      have hd := half_div p m q HQ.out
      have HK := Aside0.mk hk
      have HR8 := Aside0.mk hr8
      have HN8 := Aside0.mk hn8
      have HL := Aside0.mk hlt
      clear hk hr8 hn8 h32 h8 hm hM hlt
      by_cases ht : p.testBit m = true
      · have ht1 : (q : Int).tmod 2 = 1 := (odd_test p m q HQ.out).2 ht
        have HD := Aside0.mk hd
        have HT := Aside0.mk ht
        clear hd ht
        go_wp2_with fail
        go_loop [11, 12] (fun x y => ∃ i o : Nat, i ≤ r8 ∧ o = 2 ^ i ∧ x = .int .u8 (o : Int) ∧ y = .int .i64 (i : Int)) (fun _ y => 8 - (intOf y).toNat)
        case atStart => exact ⟨0, 1, Nat.zero_le _, rfl, rfl, rfl⟩
        case round =>
          obtain ⟨i, o, hi, ho, rfl, rfl⟩ := hrel
          by_cases hil : i < r8
          · have ho2 : ((o : Int) * 2) % 256 = ((2 ^ (i + 1) : Nat) : Int) := by
              have := Nat.pow_lt_pow_right (a := 2) (by decide) (show i + 1 < 8 by omega)
              rw [Nat.pow_succ] at this ⊢
              rw [ho]
              omega
            have HO := Aside0.mk ho2
            clear ho ho2
            go_wp2_with fail
            exact ⟨⟨i + 1, 2 ^ (i + 1), by omega, rfl, congrArg (Value.int IntKind.u8) HO.out, by go_num⟩, by simp [intOf]; omega⟩
          · obtain rfl : i = r8 := by omega
            have hcell := HC.out n8 (by rw [hl]; exact hn8l)
            have hfr := HF.out n8 (by rw [hl]; exact hn8l)
            generalize hx : ((spl s.data.toList a p m).getD n8 0).toNat = x at hcell
            have HX := Aside0.mk hx
            have HO := Aside0.mk ho
            clear ho hx
            go_wp2_with fail
            have hxl : x < 256 := by rw [← HX.out]; exact (UInt8.toNat_lt _)
            have hol : o < 256 := by rw [HO.out, HR8.out]; exact pow_lt _
            refine ⟨⟨m + 1, p / 2 ^ (m + 1), k + 1, by have := HL.out; omega, rfl, by rw [HK.out]; omega, by rw [← HD.out, Int.tdiv_eq_ediv_of_nonneg (by omega)], by simp [anyN, HT.out], rfl, HB.out.setCell (Nat.le_refl _) _, by simpa using HZ.out, ?_, ?_⟩, by simp [intOf]; omega⟩
            · intro j hj
              have e1 : spl s.data.toList a p (m + 1) = turn1 (spl s.data.toList a p m) (a + m) := by rw [spl, if_pos HT.out]
              rw [e1, bits_xor8 x o hxl hol]
              unfold turn1
              rw [← HN8.out, ← HR8.out, HX.out, ← HO.out]
              have hxo : x ^^^ o < 2 ^ 8 := Nat.xor_lt_two_pow hxl hol
              by_cases hjn : n8 = j
              · subst hjn
                rw [World.cell?_setCell_same _ _ _ hcell, List.getD_eq_getElem?_getD, List.getElem?_set_self (by rw [spl_length]; exact hj)]
                simp only [Option.getD_some, UInt8.toNat_ofNat']
                rw [Nat.mod_eq_of_lt hxo]
              · rw [World.cell?_setCell_other _ _ _ _ (by intro h; injection h with _ h2 _; exact hjn h2), List.getD_eq_getElem?_getD, List.getElem?_set_ne hjn, ← List.getD_eq_getElem?_getD]
                exact HC.out j hj
            · intro j hj
              rw [World.frozen?_setCell]
              exact HF.out j hj
      · have ht1 : ¬ (q : Int).tmod 2 = 1 := fun h => ht ((odd_test p m q HQ.out).1 h)
        have HD := Aside0.mk hd
        have HT := Aside0.mk ht
        clear hd ht
        go_wp2_with fail
        refine ⟨⟨m + 1, p / 2 ^ (m + 1), k + 1, by have := HL.out; omega, rfl, by rw [HK.out]; omega, by rw [← HD.out, Int.tdiv_eq_ediv_of_nonneg (by omega)], by simp [anyN, HT.out], rfl, HB.out, HZ.out, ?_, HF.out⟩, by simp [intOf]; omega⟩
        have e1 : spl s.data.toList a p (m + 1) = spl s.data.toList a p m := by rw [spl, if_neg HT.out]
        rw [e1]
        exact HC.out
    · obtain rfl : m = rounds a s.size := by omega
      have hout : ¬ (k < a + 32 ∧ k < 8 * (s.size : Int)) := by unfold rounds at hk; omega
      have HK := Aside0.mk hk
      have hsl : (spl s.data.toList a p (rounds a s.size)).length = s.size := by rw [spl_length, hl]
      have kb := run_convert_bytes_back (P := Try.prog) wr 38 9 5 ⟨w.heap.size, 0, none⟩ (grownCap w s.size 0 5) (spl s.data.toList a p (rounds a s.size)) Try.underlying38 Try.underlying5 Try.underlying9 (fun j hj => by
        have := HC.out j (by rw [hl]; rw [hsl] at hj; exact hj)
        rw [List.getD_eq_getElem?_getD, List.getElem?_eq_getElem hj] at this
        cases j <;> simpa [Addr.add] using this)
      rw [hsl] at kb
      clear hk hm hM hlt hsl
      by_cases hk1 : k < a + 32
      · have hk2 : ¬ k < 8 * (s.size : Int) := fun h => hout ⟨hk1, h⟩
        clear hout
        go_wp2_with fail
        go_ret2
        exact ⟨rfl, HB.out⟩
      · clear hout
        go_wp2_with fail
        go_ret2
        exact ⟨rfl, HB.out⟩
theorem pilcrowref16_Spoil.calls (s : ByteArray) (a p : Int) (r1 : ByteArray) (r2 : Bool) (w : World) (h : pilcrowref16_Spoil.f s a p = some (r1, r2)) :
    Calls Try.prog 17 #[.string s, .int .i64 a, .int .u32 p] w fun e w' => e = .returned (.tuple #[.string r1, .bool r2]) ∧ Below w.heap.size w w' := by
  unfold pilcrowref16_Spoil.f at h
  split at h
  · rename_i hc
    obtain ⟨h0, h1, h2, h3, h4⟩ := hc
    obtain ⟨a, rfl⟩ := Int.eq_ofNat_of_zero_le h0
    obtain ⟨p, rfl⟩ := Int.eq_ofNat_of_zero_le h3
    simp only [Option.some.injEq, Prod.mk.injEq] at h
    obtain ⟨rfl, rfl⟩ := h
    exact spoil_walk s a p w (by omega) h2 (by omega)
  · cases h
end Go.Proofs.Ytfpbeadgpkkknaa.Hand
