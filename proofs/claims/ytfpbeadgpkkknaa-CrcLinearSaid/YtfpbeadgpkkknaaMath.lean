/- The sum of bytes over bits: plain, with no program in sight. -/
import Derived.Laws.BitsLemmas
namespace Go.Proofs.Ytfpbeadgpkkknaa.Crc

def P : BitVec 32 := 0xEDB88320#32
def stp (x : BitVec 32) : BitVec 32 := (x >>> 1) ^^^ (if x.getLsbD 0 then P else 0#32)
def bit (b : Bool) : BitVec 32 := if b then 1#32 else 0#32

theorem stp_xor (x y : BitVec 32) : stp (x ^^^ y) = stp x ^^^ stp y := by
  unfold stp
  rw [BitVec.ushiftRight_xor_distrib, BitVec.getLsbD_xor]
  have e : ∀ a b c d : BitVec 32, (a ^^^ b) ^^^ (c ^^^ d) = (a ^^^ c) ^^^ (b ^^^ d) := by
    intro a b c d
    simp only [BitVec.xor_assoc]
    congr 1
    rw [← BitVec.xor_assoc, BitVec.xor_comm b c, BitVec.xor_assoc]
  rw [← e]
  congr 1
  cases x.getLsbD 0 <;> cases y.getLsbD 0 <;> simp

theorem stp_zero : stp 0#32 = 0#32 := by decide

theorem stp_eq_zero {x : BitVec 32} (h : stp x = 0#32) : x = 0#32 := by
  have hb : x.getLsbD 0 = false := by
    have h31 : (stp x).getLsbD 31 = false := by rw [h]; simp
    unfold stp at h31
    rw [BitVec.getLsbD_xor, BitVec.getLsbD_ushiftRight] at h31
    rw [show x.getLsbD (1 + 31) = false from BitVec.getLsbD_of_ge _ _ (by decide)] at h31
    cases hx : x.getLsbD 0
    · rfl
    · rw [hx] at h31; revert h31; decide
  unfold stp at h
  rw [hb] at h
  simp at h
  apply BitVec.eq_of_getLsbD_eq
  intro i hi
  rcases Nat.eq_zero_or_pos i with rfl | hp
  · rw [hb]; simp
  · have := congrArg (fun v => v.getLsbD (i - 1)) h
    simp only [BitVec.getLsbD_ushiftRight] at this
    rw [show 1 + (i - 1) = i from by omega] at this
    rw [this]; simp

/-- the state behind k bits of f, from x on -/
def feed (f : Nat → Bool) (x : BitVec 32) : Nat → BitVec 32
  | 0 => x
  | k + 1 => stp (feed f x k ^^^ bit (f k))

theorem bit_xor (a b : Bool) : bit (a ^^ b) = bit a ^^^ bit b := by cases a <;> cases b <;> decide

theorem xor4 (a b c d : BitVec 32) : (a ^^^ b) ^^^ (c ^^^ d) = (a ^^^ c) ^^^ (b ^^^ d) := by
  simp only [BitVec.xor_assoc]
  congr 1
  rw [← BitVec.xor_assoc, BitVec.xor_comm b c, BitVec.xor_assoc]

theorem feed_xor (f g : Nat → Bool) (x y : BitVec 32) (k : Nat) : feed (fun i => f i ^^ g i) (x ^^^ y) k = feed f x k ^^^ feed g y k := by
  induction k with
  | zero => rfl
  | succ k ih => simp only [feed]; rw [ih, bit_xor, xor4, stp_xor]

theorem feed_congr {f g : Nat → Bool} {x : BitVec 32} {k : Nat} (h : ∀ i, i < k → f i = g i) : feed f x k = feed g x k := by
  induction k with
  | zero => rfl
  | succ k ih => simp only [feed]; rw [ih (fun i hi => h i (by omega)), h k (by omega)]

theorem feed_add (f : Nat → Bool) (x : BitVec 32) (a b : Nat) : feed f x (a + b) = feed (fun i => f (a + i)) (feed f x a) b := by
  induction b with
  | zero => rfl
  | succ b ih => rw [← Nat.add_assoc]; simp only [feed]; rw [ih]

/-- zeros do not move the state from zero, nor to it -/
theorem feed_zeros {f : Nat → Bool} {x : BitVec 32} {k : Nat} (h : ∀ i, i < k → f i = false) : feed f x k = 0#32 ↔ x = 0#32 := by
  induction k with
  | zero => rfl
  | succ k ih =>
    simp only [feed]
    rw [h k (by omega)]
    have e : feed f x k ^^^ bit false = feed f x k := by unfold bit; simp
    rw [e]
    constructor
    · intro hs; exact (ih (fun i hi => h i (by omega))).1 (stp_eq_zero hs)
    · intro hx; rw [(ih (fun i hi => h i (by omega))).2 hx]; exact stp_zero

/-- the step of an even number halves it -/
theorem stp_even {x : BitVec 32} (h : x.getLsbD 0 = false) : stp x = x >>> 1 := by unfold stp; rw [h]; simp

def stpN (x : BitVec 32) : Nat → BitVec 32
  | 0 => x
  | k + 1 => stp (stpN x k)

/-- up to 32 bits fed one by one are the same bits xored in at once -/
theorem feed_word (v x : BitVec 32) (k : Nat) (hk : k ≤ 32) : stpN (x ^^^ v) k = feed (fun i => v.getLsbD i) x k ^^^ (v >>> k) := by
  induction k with
  | zero => simp [stpN, feed]
  | succ k ih =>
    simp only [stpN, feed]
    rw [ih (by omega)]
    have hs : v >>> k = bit (v.getLsbD k) ^^^ ((v >>> (k+1)) <<< 1) := by
      apply BitVec.eq_of_getLsbD_eq
      intro i hi
      rw [BitVec.getLsbD_xor, BitVec.getLsbD_ushiftRight, BitVec.getLsbD_shiftLeft, BitVec.getLsbD_ushiftRight]
      rcases Nat.eq_zero_or_pos i with rfl | hp
      · simp [bit]; cases v.getLsbD k <;> simp
      · have : (bit (v.getLsbD k)).getLsbD i = false := by
          unfold bit; split
          · rw [show (1#32).getLsbD i = false from by simp; omega]
          · simp
        rw [this]
        simp
        rw [show k + 1 + (i - 1) = k + i from by omega]
        cases v.getLsbD (k+i) <;> simp <;> omega
    rw [hs, ← BitVec.xor_assoc, stp_xor]
    congr 1
    rw [stp_even (by simp)]
    apply BitVec.eq_of_getLsbD_eq
    intro i hi
    simp
    intro h
    by_cases h31 : i = 31
    · subst h31
      exfalso
      rw [BitVec.getLsbD_of_ge _ _ (by omega)] at h
      exact absurd h (by decide)
    · omega

theorem stpN_zero_iff (x : BitVec 32) (k : Nat) : stpN x k = 0#32 ↔ x = 0#32 := by
  induction k with
  | zero => rfl
  | succ k ih =>
    simp only [stpN]
    constructor
    · intro h; exact ih.1 (stp_eq_zero h)
    · intro h; rw [ih.2 h]; exact stp_zero

theorem vec_of (f : Nat → Bool) (k : Nat) (hk : k ≤ 32) : ∃ v : BitVec 32, ∀ i, v.getLsbD i = (decide (i < k) && f i) := by
  induction k with
  | zero => exact ⟨0#32, fun i => by simp⟩
  | succ k ih =>
    obtain ⟨v, hv⟩ := ih (by omega)
    refine ⟨v ^^^ (bit (f k) <<< k), fun i => ?_⟩
    rw [BitVec.getLsbD_xor, hv, BitVec.getLsbD_shiftLeft]
    by_cases h1 : i < k
    · have h2 : i < k + 1 := by omega
      simp [h1, h2]
    · by_cases h2 : i = k
      · subst h2
        have : decide (i < 32) = true := by simp; omega
        simp [this, bit]
        cases f i <;> simp
      · have h3 : ¬ i < k + 1 := by omega
        have h4 : (bit (f k)).getLsbD (i - k) = false := by
          unfold bit; split
          · rw [show (1#32).getLsbD (i - k) = false from by simp; omega]
          · simp
        simp [h1, h3, h4]

/-- fed from zero, up to 32 bits give zero just if all are zero -/
theorem feed_short {f : Nat → Bool} {k : Nat} (hk : k ≤ 32) : feed f 0#32 k = 0#32 ↔ ∀ i, i < k → f i = false := by
  obtain ⟨v, hv⟩ := vec_of f k hk
  have hf : feed f 0#32 k = feed (fun i => v.getLsbD i) 0#32 k := feed_congr (fun i hi => by rw [hv]; simp [hi])
  have hw := feed_word v 0#32 k hk
  have hz : v >>> k = 0#32 := by
    apply BitVec.eq_of_getLsbD_eq
    intro i hi
    rw [BitVec.getLsbD_ushiftRight, hv]
    simp; omega
  rw [hz] at hw
  simp only [BitVec.xor_zero, BitVec.zero_xor] at hw
  rw [hf, ← hw, stpN_zero_iff]
  constructor
  · intro h i hi
    have := hv i
    rw [h] at this
    simp [hi] at this
    exact this
  · intro h
    apply BitVec.eq_of_getLsbD_eq
    intro i hi
    rw [hv]
    by_cases hk : i < k
    · simp [h i hk]
    · simp [hk]
end Go.Proofs.Ytfpbeadgpkkknaa.Crc
