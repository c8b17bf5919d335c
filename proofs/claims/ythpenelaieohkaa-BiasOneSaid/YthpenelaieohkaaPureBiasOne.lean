/- BiasOne over numbers: digits that are got are put again as they were, with small letters. -/
import Derived.Test.YthpenelaieohkaaQBiasOnex3
import Derived.Laws.Bits64
namespace Go.Proofs.Ythpenelaieohkaa.Pure
open Go.RowKit Go.Proofs.Ythpenelaieohkaa.QBiasOne Go.Proofs.YthpenelaieohkaaW.PrintWords Go.Proofs.YthpenelaieohkaaW.PrintLast Go.Proofs.YthpenelaieohkaaW.PrintMore
set_option linter.unusedVariables false
theorem awakeL : pilcrowlaw09_awake.f 40 = some true := by decide +kernel
theorem awakeL_at (k : Nat) (hk : 40 ≤ k) : pilcrowlaw09_awake.f k = some true := at_rounds pilcrowlaw09_awake.mono hk awakeL
theorem u64_bd {x : Int} (h : (Lit.int .u64 x).wf = true) : 0 ≤ x ∧ x ≤ 18446744073709551615 := by
  simp [Lit.wf, IntKind.min, IntKind.max, IntKind.signed, IntKind.bits] at h
  omega
theorem i64_bd {x : Int} (h : (Lit.int .i64 x).wf = true) : -9223372036854775808 ≤ x ∧ x ≤ 9223372036854775807 := by
  simp [Lit.wf, IntKind.min, IntKind.max, IntKind.signed, IntKind.bits] at h
  omega
theorem u8_bd {x : Int} (h : (Lit.int .u8 x).wf = true) : 0 ≤ x ∧ x ≤ 255 := by
  simp [Lit.wf, IntKind.min, IntKind.max, IntKind.signed, IntKind.bits] at h
  omega
theorem u64w {n : Int} (h0 : 0 ≤ n) (h1 : n ≤ 18446744073709551615) : IntKind.u64.wrap n = n := by rw [IntKind.wrap_u64]; omega
theorem i64w {n : Int} (h0 : -9223372036854775808 ≤ n) (h1 : n ≤ 9223372036854775807) : wrap64 n = n := by unfold wrap64; omega
def sm (n : Int) : Int := if n < 0 then 0 else if n > 1000 then 1000 else n
theorem sm_in (n : Int) : 0 ≤ sm n ∧ sm n ≤ 1000 := by unfold sm; (repeat' split) <;> omega
theorem small_f (n : Int) : bias_small.f n = some (sm n) := by
  unfold bias_small.f sm mn mx
  congr 1
  (repeat' split) <;> omega
def thr (p b : Int) : Int := if 36 * (sm p + 1) - sm b < 1 then 1 else if 36 * (sm p + 1) - sm b > 26 then 26 else 36 * (sm p + 1) - sm b
theorem thr_in (p b : Int) : 1 ≤ thr p b ∧ thr p b ≤ 26 := by unfold thr; (repeat' split) <;> omega
theorem thr_go (p b : Int) : bias_Threshold.f p b = some (thr p b) := by
  have h1 := sm_in p
  have h2 := sm_in b
  unfold bias_Threshold.f
  rw [small_f, small_f]
  simp only [Option.bind_some]
  rw [i64w (n := sm p + 1) (by omega) (by omega), i64w (n := 36 * (sm p + 1)) (by omega) (by omega), i64w (by omega) (by omega)]
  unfold thr mn mx
  congr 1
  (repeat' split) <;> omega
theorem letter_all : ∀ n : Fin 36, bias_Letter.f 60 (n.val : Int) = some (bt (⟨#[97, 98, 99, 100, 101, 102, 103, 104, 105, 106, 107, 108, 109, 110, 111, 112, 113, 114, 115, 116, 117, 118, 119, 120, 121, 122, 48, 49, 50, 51, 52, 53, 54, 55, 56, 57]⟩ : ByteArray) n.val, true) := by decide +kernel
theorem letter_k (d : Int) (h0 : 0 ≤ d) (h1 : d < 36) (k : Nat) (hk : 60 ≤ k) : bias_Letter.f k d = some (bt (⟨#[97, 98, 99, 100, 101, 102, 103, 104, 105, 106, 107, 108, 109, 110, 111, 112, 113, 114, 115, 116, 117, 118, 119, 120, 121, 122, 48, 49, 50, 51, 52, 53, 54, 55, 56, 57]⟩ : ByteArray) d, true) := by
  obtain ⟨n, rfl⟩ := Int.eq_ofNat_of_zero_le h0
  exact at_rounds (bias_Letter.mono _) hk (letter_all ⟨n, by omega⟩)
def TOP : Int := 4611686018427387904
def nextw (w t : Int) : Int := if w > TOP / (36 - t) then TOP + 1 else w * (36 - t)
theorem nextw_in {w t : Int} (w0 : 1 ≤ w) (t0 : 1 ≤ t) (t1 : t ≤ 26) : 1 ≤ nextw w t ∧ nextw w t ≤ TOP + 1 := by
  unfold nextw
  by_cases hw : w > TOP / (36 - t)
  · rw [if_pos hw]; unfold TOP; omega
  · rw [if_neg hw]
    have hle := (Int.le_ediv_iff_mul_le (a := w) (b := TOP) (c := 36 - t) (by omega)).1 (by omega)
    have hge : w * 1 ≤ w * (36 - t) := Int.mul_le_mul_of_nonneg_left (by omega) (by omega)
    omega
theorem get_round (s : ByteArray) (hs : s.size ≤ 1000) (b : Int) (i p : Nat) (n w d : Int) (hi : i < s.size) (hp : p ≤ 1000) (n0 : 0 ≤ n) (n1 : n ≤ TOP) (w0 : 1 ≤ w) (w1 : w ≤ TOP + 1) (d0 : 0 ≤ d) (d1 : d ≤ 35) (k : Nat) (hd : bias_Digit.f (k + 1) (bt s (i : Int)) = some (d, true)) :
    bias_Get.l0 (k + 1 + 1) s (i : Int) b n w (p : Int) = if n + d * w ≤ TOP then (if d < thr (p : Int) b then some (n + d * w, (i : Int) + 1, 0) else bias_Get.l0 k s ((i + 1 : Nat) : Int) b (n + d * w) (nextw w (thr (p : Int) b)) ((p + 1 : Nat) : Int)) else some (0, 0, 5) := by
  have ht := thr_in (p : Int) b
  have hdw : 0 ≤ d * w := Int.mul_nonneg d0 (by omega)
  have step : bias_Get.l0 (k + 1 + 1) s (i : Int) b n w (p : Int) = bias_Get.j2 (k + 1) s (i : Int) b n w (p : Int) d (decide (¬ n + d * w ≤ TOP)) := by
    rw [bias_Get.l0]
    rw [if_neg (by omega), if_pos (by omega), if_pos (by omega), hd]
    simp only [Option.bind_some, if_true]
    unfold TOP at n1
    by_cases hdp : d > 0
    · rw [if_pos hdp, u64w (n := d) (by omega) (by omega), if_neg (by omega), u64w (n := 4611686018427387904 - n) (by omega) (by omega), Int.tdiv_eq_ediv_of_nonneg (by omega)]
      have q0 : 0 ≤ (4611686018427387904 - n) / d := Int.ediv_nonneg (by omega) (by omega)
      have q1 : (4611686018427387904 - n) / d ≤ 4611686018427387904 - n := Int.ediv_le_self _ (by omega)
      rw [u64w q0 (by omega)]
      congr 1
      rw [decide_eq_decide]
      have := Int.le_ediv_iff_mul_le (a := w) (b := 4611686018427387904 - n) (c := d) hdp
      have e : w * d = d * w := Int.mul_comm _ _
      unfold TOP
      omega
    · have hz : d = 0 := by omega
      subst hz
      rw [if_neg (by omega)]
      congr 1
      unfold TOP
      simp
      omega
  rw [step]
  by_cases hl : n + d * w ≤ TOP
  · rw [if_pos hl, show decide (¬ n + d * w ≤ TOP) = false from by simp [hl]]
    unfold nextw
    unfold TOP at hl w1 ⊢
    simp only [bias_Get.j2, Bool.false_eq_true, if_false]
    rw [thr_go]
    simp only [Option.bind_some]
    rw [u64w (n := d) (by omega) (by omega), u64w (n := d * w) (by omega) (by omega), u64w (n := n + d * w) (by omega) (by omega), i64w (n := (i : Int) + 1) (by omega) (by omega), i64w (n := 36 - thr (p : Int) b) (by omega) (by omega), u64w (n := 36 - thr (p : Int) b) (by omega) (by omega), if_neg (show ¬ 36 - thr (p : Int) b = 0 by omega), Int.tdiv_eq_ediv_of_nonneg (by omega), i64w (n := (p : Int) + 1) (by omega) (by omega)]
    have q0 : 0 ≤ (4611686018427387904 : Int) / (36 - thr (p : Int) b) := Int.ediv_nonneg (by omega) (by omega)
    have q1 : (4611686018427387904 : Int) / (36 - thr (p : Int) b) ≤ 4611686018427387904 := Int.ediv_le_self _ (by omega)
    rw [u64w q0 (by omega)]
    by_cases hdt : d < thr (p : Int) b
    · rw [if_pos hdt, if_pos hdt]
    · rw [if_neg hdt, if_neg hdt]
      by_cases hw : w > (4611686018427387904 : Int) / (36 - thr (p : Int) b)
      · rw [if_pos hw, if_pos hw]; rfl
      · rw [if_neg hw, if_neg hw]
        have hle := (Int.le_ediv_iff_mul_le (a := w) (b := 4611686018427387904) (c := 36 - thr (p : Int) b) (by omega)).1 (by omega)
        have hge : 0 ≤ w * (36 - thr (p : Int) b) := Int.mul_nonneg (by omega) (by omega)
        rw [u64w hge (by omega)]; rfl
  · rw [if_neg hl, show decide (¬ n + d * w ≤ TOP) = true from by simp [hl]]
    simp [bias_Get.j2]
theorem put_last (b n : Int) (xs : List Int) (p : Nat) (hx : xs.length ≤ 1000) (h0 : 0 ≤ n) (hlt : n < thr (p : Int) b) (k : Nat) (hk : 60 ≤ k) : bias_Put.l0 (k + 1) n b xs (p : Int) = some (strOfNums (xs ++ [bt (⟨#[97, 98, 99, 100, 101, 102, 103, 104, 105, 106, 107, 108, 109, 110, 111, 112, 113, 114, 115, 116, 117, 118, 119, 120, 121, 122, 48, 49, 50, 51, 52, 53, 54, 55, 56, 57]⟩ : ByteArray) n])) := by
  have ht := thr_in (p : Int) b
  simp only [bias_Put.l0]
  rw [thr_go]
  simp only [Option.bind_some]
  rw [u64w (n := thr (p : Int) b) (by omega) (by omega), if_pos hlt, i64w (by omega) (by omega), letter_k n h0 (by omega) k (by omega)]
  simp only [Option.bind_some]
  rw [if_pos (by omega)]
theorem put_more (b n : Int) (xs : List Int) (p : Nat) (hp : p ≤ 1000) (hx : xs.length ≤ 1000) (h0 : 0 ≤ n) (h1 : n ≤ 18446744073709551615) (hlt : ¬ n < thr (p : Int) b) (k : Nat) (hk : 60 ≤ k) :
    bias_Put.l0 (k + 1) n b xs (p : Int) = bias_Put.l0 k ((n - thr (p : Int) b) / (36 - thr (p : Int) b)) b (xs ++ [bt (⟨#[97, 98, 99, 100, 101, 102, 103, 104, 105, 106, 107, 108, 109, 110, 111, 112, 113, 114, 115, 116, 117, 118, 119, 120, 121, 122, 48, 49, 50, 51, 52, 53, 54, 55, 56, 57]⟩ : ByteArray) (thr (p : Int) b + (n - thr (p : Int) b) % (36 - thr (p : Int) b))]) ((p + 1 : Nat) : Int) := by
  have ht := thr_in (p : Int) b
  have q0 : 0 ≤ (n - thr (p : Int) b) / (36 - thr (p : Int) b) := Int.ediv_nonneg (by omega) (by omega)
  have q2 : (n - thr (p : Int) b) / (36 - thr (p : Int) b) ≤ n - thr (p : Int) b := Int.ediv_le_self _ (by omega)
  have r0 : 0 ≤ (n - thr (p : Int) b) % (36 - thr (p : Int) b) := Int.emod_nonneg _ (by omega)
  have r1 : (n - thr (p : Int) b) % (36 - thr (p : Int) b) < 36 - thr (p : Int) b := Int.emod_lt_of_pos _ (by omega)
  simp only [bias_Put.l0]
  rw [thr_go]
  simp only [Option.bind_some]
  rw [u64w (n := thr (p : Int) b) (by omega) (by omega), if_neg hlt, u64w (n := 36 - thr (p : Int) b) (by omega) (by omega), if_neg (by omega), u64w (n := n - thr (p : Int) b) (by omega) (by omega), Int.tmod_eq_emod_of_nonneg (by omega), Int.tdiv_eq_ediv_of_nonneg (by omega),
    u64w (n := thr (p : Int) b + (n - thr (p : Int) b) % (36 - thr (p : Int) b)) (by omega) (by omega), u64w (n := (n - thr (p : Int) b) / (36 - thr (p : Int) b)) (by omega) (by omega), i64w (n := thr (p : Int) b + (n - thr (p : Int) b) % (36 - thr (p : Int) b)) (by omega) (by omega), i64w (n := (p : Int) + 1) (by omega) (by omega),
    letter_k _ (by omega) (by omega) k (by omega)]
  simp only [Option.bind_some]
  rw [if_pos (by omega)]; rfl
theorem nums_size (xs : List Int) : (strOfNums xs).size = xs.length := by simp [strOfNums, ByteArray.size]
theorem bt_list (s : ByteArray) (i : Nat) : bt s (i : Int) = ((s.data.toList.getD i 0).toNat : Int) := by
  unfold bt
  simp only [Int.toNat_natCast]
  split
  · rename_i h
    have h' : i < s.data.toList.length := by simpa using h
    rw [List.getD_eq_getElem?_getD, List.getElem?_eq_getElem h']
    simp [ByteArray.getElem_eq_getElem_data]
  · rename_i h
    have h' : s.data.toList.length ≤ i := by simpa using h
    rw [List.getD_eq_getElem?_getD, List.getElem?_eq_none h']; rfl
theorem nums_data (xs : List Int) : (strOfNums xs).data.toList = xs.map fun n => UInt8.ofNat n.toNat := by simp [strOfNums]

def low (c : Int) : Int := if c ≥ 65 ∧ c ≤ 90 then (c + 32) % 256 else c
def chk (b : Nat) : Bool := match bias_Digit.f 60 (b : Int) with
  | some (d, ok) => if ok = true then decide (0 ≤ d) && decide (d ≤ 35) && (low (b : Int) == bt (⟨#[97, 98, 99, 100, 101, 102, 103, 104, 105, 106, 107, 108, 109, 110, 111, 112, 113, 114, 115, 116, 117, 118, 119, 120, 121, 122, 48, 49, 50, 51, 52, 53, 54, 55, 56, 57]⟩ : ByteArray) d) else true
  | _ => false
theorem chk_all : ∀ b : Fin 256, chk b = true := by decide +kernel
theorem digit_k (b : Int) (h0 : 0 ≤ b) (h1 : b ≤ 255) : ∃ d ok, (∀ k, 60 ≤ k → bias_Digit.f k b = some (d, ok)) ∧ (ok = true → 0 ≤ d ∧ d ≤ 35 ∧ low b = bt (⟨#[97, 98, 99, 100, 101, 102, 103, 104, 105, 106, 107, 108, 109, 110, 111, 112, 113, 114, 115, 116, 117, 118, 119, 120, 121, 122, 48, 49, 50, 51, 52, 53, 54, 55, 56, 57]⟩ : ByteArray) d) := by
  obtain ⟨n, rfl⟩ := Int.eq_ofNat_of_zero_le h0
  have h := chk_all ⟨n, by omega⟩
  simp only [chk] at h
  split at h
  · rename_i d ok e1
    refine ⟨d, ok, fun k hk => at_rounds (bias_Digit.mono _) hk e1, ?_⟩
    cases ok <;> simp at h ⊢
    exact ⟨h.1.1, h.1.2, h.2⟩
  · cases h
def val (b : Int) : Nat → List Int → Int
  | _, [] => 0
  | p, d :: ds => if ds = [] then d else d + (36 - thr (p : Int) b) * val b (p + 1) ds
theorem nums_cons (xs : List Int) (c : Int) (ys : List Int) : xs ++ c :: ys = (xs ++ [c]) ++ ys := by simp
theorem get_tells (s : ByteArray) (hs : s.size ≤ 300) (b : Int) : ∀ (m i p : Nat) (acc w : Int), m + i = s.size → p ≤ i → 0 ≤ acc → acc ≤ TOP → 1 ≤ w → w ≤ TOP + 1 →
    (∃ e : Int, e ≠ 0 ∧ ∀ k, 2 * m + 100 ≤ k → bias_Get.l0 k s (i : Int) b acc w (p : Int) = some (0, 0, e)) ∨
    ∃ ds : List Int, ds ≠ [] ∧ i + ds.length ≤ s.size ∧ (∀ j, j < ds.length → low (bt s ((i + j : Nat) : Int)) = bt (⟨#[97, 98, 99, 100, 101, 102, 103, 104, 105, 106, 107, 108, 109, 110, 111, 112, 113, 114, 115, 116, 117, 118, 119, 120, 121, 122, 48, 49, 50, 51, 52, 53, 54, 55, 56, 57]⟩ : ByteArray) (ds.getD j 0)) ∧ 0 ≤ val b p ds ∧ acc + w * val b p ds ≤ TOP ∧
      (∀ k, 2 * m + 100 ≤ k → bias_Get.l0 k s (i : Int) b acc w (p : Int) = some (acc + w * val b p ds, ((i + ds.length : Nat) : Int), 0)) ∧
      ∀ (xs : List Int) (k : Nat), xs.length ≤ p → ds.length + 61 ≤ k → bias_Put.l0 k (val b p ds) b xs (p : Int) = some (strOfNums (xs ++ ds.map fun d => bt (⟨#[97, 98, 99, 100, 101, 102, 103, 104, 105, 106, 107, 108, 109, 110, 111, 112, 113, 114, 115, 116, 117, 118, 119, 120, 121, 122, 48, 49, 50, 51, 52, 53, 54, 55, 56, 57]⟩ : ByteArray) d))
  | 0, i, p, acc, w, hm, hp, n0, n1, w0, w1 => by
    refine .inl ⟨4, by decide, fun k hk => ?_⟩
    obtain ⟨k, rfl⟩ : ∃ q, k = q + 1 := ⟨k - 1, by omega⟩
    simp only [bias_Get.l0]
    rw [if_pos (by omega)]
  | m + 1, i, p, acc, w, hm, hp, n0, n1, w0, w1 => by
    obtain ⟨d, ok, hdig, h1⟩ := digit_k (bt s (i : Int)) (bt_range s i).1 (bt_range s i).2
    have ht := thr_in (p : Int) b
    cases ok with
    | false =>
      refine .inl ⟨3, by decide, fun k hk => ?_⟩
      obtain ⟨k, rfl⟩ : ∃ q, k = q + 1 := ⟨k - 1, by omega⟩
      simp only [bias_Get.l0]
      rw [if_neg (by omega), if_pos (by omega), if_pos (by omega), hdig k (by omega)]
      rfl
    | true =>
      obtain ⟨d0, d1, hlow⟩ := h1 rfl
      have hdw : 0 ≤ d * w := Int.mul_nonneg d0 (by omega)
      have hround := fun k hk => get_round s (by omega) b i p acc w d (by omega) (by omega) n0 n1 w0 w1 d0 d1 k (hdig (k + 1) hk)
      by_cases hl : acc + d * w ≤ TOP
      · by_cases hdt : d < thr (p : Int) b
        · refine .inr ⟨[d], by simp, by simp; omega, fun j hj => ?_, by simp [val]; omega, by simp [val]; rw [Int.mul_comm]; exact hl, fun k hk => ?_, fun xs k hx hk => ?_⟩
          · have : j = 0 := by simpa using hj
            subst this
            simpa using hlow
          · obtain ⟨k, rfl⟩ : ∃ q, k = q + 1 + 1 := ⟨k - 2, by omega⟩
            rw [hround k (by omega), if_pos hl, if_pos hdt]
            simp only [val, if_true, List.length_singleton]
            rw [Int.mul_comm w d]; rfl
          · obtain ⟨k, rfl⟩ : ∃ q, k = q + 1 := ⟨k - 1, by omega⟩
            simp only [val, if_true]
            exact put_last b d xs p (by omega) d0 hdt k (by simp at hk; omega)
        · have hnw := nextw_in (w := w) (t := thr (p : Int) b) w0 ht.1 ht.2
          rcases get_tells s hs b m (i + 1) (p + 1) (acc + d * w) (nextw w (thr (p : Int) b)) (by omega) (by omega) (by omega) hl hnw.1 hnw.2 with ⟨e, he, hr⟩ | ⟨ds, hne, hlen, hlows, hv0, hvT, hget, hput⟩
          · refine .inl ⟨e, he, fun k hk => ?_⟩
            obtain ⟨k, rfl⟩ : ∃ q, k = q + 1 + 1 := ⟨k - 2, by omega⟩
            rw [hround k (by omega), if_pos hl, if_neg hdt]
            exact hr k (by omega)
          · generalize hV : val b (p + 1) ds = V at *
            have hval : val b p (d :: ds) = d + (36 - thr (p : Int) b) * V := by simp only [val]; rw [if_neg hne, hV]
            have key : nextw w (thr (p : Int) b) * V = w * (36 - thr (p : Int) b) * V := by
              unfold nextw at hvT ⊢
              by_cases hw : w > TOP / (36 - thr (p : Int) b)
              · rw [if_pos hw] at hvT ⊢
                have hV0 : V = 0 := by
                  rcases Int.lt_or_le 0 V with hq | hq
                  · exfalso
                    have : (TOP + 1) * 1 ≤ (TOP + 1) * V := Int.mul_le_mul_of_nonneg_left (by omega) (by unfold TOP; omega)
                    omega
                  · omega
                rw [hV0]; simp
              · rw [if_neg hw]
            have e : w * (d + (36 - thr (p : Int) b) * V) = d * w + w * (36 - thr (p : Int) b) * V := by
              rw [Int.mul_add, Int.mul_comm w d, Int.mul_assoc]
            have hq : 0 ≤ (36 - thr (p : Int) b) * V := Int.mul_nonneg (by omega) hv0
            have hVle : d + (36 - thr (p : Int) b) * V ≤ TOP := by
              have : 1 * (d + (36 - thr (p : Int) b) * V) ≤ w * (d + (36 - thr (p : Int) b) * V) := Int.mul_le_mul_of_nonneg_right w0 (by omega)
              omega
            refine .inr ⟨d :: ds, by simp, by simp; omega, fun j hj => ?_, by rw [hval]; omega, by rw [hval, e, ← key]; omega, fun k hk => ?_, fun xs k hx hk => ?_⟩
            · cases j with
              | zero => simpa using hlow
              | succ j =>
                have := hlows j (by simpa using hj)
                rw [show i + (j + 1) = i + 1 + j by omega, this]; simp
            · obtain ⟨k, rfl⟩ : ∃ q, k = q + 1 + 1 := ⟨k - 2, by omega⟩
              rw [hround k (by omega), if_pos hl, if_neg hdt, hget k (by omega), hval, key, e]
              simp only [List.length_cons]
              congr 2
              · omega
              · congr 1; omega
            · obtain ⟨k, rfl⟩ : ∃ q, k = q + 1 := ⟨k - 1, by omega⟩
              simp only [List.length_cons] at hk
              unfold TOP at hVle
              have hdiv : (d + (36 - thr (p : Int) b) * V - thr (p : Int) b) / (36 - thr (p : Int) b) = V := by
                rw [show d + (36 - thr (p : Int) b) * V - thr (p : Int) b = (d - thr (p : Int) b) + (36 - thr (p : Int) b) * V from by omega, Int.add_mul_ediv_left _ _ (by omega), Int.ediv_eq_zero_of_lt (by omega) (by omega)]; omega
              have hmod : (d + (36 - thr (p : Int) b) * V - thr (p : Int) b) % (36 - thr (p : Int) b) = d - thr (p : Int) b := by
                rw [show d + (36 - thr (p : Int) b) * V - thr (p : Int) b = (d - thr (p : Int) b) + (36 - thr (p : Int) b) * V from by omega, Int.add_mul_emod_self_left, Int.emod_eq_of_lt (by omega) (by omega)]
              rw [hval, put_more b _ xs p (by omega) (by omega) (by omega) (by omega) (by omega) k (by omega), hdiv, hmod, show thr (p : Int) b + (d - thr (p : Int) b) = d from by omega, hput _ k (by simp; omega) (by omega)]
              simp
      · refine .inl ⟨5, by decide, fun k hk => ?_⟩
        obtain ⟨k, rfl⟩ : ∃ q, k = q + 1 + 1 := ⟨k - 2, by omega⟩
        rw [hround k (by omega), if_neg hl]
theorem small_loop (x : ByteArray) (hx : x.size ≤ 300) (es : List Int) (hl : es.length = x.size) (he : ∀ j, j < es.length → low (bt x ((j : Nat) : Int)) = es.getD j 0) : ∀ (d j k : Nat) (xs : List Int), d + j = x.size → xs.length = j → d < k → pilcrowref09_Small.l0 k x xs (j : Int) = some (strOfNums (xs ++ es.drop j))
  | 0, j, k, xs, h, hxs, hk => by
    obtain ⟨k, rfl⟩ : ∃ q, k = q + 1 := ⟨k - 1, by omega⟩
    simp only [pilcrowref09_Small.l0]
    rw [if_neg (by omega), List.drop_of_length_le (by omega), List.append_nil]
  | d + 1, j, k, xs, h, hxs, hk => by
    obtain ⟨k, rfl⟩ : ∃ q, k = q + 1 := ⟨k - 1, by omega⟩
    have hj := he j (by omega)
    rw [List.getD_eq_getElem?_getD, List.getElem?_eq_getElem (by omega)] at hj
    simp only [Option.getD_some] at hj
    have ih := small_loop x hx es hl he d (j + 1) k (xs ++ [es[j]'(by omega)]) (by omega) (by simp; omega) (by omega)
    rw [List.append_assoc, List.singleton_append, ← List.drop_eq_getElem_cons (by omega)] at ih
    simp only [pilcrowref09_Small.l0]
    rw [if_pos (by omega), if_pos (by omega), i64w (n := (j : Int) + 1) (by omega) (by omega), show (j : Int) + 1 = ((j + 1 : Nat) : Int) from by omega]
    unfold low at hj
    by_cases h1 : bt x (j : Int) ≥ 65
    · by_cases h2 : bt x (j : Int) ≤ 90
      · rw [if_pos ⟨h1, h2⟩] at hj
        rw [if_pos h1, if_pos h2, if_pos (by omega), hj]; exact ih
      · rw [if_neg (by omega)] at hj
        rw [if_pos h1, if_neg h2, if_pos (by omega), hj]; exact ih
    · rw [if_neg (by omega)] at hj
      rw [if_neg h1, if_pos (by omega), hj]; exact ih
theorem bt_cut (s : ByteArray) (n j : Nat) (hn : n ≤ s.size) (hj : j < n) : bt (s.extract 0 n) (j : Int) = bt s (j : Int) := by
  rw [bt_list, bt_list]
  congr 2
  rw [List.getD_eq_getElem?_getD, List.getD_eq_getElem?_getD]
  congr 1
  rw [ByteArray.data_extract, Array.toList_extract]
  simp [hj]
theorem size_cut (s : ByteArray) (n : Nat) (hn : n ≤ s.size) : (s.extract 0 n).size = n := by rw [ByteArray.size_extract]; omega
theorem BiasOne : pilcrowlaw09_BiasOne.Pure := by
  intro s b _ _
  obtain ⟨K, hK⟩ : ∃ K : Nat, 1000 ≤ K := ⟨_, Nat.le_refl _⟩
  refine ⟨K + 1 + 1, ?_⟩
  unfold pilcrowlaw09_BiasOne.f
  rw [awakeL_at _ (by omega)]
  simp only [Option.bind_some, if_true, pilcrowlaw09_BiasOne.j0]
  by_cases hb : (s.size : Int) > 300
  · rw [if_pos (by simpa using hb), awakeL_at _ (by omega)]; rfl
  rw [if_neg (by simpa using hb)]
  have hf : bias_Get.f (K + 1) s 0 b = bias_Get.l0 K s 0 b 0 1 0 := by
    unfold bias_Get.f
    rw [if_neg (by decide), show decide ((0 : Int) > (s.size : Int)) = false from by simp]
    simp only [bias_Get.j0, Bool.false_eq_true, if_false]
  rw [hf]
  rcases get_tells s (by omega) b s.size 0 0 0 1 (by omega) (by omega) (by decide) (by decide) (by decide) (by decide) with ⟨e, he, hr⟩ | ⟨ds, hne, hlen, hlows, hv0, hvT, hget, hput⟩
  · have := hr K (by omega)
    rw [show ((0 : Nat) : Int) = 0 from rfl] at this
    rw [this]
    simp only [Option.bind_some]
    rw [if_neg he]; rfl
  · have h1 := hget K (by omega)
    have h2 := hput [] (K + 1) (by simp) (by omega)
    have hpos : 0 < ds.length := List.length_pos_iff.2 hne
    simp only [Nat.zero_add] at h1 hlows hlen
    rw [show ((0 : Nat) : Int) = 0 from rfl] at h1 h2
    rw [h1]
    simp only [Option.bind_some, if_true]
    rw [if_pos (by omega), if_pos (by omega)]
    have e1 : (0 : Int) + 1 * val b 0 ds = val b 0 ds := by omega
    unfold bias_Put.f pilcrowref09_Small.f
    rw [e1, h2, List.nil_append]
    simp only [Option.bind_some]
    rw [if_pos (by omega)]
    have h3 := small_loop (s.extract 0 ds.length) (by rw [size_cut _ _ hlen]; omega) (ds.map fun d => bt (⟨#[97, 98, 99, 100, 101, 102, 103, 104, 105, 106, 107, 108, 109, 110, 111, 112, 113, 114, 115, 116, 117, 118, 119, 120, 121, 122, 48, 49, 50, 51, 52, 53, 54, 55, 56, 57]⟩ : ByteArray) d) (by rw [size_cut _ _ hlen]; simp) (fun j hj => by
      have hj' : j < ds.length := by simpa using hj
      rw [bt_cut s _ j hlen hj', hlows j hj']
      simp [List.getD_eq_getElem?_getD, hj']) ds.length 0 (K + 1) [] (by rw [size_cut _ _ hlen]; rfl) rfl (by omega)
    rw [show ((0 : Nat) : Int) = 0 from rfl] at h3
    rw [show ((ds.length : Nat) : Int).toNat = ds.length from by omega, h3]
    simp
end Go.Proofs.Ythpenelaieohkaa.Pure
