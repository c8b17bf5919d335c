/- CrcLinear: the law's own walk. -/
import Derived.Test.YtfpbeadgpkkknaaPureCrcSums
import Derived.Test.YtfpbeadgpkkknaaPhi
import Derived.Test.YtfpbeadgpkkknaaSpoil
namespace Go.Proofs.Ytfpbeadgpkkknaa.Lin
open Go.RowKit Go.Proofs.YtfpbeadgpkkknaaW.PrintWords Go.Proofs.YtfpbeadgpkkknaaW.PrintLast Go.Proofs.YtfpbeadgpkkknaaW.PrintMore Go.Proofs.Ytfpbeadgpkkknaa.Crc Go.Proofs.Ytfpbeadgpkkknaa.Hand Go.Proofs.Ytfpbeadgpkkknaa.Pure Go.Proofs.Ytfpbeadgpkkknaa.Phi
attribute [local go_sem] max2_int min2_int max_two min_two max_three min_three max_four min_four
set_option linter.unusedVariables false
set_option linter.unusedSimpArgs false
theorem info5 : (Try.prog.info? 5).map (fun i => (i.zero, i.size, i.bytes)) = some (some (.int .u8 0), 1, 1) := by kernel_rfl
theorem aw (w : World) : Calls Try.prog 8 #[] w fun e w' => e = .returned (.bool true) ∧ Below w.heap.size w w' := pilcrowlaw16_awake.calls true w rfl
def lin.T8 : Bool × List (List Nat × List Nat) := (true, [([], []), ([], []), ([], []), ([1, 2], [1, 2]), ([], []), ([], []), ([4, 5], [4, 5]), ([3, 6], [3, 6]), ([], []), ([], []), ([8, 9], [8, 9]), ([7, 10], [7, 10]), ([11], [11]), ([0, 12], [0, 12]), ([13, 13, 0, 1, 2, 3, 4, 5, 6, 7, 8, 9, 10, 11, 12, 13], [0, 13])])
def lin.B8 : List Nat := [0, 0, 0, 6, 0, 0, 48, 126, 0, 0, 768, 2046, 4094, 8191, 16383]
theorem lin.tab8 : rtab .any (opsOf Try.f7 8) = lin.T8 := by kernel_rfl
theorem lin.bits8 : waitsOk lin.T8.2 lin.B8 = true := by kernel_rfl
def lin.T9 : Bool × List (List Nat × List Nat) := (true, [([], []), ([0], [0]), ([1], [1]), ([2], [2]), ([], []), ([], []), ([4, 5], [4, 5]), ([6], [6]), ([7, 3], [7]), ([], []), ([], []), ([9, 10], [9, 10]), ([11], [11]), ([12, 8], [12]), ([8, 13], [8, 13]), ([], []), ([], []), ([15, 16], [15, 16]), ([17], [17]), ([18, 13], [18]), ([14, 19], [14, 19]), ([3, 20], [3, 20]), ([21, 19, 0, 1, 2, 3, 4, 5, 6, 7, 8, 9, 10, 11, 12, 13, 14, 15, 16, 17, 18, 19, 20, 21], [21])])
def lin.B9 : List Nat := [0, 1, 3, 7, 0, 0, 48, 112, 255, 0, 0, 1536, 3584, 8191, 16383, 0, 0, 98304, 229376, 507903, 1048575, 2097151, 4194303]
theorem lin.tab9 : rtab .any (opsOf Try.f7 9) = lin.T9 := by kernel_rfl
theorem lin.bits9 : waitsOk lin.T9.2 lin.B9 = true := by kernel_rfl
/-- The texts, mixed. -/
def mixL (a b c : ByteArray) (k : Nat) : List Int := (List.range k).map fun i => (((byteAt a i ^^^ byteAt b i) ^^^ byteAt c i : Nat) : Int)
theorem mixL_succ (a b c : ByteArray) (k : Nat) : mixL a b c (k + 1) = mixL a b c k ++ [bits BinOp.xor IntKind.u8 (bits BinOp.xor IntKind.u8 (byteAt a k : Int) (byteAt b k : Int)) (byteAt c k : Int)] := by
  have h1 : byteAt a k ^^^ byteAt b k < 2 ^ 8 := Nat.xor_lt_two_pow (byteAt_lt a k) (byteAt_lt b k)
  rw [bits_xor8 _ _ (byteAt_lt a k) (byteAt_lt b k), bits_xor8 _ _ h1 (byteAt_lt c k)]
  unfold mixL
  rw [List.range_succ, List.map_append]
  rfl
def RowS (w : World) (v : Value) (s : ByteArray) : Prop := ∃ ad, v = .slice (some ad) 1 1 ∧ Kd.C Kd.string w (some ad) 1 [s]
def linF (M x y z : ByteArray) (j : Nat) (v : Value) (w : World) : Prop :=
  match j with
  | 1 => v = .string M
  | 2 => RowS w v M
  | 7 => RowS w v x
  | 12 => RowS w v y
  | 18 => RowS w v z
  | 3 => v = .int .u32 (n32 (addB 0#32 M))
  | 8 => v = .int .u32 (n32 (addB 0#32 x))
  | 13 => v = .int .u32 (n32 (addB 0#32 y))
  | 19 => v = .int .u32 (n32 (addB 0#32 z))
  | 14 => v = .int .u32 (n32 (addB 0#32 x ^^^ addB 0#32 y))
  | 20 => v = .int .u32 (n32 (addB 0#32 x ^^^ addB 0#32 y ^^^ addB 0#32 z))
  | 21 => v = .bool true
  | 22 => v = .bool true
  | _ => True
theorem linF_step (M x y z : ByteArray) (j : Nat) (v : Value) (w1 w2 : World) (hb : Below w1.heap.size w1 w2) (h : linF M x y z j v w1) : linF M x y z j v w2 := by
  unfold linF at h ⊢
  split at h <;> first | exact h | (obtain ⟨ad, h1, h2⟩ := h; exact ⟨ad, h1, Kd.C_below h2 hb⟩)
def LinRel (w : World) (a b c : ByteArray) (n : Nat) (v i : Value) (wr : World) : Prop := ∃ k : Nat, k ≤ n ∧ i = .int .i64 (k : Int) ∧ Below w.heap.size w wr ∧ Kd.R (Kd.int .u8) 5 wr w.heap.size (fun _ => True) v (mixL a b c k)
set_option maxRecDepth 100000 in
set_option maxHeartbeats 1000000 in
theorem lin_walk (a b c : ByteArray) (w : World) (hx : ∀ n : Nat, n = min a.size (min b.size c.size) → n ≤ 400 → addB 0#32 (strOfNums (mixL a b c n)) = addB 0#32 (a.extract 0 n) ^^^ addB 0#32 (b.extract 0 n) ^^^ addB 0#32 (c.extract 0 n)) (ha : a.size ≤ maxLen) (hb : b.size ≤ maxLen) (hc : c.size ≤ maxLen) :
    Calls Try.prog 7 #[.string a, .string b, .string c] w fun e w' => e = .returned (.bool true) ∧ Below w.heap.size w w' := by
  unfold maxLen at ha hb hc
  obtain ⟨n, hn⟩ : ∃ n : Nat, n = min a.size (min b.size c.size) := ⟨_, rfl⟩
  have hna : n ≤ a.size := by omega
  have hnb : n ≤ b.size := by omega
  have hnc : n ≤ c.size := by omega
  have hmin : (if (c.size : Int) < (if (b.size : Int) < (a.size : Int) then (b.size : Int) else (a.size : Int)) then (c.size : Int) else (if (b.size : Int) < (a.size : Int) then (b.size : Int) else (a.size : Int))) = (n : Int) := by (repeat' split) <;> omega
  have HN := Aside0.mk hn
  have HX := Aside0.mk (hx n hn)
  clear hx
  clear hmin hn
  go_enter Try.func7, Try.ntmps7
  go_upto_region 1 with (fail)
  go_cut [7] (fun v wc => v = .int .i64 (n : Int) ∧ wc = w)
  case first =>
    go_wp2_with fail
    all_goals go_meet
    all_goals exact ⟨by have := HN.out; congr 1; omega, rfl⟩
  case rest =>
    obtain ⟨rfl, hwc⟩ := hcut
    obtain rfl : w = wc := hwc.symm
    go_wp2_with (first | (go_at_call 8; refine (aw _).mono ?_; rintro e w1 ⟨rfl, hB⟩) | ((with_reducible refine gate_dst (N := 24) rfl ?_); refine Kd.R_lit (Kd.int .u8) _ 5 ?hg (N := 24) ?hd (xs := ([] : List Int)) (inner := []) (ok := fun _ => True) (okp := fun _ => True) ?hr ?hp (fun _ hk => hk) trivial (Below.refl _ _) (Nat.le_refl _) (by simp) ?_; (case hd => rfl); (case hg => rfl); (case hr => first | (go_simp; done) | (go_simp; rfl)); (case hp => exact (Reps.none _ _)); intro v2 w2 ho4 hb2 hg_ hnew_; clear hg_ hnew_))
    · go_ret
      exact ⟨rfl, by refine below_then ?_ ?_ hB; assumption; exact Below.size (by assumption)⟩
    have HB := Aside0.mk (below_then hB hB.size hb2)
    have HO := Aside0.mk (Kd.R_lower ho4 hB.size)
    clear hb2 hB ho4
    have HW := Aside0.mk (show (n : Int) ≤ 400 by omega)
    go_loopw [8, 9] (fun v i wr => LinRel w a b c n v i wr) (fun _ i _ => n - (intOf i).toNat)
    case atStart => exact ⟨0, Nat.zero_le _, rfl, HB.out, HO.out⟩
    case round =>
      obtain ⟨k, hk, rfl, hB, ho⟩ := hrel
      have HB := Aside0.mk hB
      have HO := Aside0.mk ho
      clear hB ho
      by_cases hlt : k < n
      · have xa : ∀ h : k < a.size, ((a[k]'h).toNat : Int) = (byteAt a k : Int) := fun h => by unfold byteAt; rw [dif_pos h]
        have xb : ∀ h : k < b.size, ((b[k]'h).toNat : Int) = (byteAt b k : Int) := fun h => by unfold byteAt; rw [dif_pos h]
        have xc : ∀ h : k < c.size, ((c[k]'h).toNat : Int) = (byteAt c k : Int) := fun h => by unfold byteAt; rw [dif_pos h]
        have qa : (k < a.size) = True := eq_true (by omega)
        have qb : (k < b.size) = True := eq_true (by omega)
        have qc : (k < c.size) = True := eq_true (by omega)
        go_upto_region 8 with (fail)
        refine start_ (n := 15) (S := fun w' => True) (ds := []) #[false, false, false, false, false, false, false, false, false, false, false, false, false, false, false] (by kernel_rfl) rfl rfl trivial (fun hHeld => ?_); refine with_tabW lin.tab8 lin.bits8 (fun HT_ HW_ => ?_)
        refine pure_ (i := 0) (N := some 30) (v := ?_) (a' := ?_) #[true, false, false, false, false, false, false, false, false, false, false, false, false, false, false] rfl rfl (any_of HT_.out (by kernel_rfl)) (fun _ _ _ h => h) (Or.inl ⟨by rfl, ?_⟩) ?_ ?_
        rotate_left
        · intro w'
          go_simp
          with_reducible rfl
        rotate_left
        · simp only [Act.put, List.setIfInBounds_toArray, List.set_cons_zero, List.set_cons_succ, i64_w, i32_w]
          rfl
        refine pure_ (i := 1) (N := some 31) (v := ?_) (a' := ?_) #[true, true, false, false, false, false, false, false, false, false, false, false, false, false, false] rfl rfl (any_of HT_.out (by kernel_rfl)) (fun _ _ _ h => h) (Or.inl ⟨by rfl, ?_⟩) ?_ ?_
        rotate_left
        · intro w'
          go_simp
          with_reducible rfl
        rotate_left
        · simp only [Act.put, List.setIfInBounds_toArray, List.set_cons_zero, List.set_cons_succ, i64_w, i32_w]
          rfl
        refine pure_ (i := 2) (N := some 32) (v := ?_) (a' := ?_) #[true, true, true, false, false, false, false, false, false, false, false, false, false, false, false] rfl rfl (any_of HT_.out (by kernel_rfl)) (fun _ _ _ h => h) (Or.inl ⟨by rfl, ?_⟩) ?_ ?_
        rotate_left
        · intro w'
          go_simp
          with_reducible rfl
        rotate_left
        · simp only [Act.put, List.setIfInBounds_toArray, List.set_cons_zero, List.set_cons_succ, i64_w, i32_w]
          rfl
        refine pure_ (i := 3) (N := some 33) (v := ?_) (a' := ?_) #[true, true, true, true, false, false, false, false, false, false, false, false, false, false, false] rfl rfl (any_of HT_.out (by kernel_rfl)) (fun _ _ _ h => h) (Or.inl ⟨by rfl, ?_⟩) ?_ ?_
        rotate_left
        · intro w'
          go_simp
          with_reducible rfl
        rotate_left
        · simp only [Act.put, List.setIfInBounds_toArray, List.set_cons_zero, List.set_cons_succ, i64_w, i32_w]
          rfl
        refine pure_ (i := 4) (N := some 34) (v := ?_) (a' := ?_) #[true, true, true, true, true, false, false, false, false, false, false, false, false, false, false] rfl rfl (any_of HT_.out (by kernel_rfl)) (fun _ _ _ h => h) (Or.inl ⟨by rfl, ?_⟩) ?_ ?_
        rotate_left
        · intro w'
          go_simp
          with_reducible rfl
        rotate_left
        · simp only [Act.put, List.setIfInBounds_toArray, List.set_cons_zero, List.set_cons_succ, i64_w, i32_w]
          rfl
        refine pure_ (i := 5) (N := some 35) (v := ?_) (a' := ?_) #[true, true, true, true, true, true, false, false, false, false, false, false, false, false, false] rfl rfl (any_of HT_.out (by kernel_rfl)) (fun _ _ _ h => h) (Or.inl ⟨by rfl, ?_⟩) ?_ ?_
        rotate_left
        · intro w'
          go_simp
          with_reducible rfl
        rotate_left
        · simp only [Act.put, List.setIfInBounds_toArray, List.set_cons_zero, List.set_cons_succ, i64_w, i32_w]
          rfl
        refine pure_ (i := 6) (N := some 36) (v := ?_) (a' := ?_) #[true, true, true, true, true, true, true, false, false, false, false, false, false, false, false] rfl rfl (any_of HT_.out (by kernel_rfl)) (fun _ _ _ h => h) (Or.inl ⟨by rfl, ?_⟩) ?_ ?_
        rotate_left
        · intro w'
          go_simp
          with_reducible rfl
        rotate_left
        · simp only [Act.put, List.setIfInBounds_toArray, List.set_cons_zero, List.set_cons_succ, i64_w, i32_w]
          rfl
        refine pure_ (i := 7) (N := some 37) (v := ?_) (a' := ?_) #[true, true, true, true, true, true, true, true, false, false, false, false, false, false, false] rfl rfl (any_of HT_.out (by kernel_rfl)) (fun _ _ _ h => h) (Or.inl ⟨by rfl, ?_⟩) ?_ ?_
        rotate_left
        · intro w'
          go_simp
          with_reducible rfl
        rotate_left
        · simp only [Act.put, List.setIfInBounds_toArray, List.set_cons_zero, List.set_cons_succ, i64_w, i32_w]
          rfl
        refine pure_ (i := 8) (N := some 38) (v := ?_) (a' := ?_) #[true, true, true, true, true, true, true, true, true, false, false, false, false, false, false] rfl rfl (any_of HT_.out (by kernel_rfl)) (fun _ _ _ h => h) (Or.inl ⟨by rfl, ?_⟩) ?_ ?_
        rotate_left
        · intro w'
          go_simp
          with_reducible rfl
        rotate_left
        · simp only [Act.put, List.setIfInBounds_toArray, List.set_cons_zero, List.set_cons_succ, i64_w, i32_w]
          rfl
        refine pure_ (i := 9) (N := some 39) (v := ?_) (a' := ?_) #[true, true, true, true, true, true, true, true, true, true, false, false, false, false, false] rfl rfl (any_of HT_.out (by kernel_rfl)) (fun _ _ _ h => h) (Or.inl ⟨by rfl, ?_⟩) ?_ ?_
        rotate_left
        · intro w'
          go_simp
          with_reducible rfl
        rotate_left
        · simp only [Act.put, List.setIfInBounds_toArray, List.set_cons_zero, List.set_cons_succ, i64_w, i32_w]
          rfl
        refine pure_ (i := 10) (N := some 40) (v := ?_) (a' := ?_) #[true, true, true, true, true, true, true, true, true, true, true, false, false, false, false] rfl rfl (any_of HT_.out (by kernel_rfl)) (fun _ _ _ h => h) (Or.inl ⟨by rfl, ?_⟩) ?_ ?_
        rotate_left
        · intro w'
          go_simp
          with_reducible rfl
        rotate_left
        · simp only [Act.put, List.setIfInBounds_toArray, List.set_cons_zero, List.set_cons_succ, i64_w, i32_w]
          rfl
        refine pure_ (i := 11) (N := some 41) (v := ?_) (a' := ?_) #[true, true, true, true, true, true, true, true, true, true, true, true, false, false, false] rfl rfl (any_of HT_.out (by kernel_rfl)) (fun _ _ _ h => h) (Or.inl ⟨by rfl, ?_⟩) ?_ ?_
        rotate_left
        · intro w'
          go_simp
          with_reducible rfl
        rotate_left
        · simp only [Act.put, List.setIfInBounds_toArray, List.set_cons_zero, List.set_cons_succ, i64_w, i32_w]
          rfl
        refine one_ (i := 12) (N := some 42) #[true, true, true, true, true, true, true, true, true, true, true, true, true, false, false] rfl rfl (one_of HT_.out (by kernel_rfl)) (by decide) (fun K hK => ?_)
        refine value_ (w1 := ?_) (v := ?_) (by rfl) rfl ?_ ?_
        rotate_left 2
        · go_simp
          constructor
          · rfl
          · rfl
        refine hK _ _ trivial (fun hHeld => ?_)
        clear hK K
        refine norm_ (a' := ?_) ?_ ?_
        rotate_left
        · show Act.put _ (some 42) _ = _
          simp only [Act.put, List.setIfInBounds_toArray, List.set_cons_zero, List.set_cons_succ, i64_w, i32_w]
          rfl
        refine one_ (i := 13) (N := some 43) #[true, true, true, true, true, true, true, true, true, true, true, true, true, true, false] rfl rfl (one_of HT_.out (by kernel_rfl)) (by decide) (fun K hK => ?_)
        refine Kd.R_append_step (Kd.int .u8) (w0 := w) (W := wr.drew) w.heap.size (by rfl) (.tmp 30) (.tmp 42) 38 5 (.int .u8 0) 1 rfl Try.underlying38 info5 rfl (by decide) (by omega) _ (mixL a b c k) (bits BinOp.xor IntKind.u8 (bits BinOp.xor IntKind.u8 (byteAt a k : Int) (byteAt b k : Int)) (byteAt c k : Int)) [.int .u8 (bits BinOp.xor IntKind.u8 (bits BinOp.xor IntKind.u8 (byteAt a k : Int) (byteAt b k : Int)) (byteAt c k : Int))] (fun _ => True) (fun _ => False) rfl rfl ?aP (fun _ h => h.elim) (fun _ _ => trivial) ?aO ?aB ?aS ?aL ?_
        case aP => rfl
        case aO => exact Kd.R_drew HO.out
        case aB => exact below_drew1 HB.out
        case aS => exact (below_drew1 HB.out).size
        case aL => have := HW.out; unfold mixL; simp only [List.length_map, List.length_range]; omega
        intro v4 w4 ho hb4 hg hat
        have HB4 := Aside0.mk hb4
        have HO4 := Aside0.mk ho
        clear hb4 ho hg hat
        refine hK _ _ trivial (fun hHeld => ?_)
        clear hK K
        refine norm_ (a' := ?_) ?_ ?_
        rotate_left
        · show Act.put _ (some 43) _ = _
          simp only [Act.put, List.setIfInBounds_toArray, List.set_cons_zero, List.set_cons_succ, i64_w, i32_w]
          rfl
        refine pure_ (i := 14) (N := some 8) (v := ?_) (a' := ?_) #[true, true, true, true, true, true, true, true, true, true, true, true, true, true, true] rfl rfl (any_of HT_.out (by kernel_rfl)) (fun _ _ _ h => h) (Or.inl ⟨by rfl, ?_⟩) ?_ ?_
        rotate_left
        · intro w'
          go_simp
          with_reducible rfl
        rotate_left
        · simp only [Act.put, List.setIfInBounds_toArray, List.set_cons_zero, List.set_cons_succ, i64_w, i32_w]
          rfl
        refine done_ (done_of HT_.out (by kernel_rfl)) ?_
        try go_wp2
        exact ⟨⟨k + 1, by omega, by go_num, HB4.out, by rw [mixL_succ]; exact HO4.out⟩, by simp [intOf]; omega⟩
      · obtain rfl : k = n := by omega
        have sa : (0 ≤ (k : Int)) = True := eq_true (by omega)
        have qa : ((k : Int) ≤ (a.size : Int)) = True := eq_true (by omega)
        have qb : ((k : Int) ≤ (b.size : Int)) = True := eq_true (by omega)
        have qc : ((k : Int) ≤ (c.size : Int)) = True := eq_true (by omega)
        go_upto_region 9 with (fail)
        obtain ⟨M, hM⟩ : ∃ M, M = strOfNums (mixL a b c k) := ⟨_, rfl⟩
        obtain ⟨x, hx⟩ : ∃ x, x = a.extract 0 k := ⟨_, rfl⟩
        obtain ⟨y, hy⟩ : ∃ x, x = b.extract 0 k := ⟨_, rfl⟩
        obtain ⟨z, hz⟩ : ∃ x, x = c.extract 0 k := ⟨_, rfl⟩
        have hxor := HX.out (by have := HW.out; omega)
        rw [← hM, ← hx, ← hy, ← hz] at hxor
        have sM : M.size ≤ maxLen := by rw [hM]; have := HW.out; unfold maxLen; rw [strOfNums_size]; unfold mixL; simp only [List.length_map, List.length_range]; omega
        have sx : x.size ≤ maxLen := by rw [hx, ByteArray.size_extract]; have := HW.out; unfold maxLen; omega
        have sy : y.size ≤ maxLen := by rw [hy, ByteArray.size_extract]; have := HW.out; unfold maxLen; omega
        have sz : z.size ≤ maxLen := by rw [hz, ByteArray.size_extract]; have := HW.out; unfold maxLen; omega
        have SM := Aside0.mk sM
        have SX := Aside0.mk sx
        have SY := Aside0.mk sy
        have SZ := Aside0.mk sz
        have EX := Aside0.mk hxor
        have HM := Aside0.mk hM
        have Hx := Aside0.mk hx
        have Hy := Aside0.mk hy
        have Hz := Aside0.mk hz
        clear sM sx sy sz hxor hM hx hy hz
        refine start_ (n := 23) (S := fun w' => True) (ds := []) #[false, false, false, false, false, false, false, false, false, false, false, false, false, false, false, false, false, false, false, false, false, false, false] (by kernel_rfl) rfl rfl trivial (fun hHeld => ?_); refine with_tabW lin.tab9 lin.bits9 (fun HT_ HW_ => ?_)
        refine pure_ (i := 0) (N := some 44) (v := ?_) (a' := ?_) #[true, false, false, false, false, false, false, false, false, false, false, false, false, false, false, false, false, false, false, false, false, false, false] rfl rfl (any_of HT_.out (by kernel_rfl)) (fun _ _ _ h => h) (Or.inl ⟨by rfl, ?_⟩) ?_ ?_
        rotate_left
        · intro w'
          go_simp
          with_reducible rfl
        rotate_left
        · simp only [Act.put, List.setIfInBounds_toArray, List.set_cons_zero, List.set_cons_succ, i64_w, i32_w]
          rfl
        refine pure_ (i := 4) (N := some 48) (v := ?_) (a' := ?_) #[true, false, false, false, true, false, false, false, false, false, false, false, false, false, false, false, false, false, false, false, false, false, false] rfl rfl (any_of HT_.out (by kernel_rfl)) (fun _ _ _ h => h) (Or.inl ⟨by rfl, ?_⟩) ?_ ?_
        rotate_left
        · intro w'
          go_simp
          with_reducible rfl
        rotate_left
        · simp only [Act.put, List.setIfInBounds_toArray, List.set_cons_zero, List.set_cons_succ, i64_w, i32_w]
          rfl
        refine pure_ (i := 5) (N := some 49) (v := ?_) (a' := ?_) #[true, false, false, false, true, true, false, false, false, false, false, false, false, false, false, false, false, false, false, false, false, false, false] rfl rfl (any_of HT_.out (by kernel_rfl)) (fun _ _ _ h => h) (Or.inl ⟨by rfl, ?_⟩) ?_ ?_
        rotate_left
        · intro w'
          go_simp
          with_reducible rfl
        rotate_left
        · simp only [Act.put, List.setIfInBounds_toArray, List.set_cons_zero, List.set_cons_succ, i64_w, i32_w]
          rfl
        refine pure_ (i := 6) (N := some 50) (v := ?_) (a' := ?_) #[true, false, false, false, true, true, true, false, false, false, false, false, false, false, false, false, false, false, false, false, false, false, false] rfl rfl (any_of HT_.out (by kernel_rfl)) (fun _ _ _ h => h) (Or.inl ⟨by rfl, ?_⟩) ?_ ?_
        rotate_left
        · intro w'
          go_simp
          with_reducible rfl
        rotate_left
        · simp only [Act.put, List.setIfInBounds_toArray, List.set_cons_zero, List.set_cons_succ, i64_w, i32_w]
          rfl
        refine pure_ (i := 9) (N := some 53) (v := ?_) (a' := ?_) #[true, false, false, false, true, true, true, false, false, true, false, false, false, false, false, false, false, false, false, false, false, false, false] rfl rfl (any_of HT_.out (by kernel_rfl)) (fun _ _ _ h => h) (Or.inl ⟨by rfl, ?_⟩) ?_ ?_
        rotate_left
        · intro w'
          go_simp
          with_reducible rfl
        rotate_left
        · simp only [Act.put, List.setIfInBounds_toArray, List.set_cons_zero, List.set_cons_succ, i64_w, i32_w]
          rfl
        refine pure_ (i := 10) (N := some 54) (v := ?_) (a' := ?_) #[true, false, false, false, true, true, true, false, false, true, true, false, false, false, false, false, false, false, false, false, false, false, false] rfl rfl (any_of HT_.out (by kernel_rfl)) (fun _ _ _ h => h) (Or.inl ⟨by rfl, ?_⟩) ?_ ?_
        rotate_left
        · intro w'
          go_simp
          with_reducible rfl
        rotate_left
        · simp only [Act.put, List.setIfInBounds_toArray, List.set_cons_zero, List.set_cons_succ, i64_w, i32_w]
          rfl
        refine pure_ (i := 11) (N := some 55) (v := ?_) (a' := ?_) #[true, false, false, false, true, true, true, false, false, true, true, true, false, false, false, false, false, false, false, false, false, false, false] rfl rfl (any_of HT_.out (by kernel_rfl)) (fun _ _ _ h => h) (Or.inl ⟨by rfl, ?_⟩) ?_ ?_
        rotate_left
        · intro w'
          go_simp
          with_reducible rfl
        rotate_left
        · simp only [Act.put, List.setIfInBounds_toArray, List.set_cons_zero, List.set_cons_succ, i64_w, i32_w]
          rfl
        refine pure_ (i := 15) (N := some 59) (v := ?_) (a' := ?_) #[true, false, false, false, true, true, true, false, false, true, true, true, false, false, false, true, false, false, false, false, false, false, false] rfl rfl (any_of HT_.out (by kernel_rfl)) (fun _ _ _ h => h) (Or.inl ⟨by rfl, ?_⟩) ?_ ?_
        rotate_left
        · intro w'
          go_simp
          with_reducible rfl
        rotate_left
        · simp only [Act.put, List.setIfInBounds_toArray, List.set_cons_zero, List.set_cons_succ, i64_w, i32_w]
          rfl
        refine pure_ (i := 16) (N := some 60) (v := ?_) (a' := ?_) #[true, false, false, false, true, true, true, false, false, true, true, true, false, false, false, true, true, false, false, false, false, false, false] rfl rfl (any_of HT_.out (by kernel_rfl)) (fun _ _ _ h => h) (Or.inl ⟨by rfl, ?_⟩) ?_ ?_
        rotate_left
        · intro w'
          go_simp
          with_reducible rfl
        rotate_left
        · simp only [Act.put, List.setIfInBounds_toArray, List.set_cons_zero, List.set_cons_succ, i64_w, i32_w]
          rfl
        refine pure_ (i := 17) (N := some 61) (v := ?_) (a' := ?_) #[true, false, false, false, true, true, true, false, false, true, true, true, false, false, false, true, true, true, false, false, false, false, false] rfl rfl (any_of HT_.out (by kernel_rfl)) (fun _ _ _ h => h) (Or.inl ⟨by rfl, ?_⟩) ?_ ?_
        rotate_left
        · intro w'
          go_simp
          with_reducible rfl
        rotate_left
        · simp only [Act.put, List.setIfInBounds_toArray, List.set_cons_zero, List.set_cons_succ, i64_w, i32_w]
          rfl
        rw [← Hx.out, ← Hy.out, ← Hz.out]
        refine phi_ 66 [1, 2, 3, 7, 8, 12, 13, 14, 18, 19, 20, 21, 22] (fun w' => Below w.heap.size w w' ∧ Kd.R (Kd.int .u8) 5 w' w.heap.size (fun _ => True) u8 (mixL a b c k)) (fun w1 w2 => Below w1.heap.size w1 w2) (linF M x y z) HT_.out HW_.out (by kernel_rfl) (by kernel_rfl) (by kernel_rfl) (Nat.le_refl 66) ⟨below_drew1 HB.out, Kd.R_drew HO.out⟩ (fun j v w1 w2 h1 h2 => linF_step M x y z j v w1 w2 h1 h2) ?_ ?_
        · refine phi_cons ?_ ?_
          · intro a' w' hG hoff hon
            refine ⟨_, rfl, fun K hK => ?_⟩
            have hcv := own_string (P := Try.prog) Try.underlying38 Try.underlying5 Try.underlying9 (Kd.own_of_R hG.2)
            rw [← HM.out] at hcv
            have e44 : a'.tmps[44]? = some u8 := (hoff 44 (by kernel_rfl)).trans rfl
            refine value_ (w1 := w') (v := .string M) (by rfl) rfl ?_ ?_
            · go_simp
              (try simp only [i64_w])
              try rfl
            · exact hK _ _ rfl hG (Below.refl _ _)
          refine phi_cons ?_ ?_
          · intro a' w' hG hoff hon
            refine ⟨_, rfl, fun K hK => ?_⟩
            obtain ⟨v1, f1, p1⟩ := hon 1 (by kernel_rfl)
            have e45 := f1 45 rfl
            obtain rfl : v1 = _ := p1
            refine value_ (w1 := w'.alloc (.cells #[.string M] 9)) (v := .slice (some ⟨w'.heap.size, 0, none⟩) 1 1) (by rfl) rfl ?_ ?_
            · go_simp
              (try simp only [i64_w])
              try rfl
            · exact hK _ _ ⟨_, rfl, one_row w' M 9⟩ ⟨below_alloc hG.1 _, Kd.R_alloc hG.2 _⟩ (below_alloc (Below.refl _ _) _)
          refine phi_cons ?_ ?_
          · intro a' w' hG hoff hon
            refine ⟨_, rfl, fun K hK => ?_⟩
            obtain ⟨v2, f2, p2⟩ := hon 2 (by kernel_rfl)
            have e46 := f2 46 rfl
            obtain ⟨ad2, rfl, hr2⟩ := p2
            refine goes_ Try.func10 (by kernel_rfl) rfl #[.slice (some ad2) 1 1] (by rfl) rfl rfl (by simp [Act.eval, e46]) ?_
            refine (crc_Of.calls _ _ [M] _ _ hr2 (Nat.le_refl _) (of_one SM.out)).mono ?_
            rintro e w2 ⟨rfl, hb⟩
            exact ⟨_, rfl, hK _ _ rfl ⟨below_then hG.1 hG.1.size hb, Kd.R_below hG.2 hb⟩ hb⟩
          refine phi_cons ?_ ?_
          · intro a' w' hG hoff hon
            refine ⟨_, rfl, fun K hK => ?_⟩
            have e50 : a'.tmps[50]? = some (.string x) := (hoff 50 (by kernel_rfl)).trans rfl
            refine value_ (w1 := w'.alloc (.cells #[.string x] 9)) (v := .slice (some ⟨w'.heap.size, 0, none⟩) 1 1) (by rfl) rfl ?_ ?_
            · go_simp
              (try simp only [i64_w])
              try rfl
            · exact hK _ _ ⟨_, rfl, one_row w' x 9⟩ ⟨below_alloc hG.1 _, Kd.R_alloc hG.2 _⟩ (below_alloc (Below.refl _ _) _)
          refine phi_cons ?_ ?_
          · intro a' w' hG hoff hon
            refine ⟨_, rfl, fun K hK => ?_⟩
            obtain ⟨v7, f7, p7⟩ := hon 7 (by kernel_rfl)
            have e51 := f7 51 rfl
            obtain ⟨ad7, rfl, hr7⟩ := p7
            refine goes_ Try.func10 (by kernel_rfl) rfl #[.slice (some ad7) 1 1] (by rfl) rfl rfl (by simp [Act.eval, e51]) ?_
            refine (crc_Of.calls _ _ [x] _ _ hr7 (Nat.le_refl _) (of_one SX.out)).mono ?_
            rintro e w2 ⟨rfl, hb⟩
            exact ⟨_, rfl, hK _ _ rfl ⟨below_then hG.1 hG.1.size hb, Kd.R_below hG.2 hb⟩ hb⟩
          refine phi_cons ?_ ?_
          · intro a' w' hG hoff hon
            refine ⟨_, rfl, fun K hK => ?_⟩
            have e55 : a'.tmps[55]? = some (.string y) := (hoff 55 (by kernel_rfl)).trans rfl
            refine value_ (w1 := w'.alloc (.cells #[.string y] 9)) (v := .slice (some ⟨w'.heap.size, 0, none⟩) 1 1) (by rfl) rfl ?_ ?_
            · go_simp
              (try simp only [i64_w])
              try rfl
            · exact hK _ _ ⟨_, rfl, one_row w' y 9⟩ ⟨below_alloc hG.1 _, Kd.R_alloc hG.2 _⟩ (below_alloc (Below.refl _ _) _)
          refine phi_cons ?_ ?_
          · intro a' w' hG hoff hon
            refine ⟨_, rfl, fun K hK => ?_⟩
            obtain ⟨v12, f12, p12⟩ := hon 12 (by kernel_rfl)
            have e56 := f12 56 rfl
            obtain ⟨ad12, rfl, hr12⟩ := p12
            refine goes_ Try.func10 (by kernel_rfl) rfl #[.slice (some ad12) 1 1] (by rfl) rfl rfl (by simp [Act.eval, e56]) ?_
            refine (crc_Of.calls _ _ [y] _ _ hr12 (Nat.le_refl _) (of_one SY.out)).mono ?_
            rintro e w2 ⟨rfl, hb⟩
            exact ⟨_, rfl, hK _ _ rfl ⟨below_then hG.1 hG.1.size hb, Kd.R_below hG.2 hb⟩ hb⟩
          refine phi_cons ?_ ?_
          · intro a' w' hG hoff hon
            refine ⟨_, rfl, fun K hK => ?_⟩
            obtain ⟨v8, f8, p8⟩ := hon 8 (by kernel_rfl)
            have e52 := f8 52 rfl
            obtain rfl : v8 = _ := p8
            obtain ⟨v13, f13, p13⟩ := hon 13 (by kernel_rfl)
            have e57 := f13 57 rfl
            obtain rfl : v13 = _ := p13
            have hbx := bits_xor (addB 0#32 x) (addB 0#32 y)
            refine value_ (w1 := w') (v := .int .u32 (n32 (addB 0#32 x ^^^ addB 0#32 y))) (by rfl) rfl ?_ ?_
            · go_simp
              (try simp only [i64_w])
              try rfl
            · exact hK _ _ rfl hG (Below.refl _ _)
          refine phi_cons ?_ ?_
          · intro a' w' hG hoff hon
            refine ⟨_, rfl, fun K hK => ?_⟩
            have e61 : a'.tmps[61]? = some (.string z) := (hoff 61 (by kernel_rfl)).trans rfl
            refine value_ (w1 := w'.alloc (.cells #[.string z] 9)) (v := .slice (some ⟨w'.heap.size, 0, none⟩) 1 1) (by rfl) rfl ?_ ?_
            · go_simp
              (try simp only [i64_w])
              try rfl
            · exact hK _ _ ⟨_, rfl, one_row w' z 9⟩ ⟨below_alloc hG.1 _, Kd.R_alloc hG.2 _⟩ (below_alloc (Below.refl _ _) _)
          refine phi_cons ?_ ?_
          · intro a' w' hG hoff hon
            refine ⟨_, rfl, fun K hK => ?_⟩
            obtain ⟨v18, f18, p18⟩ := hon 18 (by kernel_rfl)
            have e62 := f18 62 rfl
            obtain ⟨ad18, rfl, hr18⟩ := p18
            refine goes_ Try.func10 (by kernel_rfl) rfl #[.slice (some ad18) 1 1] (by rfl) rfl rfl (by simp [Act.eval, e62]) ?_
            refine (crc_Of.calls _ _ [z] _ _ hr18 (Nat.le_refl _) (of_one SZ.out)).mono ?_
            rintro e w2 ⟨rfl, hb⟩
            exact ⟨_, rfl, hK _ _ rfl ⟨below_then hG.1 hG.1.size hb, Kd.R_below hG.2 hb⟩ hb⟩
          refine phi_cons ?_ ?_
          · intro a' w' hG hoff hon
            refine ⟨_, rfl, fun K hK => ?_⟩
            obtain ⟨v14, f14, p14⟩ := hon 14 (by kernel_rfl)
            have e58 := f14 58 rfl
            obtain rfl : v14 = _ := p14
            obtain ⟨v19, f19, p19⟩ := hon 19 (by kernel_rfl)
            have e63 := f19 63 rfl
            obtain rfl : v19 = _ := p19
            have hbx := bits_xor (addB 0#32 x ^^^ addB 0#32 y) (addB 0#32 z)
            refine value_ (w1 := w') (v := .int .u32 (n32 (addB 0#32 x ^^^ addB 0#32 y ^^^ addB 0#32 z))) (by rfl) rfl ?_ ?_
            · go_simp
              (try simp only [i64_w])
              try rfl
            · exact hK _ _ rfl hG (Below.refl _ _)
          refine phi_cons ?_ ?_
          · intro a' w' hG hoff hon
            refine ⟨_, rfl, fun K hK => ?_⟩
            obtain ⟨v3, f3, p3⟩ := hon 3 (by kernel_rfl)
            have e47 := f3 47 rfl
            obtain rfl : v3 = _ := p3
            obtain ⟨v20, f20, p20⟩ := hon 20 (by kernel_rfl)
            have e64 := f20 64 rfl
            obtain rfl : v20 = _ := p20
            rw [EX.out] at e47
            refine value_ (w1 := w') (v := .bool true) (by rfl) rfl ?_ ?_
            · go_simp
              (try simp only [i64_w])
              try rfl
            · exact hK _ _ rfl hG (Below.refl _ _)
          refine phi_cons ?_ ?_
          · intro a' w' hG hoff hon
            refine ⟨_, rfl, fun K hK => ?_⟩
            obtain ⟨v21, f21, p21⟩ := hon 21 (by kernel_rfl)
            have e65 := f21 65 rfl
            obtain rfl : v21 = _ := p21
            refine value_ (w1 := w') (v := .bool true) (by rfl) rfl ?_ ?_
            · go_simp
              (try simp only [i64_w])
              try rfl
            · exact hK _ _ rfl hG (Below.refl _ _)
          exact phi_nil
        · intro vals w' hG hF
          have h22 : vals 22 = .bool true := hF 22 (by decide)
          simp only [Phi.putAll, Phi.dstOf, List.getElem?_toArray, List.getElem?_cons_succ, List.getElem?_cons_zero, Option.bind_some, Act.put, List.setIfInBounds_toArray, List.set_cons_zero, List.set_cons_succ, h22]
          have HG := Aside0.mk hG.1
          clear hG hF h22
          go_wp2
          go_ret
          exact ⟨rfl, HG.out⟩
end Go.Proofs.Ytfpbeadgpkkknaa.Lin
