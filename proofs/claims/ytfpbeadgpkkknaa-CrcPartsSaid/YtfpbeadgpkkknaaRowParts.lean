/- CrcParts: the law's own walk. -/
import Derived.Test.YtfpbeadgpkkknaaPureCrcSums
namespace Go.Proofs.Ytfpbeadgpkkknaa.Parts
open Go.RowKit Go.Proofs.YtfpbeadgpkkknaaW.PrintWords Go.Proofs.Ytfpbeadgpkkknaa.Crc Go.Proofs.Ytfpbeadgpkkknaa.Hand Go.Proofs.Ytfpbeadgpkkknaa.Pure
set_option linter.unusedVariables false
theorem aw (w : World) : Calls Try.prog 8 #[] w fun e w' => e = .returned (.bool true) ∧ Below w.heap.size w w' := pilcrowlaw16_awake.calls true w rfl
def mins (l : List ByteArray) : Nat := (l.map fun s => min s.size 65536).sum
theorem mins_step (l : List ByteArray) (k : Nat) (h : k < l.length) : mins (l.take (k + 1)) = mins (l.take k) + min l[k].size 65536 := by
  unfold mins
  rw [List.take_add_one, List.getElem?_eq_getElem h, Option.toList_some, List.map_append, List.sum_append]
  simp
theorem addB_app (v : BitVec 32) (a b : ByteArray) : addB (addB v a) b = addB v (a ++ b) := by
  have hs : (a ++ b).size = a.size + b.size := ByteArray.size_append ..
  have key : ∀ n, n ≤ b.size → runB (a ++ b) (~~~v) (a.size + n) = runB b (runB a (~~~v) a.size) n := by
    intro n
    induction n with
    | zero =>
      intro _
      have : ∀ m, m ≤ a.size → runB (a ++ b) (~~~v) m = runB a (~~~v) m := by
        intro m
        induction m with
        | zero => intro _; rfl
        | succ m ih =>
          intro hm
          simp only [runB]
          rw [ih (by omega)]
          congr 2
          congr 1
          unfold byteAt
          rw [dif_pos (by omega), dif_pos (by omega), ByteArray.getElem_append_left (by omega)]
      exact this _ (Nat.le_refl _)
    | succ n ih =>
      intro hn
      rw [← Nat.add_assoc]
      simp only [runB]
      rw [ih (by omega)]
      congr 2
      congr 1
      unfold byteAt
      rw [dif_pos (by omega), dif_pos (by omega), ByteArray.getElem_append_right (by omega)]
      simp
  unfold addB
  rw [BitVec.not_not, ← key b.size (Nat.le_refl _), hs]
/-- The parts, one behind the other. -/
def cat (l : List ByteArray) : ByteArray := l.foldl (· ++ ·) (⟨#[]⟩ : ByteArray)
theorem cat_step (l : List ByteArray) (k : Nat) (h : k < l.length) : cat (l.take (k + 1)) = cat (l.take k) ++ l[k] := by
  unfold cat
  rw [List.take_add_one, List.getElem?_eq_getElem h, Option.toList_some, List.foldl_append]
  rfl
theorem sum_cat (l : List ByteArray) : ∀ k, k ≤ l.length → sumB 0#32 (l.take k) = addB 0#32 (cat (l.take k))
  | 0, _ => by rw [List.take_zero]; exact no_add.symm
  | k + 1, h => by rw [sum_step l k (by omega), sum_cat l k (by omega), addB_app, cat_step l k (by omega)]
theorem cat_size (l : List ByteArray) : ∀ k, k ≤ l.length → l.length + mins (l.take k) ≤ 2000 → (cat (l.take k)).size = mins (l.take k)
  | 0, _, _ => rfl
  | k + 1, h, hm => by
    have hst := mins_step l k (by omega)
    rw [cat_step l k (by omega), ByteArray.size_append, cat_size l k (by omega) (by omega)]
    omega
theorem mins_le (l : List ByteArray) (k : Nat) (hk : k ≤ l.length) : ∀ d, k + d = l.length → mins (l.take k) ≤ mins l
  | 0, h => by rw [show k = l.length by omega, List.take_length]; exact Nat.le_refl _
  | d + 1, h => by
    have := mins_step l k (by omega)
    have := mins_le l (k + 1) (by omega) d (by omega)
    omega
def RelB (w0 : World) (g : Nat) (l : List ByteArray) (a i : Value) (wr : World) : Prop := ∃ k : Nat, k ≤ l.length ∧ i = .int .i64 k ∧ a = .string (cat (l.take k)) ∧ Below w0.heap.size w0 wr ∧ w0.heap.size ≤ g ∧ g < wr.heap.size ∧ wr.cell? ⟨g, 0, none⟩ = some (.int .u32 (n32 (sumB 0#32 (l.take k)))) ∧ wr.frozen? ⟨g, 0, none⟩ = false
theorem ref_calls (s : ByteArray) (w : World) (hs : s.size ≤ 100000) : Calls Try.prog 9 #[.string s] w fun e w' => e = .returned (.int .u32 (n32 (addB 0#32 s))) ∧ Drawn0 w w' :=
  QCrcSums.pilcrowref16_Of.calls _ s _ w (of_ref s hs _ (Nat.le_refl _))
def RelA (w0 : World) (l : List ByteArray) (n i : Value) (wr : World) : Prop := ∃ k : Nat, k ≤ l.length ∧ i = .int .i64 k ∧ n = .int .i64 ((l.length + mins (l.take k) : Nat) : Int) ∧ (k = 0 ∨ l.length + mins (l.take k) ≤ 2000) ∧ Below w0.heap.size w0 wr
set_option maxHeartbeats 1000000 in
theorem parts_walk (A0 : Option Addr) (c0 : Nat) (l : List ByteArray) (w : World) (hr0 : Kd.C Kd.string w A0 l.length l) (hc0 : l.length ≤ c0) (hm : l.length * 16 ≤ 140737488351232) (hs : ∀ s ∈ l, s.size ≤ maxLen) :
    Calls Try.prog 4 #[.slice A0 l.length c0] w fun e w' => e = .returned (.bool true) ∧ Below w.heap.size w w' := by
  have HR := Aside0.mk hr0
  have HS := Aside0.mk hs
  have HC := Aside0.mk hc0
  clear hr0 hs hc0
  go_enter Try.func4, Try.ntmps4
  go_wp2_with fail
  go_loopw [3, 14] (fun n i wr => RelA w l n i wr) (fun _ i _ => l.length - (intOf i).toNat)
  case atStart => exact ⟨0, by omega, rfl, by simp [mins], .inl rfl, Below.refl _ _⟩
  case round =>
    obtain ⟨k, hk, rfl, rfl, hz, hB⟩ := hrel
    by_cases hlt : k < l.length
    · obtain ⟨ad, rfl, hcell⟩ := row_at HR.out hlt
      have hcell2 := pw_cell_below hB hcell
      clear hcell
      have hst := mins_step l k hlt
      have hmin : ((l.length + mins (l.take (k + 1)) : Nat) : Int) = (l.length : Int) + mins (l.take k) + (if (65536 : Int) < (l[k].size : Int) then (65536 : Int) else (l[k].size : Int)) := by
        rw [hst]; split <;> omega
      have HM := Aside0.mk hmin
      have b0 : 0 ≤ (l.length : Int) + mins (l.take k) + (if (65536 : Int) < (l[k].size : Int) then (65536 : Int) else (l[k].size : Int)) := by omega
      have b1 : (l.length : Int) + mins (l.take k) + (if (65536 : Int) < (l[k].size : Int) then (65536 : Int) else (l[k].size : Int)) ≤ 9223372036854775807 := by
        have h65 : (if (65536 : Int) < (l[k].size : Int) then (65536 : Int) else (l[k].size : Int)) ≤ 65536 := by split <;> omega
        rcases hz with rfl | hz
        · simp [mins] at *; omega
        · omega
      have hw : wrap64 ((l.length : Int) + mins (l.take k) + (if (65536 : Int) < (l[k].size : Int) then (65536 : Int) else (l[k].size : Int))) = (l.length : Int) + mins (l.take k) + (if (65536 : Int) < (l[k].size : Int) then (65536 : Int) else (l[k].size : Int)) := by unfold wrap64; omega
      have HWR := Aside0.mk hw
      clear hst hmin hw b0 b1
      go_wp2_with fail
      case inl =>
        refine (aw wr).mono ?_
        rintro e w1 ⟨rfl, hB1⟩
        go_wp2_with fail
        go_ret
        exact ⟨rfl, below_then hB hB.size hB1⟩
      case inr =>
        refine (aw wr).mono ?_
        rintro e w1 ⟨rfl, hB1⟩
        go_wp2_with fail
        go_ret
        exact ⟨rfl, below_then hB hB.size hB1⟩
      have hle : wrap64 ((l.length : Int) + mins (l.take k) + (if (65536 : Int) < (l[k].size : Int) then (65536 : Int) else (l[k].size : Int))) ≤ 2000 := by assumption
      rw [HWR.out, ← HM.out] at hle
      refine ⟨⟨k + 1, by omega, by go_num, ?_, .inr (by omega), hB⟩, by simp [intOf]; omega⟩
      rw [HWR.out, ← HM.out]
    · obtain rfl : k = l.length := by omega
      have hn : l.length + mins l ≤ 2000 := by
        rw [List.take_length] at hz
        rcases hz with h0 | hz
        · have : l = [] := List.eq_nil_of_length_eq_zero h0
          subst this
          simp [mins]
        · exact hz
      have hn2 : (l.length : Int) + (mins (l.take l.length) : Int) ≤ 2000 := by rw [List.take_length]; omega
      clear hz
      go_wp2_with fail
      refine (aw wr).mono ?_
      rintro e w1 ⟨rfl, hB1⟩
      have B1 := Aside0.mk (below_then hB hB.size hB1)
      clear hB hB1
      go_wp2_with fail
      go_outline
      go_loopw [6, 36] (fun a i w2 => RelB w w1.heap.size l a i w2) (fun _ i _ => l.length - (intOf i).toNat)
      case atStart => exact ⟨0, by omega, rfl, rfl, below_alloc B1.out _, B1.out.size, by simp, by simp [sumB, n32], by simp⟩
      case round =>
        obtain ⟨k, hk, rfl, rfl, hB, hg, hz, hc, hf⟩ := hrel
        by_cases hlt : k < l.length
        · obtain ⟨ad, rfl, hcell⟩ := row_at HR.out hlt
          have hcell2 := pw_cell_below hB hcell
          clear hcell
          have hsz := cat_size l (k + 1) (by omega) (by have := mins_le l (k + 1) (by omega) (l.length - (k + 1)) (by omega); omega)
          have hml := mins_le l (k + 1) (by omega) (l.length - (k + 1)) (by omega)
          rw [cat_step l k hlt, ByteArray.size_append] at hsz
          have hszl : (cat (l.take k)).size + l[k].size ≤ 9223372036854775807 := by omega
          have hsum : n32 (addB 0#32 (cat (l.take k) ++ l[k])) = n32 (sumB 0#32 (l.take (k + 1))) := by rw [sum_cat l (k + 1) (by omega), cat_step l k hlt]
          have HSUM := Aside0.mk hsum
          have HCAT := Aside0.mk (cat_step l k hlt)
          clear hsum
          go_wp2_with fail
          refine (add_step (w0 := w) (HS.out _ (List.getElem_mem hlt)) (sum_step l k hlt).symm hB hg hz hc hf).mono ?_
          clear hB hz hc hf hcell2
          rintro e w2 ⟨rfl, hB, hz, hc, hf⟩
          go_wp2_with fail
          refine (now_calls _ _ _ hc).mono ?_
          rintro e w3 ⟨rfl, rfl⟩
          go_wp2_with fail
          refine (ref_calls _ _ (by rw [ByteArray.size_append]; omega)).mono ?_
          rintro e w3 ⟨rfl, ⟨n3, rfl⟩⟩
          rw [HSUM.out]
          go_wp2_with fail
          exact ⟨⟨k + 1, by omega, by go_num, by rw [HCAT.out], pw_below_drewN hB _, hg, by simpa using hz, by simpa using hc, by simpa using hf⟩, by simp [intOf]; omega⟩
        · obtain rfl : k = l.length := by omega
          rw [List.take_length] at hc ⊢
          have hsc := sum_cat l l.length (Nat.le_refl _)
          rw [List.take_length] at hsc
          have hcs := cat_size l l.length (Nat.le_refl _) (by rw [List.take_length]; omega)
          rw [List.take_length] at hcs
          have hcm : (cat l).size ≤ maxLen := by rw [hcs]; unfold maxLen; omega
          have HCM := Aside0.mk hcm
          have HSC := Aside0.mk (congrArg n32 hsc)
          clear hsc hcs hcm
          have hall : crc_Of.f l = some (n32 (sumB 0#32 l)) := by
            unfold crc_Of.f
            rw [if_pos (by simp only [List.all_eq_true, decide_eq_true_eq]; exact HS.out)]
          have HALL := Aside0.mk hall
          clear hall
          go_wp2_with fail
          refine (crc_Of.calls _ _ l _ _ (Kd.C_below HR.out hB) HC.out HALL.out).mono ?_
          rintro e w2 ⟨rfl, hB2⟩
          have B2 := Aside0.mk (below_then hB hB.size hB2)
          have hc2 := pw_cell_below hB2 hc
          have hz2 := Nat.lt_of_lt_of_le hz hB2.size
          clear hB hB2 hc hz hf
          go_wp2_with fail
          refine (crc_Of.calls _ _ [cat l] _ _ (one_row w2 (cat l) 9) (Nat.le_refl _) (of_one HCM.out)).mono ?_
          rintro e w3 ⟨rfl, hB3⟩
          have B3 := Aside0.mk (below_then (below_alloc B2.out (.cells #[.string (cat l)] 9)) (below_alloc B2.out (.cells #[.string (cat l)] 9)).size hB3)
          have hc3 := pw_cell_below hB3 ((World.cell?_alloc_lt _ _ _ (show _ < w2.heap.size from hz2)).trans hc2)
          have hz3 : w1.heap.size < w3.heap.size := by have := hB3.size; simp at this; omega
          clear hB3 hc2 hz2
          rw [HSC.out]
          rw [HSC.out] at hc3
          go_wp2_with fail
          refine (now_calls _ _ _ hc3).mono ?_
          rintro e w4 ⟨rfl, rfl⟩
          go_wp2_with fail
          refine (crc_Of.calls _ _ [cat l] _ _ (one_row w3 (cat l) 9) (Nat.le_refl _) (of_one HCM.out)).mono ?_
          rintro e w4 ⟨rfl, hB4⟩
          have B4 := Aside0.mk (below_then (below_alloc B3.out (.cells #[.string (cat l)] 9)) (below_alloc B3.out (.cells #[.string (cat l)] 9)).size hB4)
          clear hB4
          go_wp2_with fail
          go_ret
          exact ⟨by simp, B4.out⟩
theorem parts_calls (A0 : Option Addr) (c0 : Nat) (l : List ByteArray) (w : World) (hr0 : Kd.C Kd.string w A0 l.length l) (hc0 : l.length ≤ c0) (_ : l.length ≤ maxLen) (hs : ∀ s ∈ l, s.size ≤ maxLen) (hm : l.length * 16 ≤ 140737488351232) :
    Calls Try.prog 4 #[.slice A0 l.length c0] w fun e w' => e = .returned (.bool true) ∧ Below w.heap.size w w' := parts_walk A0 c0 l w hr0 hc0 hm hs
end Go.Proofs.Ytfpbeadgpkkknaa.Parts
