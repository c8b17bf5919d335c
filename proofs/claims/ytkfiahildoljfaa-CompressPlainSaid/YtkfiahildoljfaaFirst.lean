/- The first that is no scalar: the reference's function. -/
import Derived.Test.YtkfiahildoljfaaAwkE
namespace Go.Proofs.Ytkfiahildoljfaa.Enc
open Go.RowKit Go.Proofs.Ytkfiahildoljfaa.Win Go.Proofs.Ytkfiahildoljfaa.Stp Go.Proofs.Ytkfiahildoljfaa.Lst
set_option linter.unusedVariables false
set_option linter.unusedSimpArgs false
theorem take_succ' {l : List Int} {k : Nat} (h : k < l.length) : l.take (k + 1) = l.take k ++ [l.getD k 0] := by
  rw [List.take_succ_eq_append_getElem h, List.getD_eq_getElem?_getD, List.getElem?_eq_getElem h]; rfl
def isS (c : Int) : Bool := !(decide (55296 ≤ c) && decide (c ≤ 57343)) && decide (c ≤ 1114111)
theorem isS_iff {c : Int} : isS c = true ↔ ¬ (55296 ≤ c ∧ c ≤ 57343) ∧ c ≤ 1114111 := by
  unfold isS
  simp
  omega
theorem ris_calls (c : Int) (w : World) : Calls Try.prog 20 #[.int .u32 c] w fun e w' => e = .returned (.bool (isS c)) ∧ w = w' := by
  by_cases h1 : 55296 ≤ c
  · by_cases h2 : c ≤ 57343
    · have e : isS c = false := by rw [← Bool.not_eq_true, isS_iff]; omega
      rw [e]
      clear e
      go_enter Try.func20, Try.ntmps20
      go_wp2
      go_ret
      exact ⟨rfl, rfl⟩
    · have e : isS c = decide (c ≤ 1114111) := by rw [Bool.eq_iff_iff, isS_iff]; simp; omega
      rw [e]
      clear e
      go_enter Try.func20, Try.ntmps20
      go_wp2
      go_ret
      exact ⟨rfl, rfl⟩
  · have e : isS c = true := by rw [isS_iff]; omega
    have h3 : c ≤ 1114111 := by omega
    rw [e]
    clear e
    go_enter Try.func20, Try.ntmps20
    go_wp2
    go_ret
    exact ⟨rfl, rfl⟩
def FirstPost (w : World) (l : List Int) (e : Ending) (w' : World) : Prop := ∃ r : Int, e = .returned (.int .i64 r) ∧ ((r = -1 ∧ ∀ x ∈ l, isS x = true) ∨ 0 ≤ r) ∧ Drew w w'
def FirstRel (w : World) (l : List Int) (i : Value) (wr : World) : Prop := ∃ k : Nat, k ≤ l.length ∧ i = .int .i64 k ∧ Drew w wr ∧ ∀ x ∈ l.take k, isS x = true
theorem rfirst_calls {w : World} {A : Option Addr} {c : Nat} {l : List Int} (h : Lst w .u32 A l) (hl : l.length ≤ 1000000) : Calls Try.prog 10 #[.slice A l.length c] w (FirstPost w l) := by
  have H := Lib.hid h
  clear h
  go_enter Try.func10, Try.ntmps10
  go_wp2_with fail
  go_loopw [3] (fun i wr => FirstRel w l i wr) (fun i _ => l.length - (intOf i).toNat)
  case atStart => exact ⟨0, Nat.zero_le _, rfl, Drew.refl _, fun x hx => by cases hx⟩
  case round =>
    obtain ⟨k, hk, rfl, hd, ha⟩ := hrel
    have HD := Lib.hid hd
    have HAl := Lib.hid ha
    clear hd ha
    by_cases hlt : k < l.length
    · obtain ⟨a, rfl, q⟩ := (Lst.drew H.out HD.out) k hlt
      have htk := take_succ' hlt
      generalize l.getD k 0 = x at q htk
      have HTK := Lib.hid htk
      have hisx := ris_calls x
      clear htk
      cases hx : isS x with
      | true =>
        have HX := Lib.hid hx
        rw [hx] at hisx
        have HIS := Lib.hid hisx
        clear hx hisx
        go_wp2_with (go_at_call 20; refine (HIS.out _).mono ?_; rintro e w1 ⟨rfl, rfl⟩)
        go_roundw
        case rel =>
          refine ⟨k + 1, hlt, by go_num, HD.out, fun y hy => ?_⟩
          rw [HTK.out] at hy
          rcases List.mem_append.1 hy with hy | hy
          · exact HAl.out y hy
          · rw [List.mem_singleton.1 hy]; exact HX.out
        case measure => simp [intOf]; omega
      | false =>
        rw [hx] at hisx
        have HIS := Lib.hid hisx
        clear hx hisx
        go_wp2_with (go_at_call 20; refine (HIS.out _).mono ?_; rintro e w1 ⟨rfl, rfl⟩)
        go_ret
        exact ⟨k, rfl, .inr (by omega), HD.out⟩
    · obtain rfl : k = l.length := by omega
      go_wp2_with fail
      go_ret
      exact ⟨-1, rfl, .inl ⟨rfl, by have := HAl.out; rw [List.take_length] at this; exact this⟩, HD.out⟩
theorem isB_isS {c : Int} (h0 : 0 ≤ c) (h : isS c = true) : isB c = true := by
  rw [isS_iff] at h
  unfold isB
  simp
  omega
/-- Whether a scalar was worked off counts for the mark alone. -/
theorem work_beh {m : E} {c d : Int} (h : c ≠ 65279) : workC { m with beh := true } c d = workC { m with beh := false } c d := by
  have hc : (c == 65279) = false := by rw [beq_eq_false_iff_ne]; exact h
  unfold workC
  rw [hc]
  simp only [Bool.and_false]
  rfl
def totalM (m : E) (cs : List Int) : List Int := (pushes m cs).2 ++ (flushC (pushes m cs).1).2
theorem totalM_cons (m : E) (c : Int) (cs : List Int) : totalM m (c :: cs) = (pushC m c).2 ++ totalM (pushC m c).1 cs := by
  unfold totalM
  simp only [pushes, List.append_assoc]
theorem total_beh {m : E} (hb : m.beh = false) (hw : m.wt ≠ 65279) (hn : m.wt ≠ 2147483648) : ∀ cs : List Int, totalM { m with beh := true } cs = totalM m cs
  | [] => by
    have e : m = { m with beh := false } := by cases m; simp only at hb; rw [hb]
    have h1 : flushC { m with beh := true } = ({ (workC { m with beh := true } m.wt 2147483648).1 with wt := 2147483648 }, (workC { m with beh := true } m.wt 2147483648).2) := by unfold flushC; rw [if_neg hn]
    have h2 : flushC m = ({ (workC m m.wt 2147483648).1 with wt := 2147483648 }, (workC m m.wt 2147483648).2) := by unfold flushC; rw [if_neg hn]
    show [] ++ (flushC { m with beh := true }).2 = [] ++ (flushC m).2
    rw [h1, h2, work_beh hw, ← e]
  | c :: cs => by
    have e : m = { m with beh := false } := by cases m; simp only at hb; rw [hb]
    have h1 : pushC { m with beh := true } c = pushC m c := by
      unfold pushC
      rw [if_neg hn, if_neg hn]
      show ({ (workC { m with beh := true } m.wt c).1 with wt := c }, (workC { m with beh := true } m.wt c).2) = _
      rw [work_beh hw, ← e]
    rw [totalM_cons, totalM_cons, h1]
theorem mark_text (pl : Bool) : ∀ l : List Int, (∀ x ∈ l, x ≤ 1114111) → (∀ c cs, l = c :: cs → c ≠ 65279) → textC pl (65279 :: l) = [14, 254, 255] ++ textC pl l
  | [], _, _ => by cases pl <;> decide +kernel
  | c :: cs, hr, h => by
    have hc := h c cs rfl
    have hn : c ≠ 2147483648 := by have := hr c List.mem_cons_self; omega
    have p1 : pushC (e0 pl) 65279 = ({ e0 pl with wt := 65279 }, []) := by unfold pushC; rw [if_pos (show (e0 pl).wt = 2147483648 from rfl)]
    have p2 : pushC { e0 pl with wt := 65279 } c = ({ e0 pl with beh := true, wt := c }, [14, 254, 255]) := by
      unfold pushC
      rw [if_neg (show ¬ (65279 : Int) = 2147483648 by decide)]
      have : workC { e0 pl with wt := 65279 } 65279 c = ({ e0 pl with wt := 65279, beh := true }, [14, 254, 255]) := by
        unfold workC
        exact if_pos rfl
      show ({ (workC { e0 pl with wt := 65279 } 65279 c).1 with wt := c }, (workC { e0 pl with wt := 65279 } 65279 c).2) = _
      rw [this]
    have p3 : pushC (e0 pl) c = ({ e0 pl with wt := c }, []) := by unfold pushC; rw [if_pos (show (e0 pl).wt = 2147483648 from rfl)]
    show totalM (e0 pl) (65279 :: c :: cs) = [14, 254, 255] ++ totalM (e0 pl) (c :: cs)
    rw [totalM_cons, p1, totalM_cons, p2, totalM_cons, p3]
    have := total_beh (m := { e0 pl with wt := c }) rfl hc hn cs
    simp only [List.nil_append]
    rw [← this]
end Go.Proofs.Ytkfiahildoljfaa.Enc
