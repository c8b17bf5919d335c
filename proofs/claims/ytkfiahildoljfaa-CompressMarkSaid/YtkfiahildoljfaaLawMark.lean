/- CompressMark: behind the mark the text is what it is without it. -/
import Derived.Test.YtkfiahildoljfaaFirst
import Derived.Test.YtkfiahildoljfaaSteps
namespace Go.Proofs.Ytkfiahildoljfaa.Enc
open Go.RowKit Go.Proofs.Ytkfiahildoljfaa.Win Go.Proofs.Ytkfiahildoljfaa.Stp Go.Proofs.Ytkfiahildoljfaa.Lst
set_option linter.unusedVariables false
set_option linter.unusedSimpArgs false
def MarkPost (w : World) (e : Ending) (w' : World) : Prop := e = .returned (.bool true) ∧ Below w.heap.size w w'
set_option maxRecDepth 100000 in
set_option maxHeartbeats 8000000 in
theorem mark_main {w : World} {A : Option Addr} {c : Nat} {l : List Int} {pl : Bool} (h : Lst w .u32 A l) (hcap : l.length ≤ c) (hnil : A = none → c = 0) (hl : l.length ≤ 400) (hr : ∀ x ∈ l, 0 ≤ x ∧ isS x = true) (hm : ∀ y ys, l = y :: ys → y ≠ 65279) :
    Calls Try.prog 6 #[.bool pl, .slice A l.length c] w (MarkPost w) := by
  obtain ⟨i0, hi, hz0, hz1, hz2⟩ := info_parts info_u32
  have HN : Hid (i0.zero = some (.int .u32 0) ∧ i0.size = 1 ∧ i0.bytes = 4 ∧ Try.prog.info? 35 = some i0) := ⟨hz0, hz1, hz2, hi⟩
  have hgr := great_calls (l.length : Int) none none 0 0 0 0
  have e1 : (decide (400 < (l.length : Int)) || (decide (200 < 0) || decide (200 < 0))) = false := by rw [Bool.eq_iff_iff]; simp; omega
  rw [e1] at hgr
  have HGR := Lib.hid hgr
  have H := Lib.hid h
  have HR := Lib.hid hr
  have HM := Lib.hid hm
  have HNil := Lib.hid hnil
  have htx := mark_text pl l (fun x hx => (isS_iff.1 (hr x hx).2).2) hm
  have HTx := Lib.hid htx
  have HLB := Lib.hid (show ∀ x ∈ l, 0 ≤ x ∧ isB x = true from fun x hx => ⟨(hr x hx).1, isB_isS (hr x hx).1 (hr x hx).2⟩)
  clear hgr e1 h hr hm hnil hz0 hz1 hz2 hi htx
  go_enter Try.func6, Try.ntmps6
  go_wp2_with fail
  refine (awake_calls _).mono ?_
  rintro e w1 ⟨rfl, hb1⟩
  have HB1 := Lib.hid hb1
  have HL1 := Lib.hid (H.out.below hb1)
  clear hb1
  go_wp2_with fail
  refine (HGR.out _).mono ?_
  rintro e w2 ⟨rfl, rfl⟩
  go_wp2_with fail
  refine (rfirst_calls HL1.out (by omega)).mono ?_
  rintro e w2 ⟨r, rfl, hrr, hdr⟩
  have hrr1 : r = -1 ∨ 0 ≤ r := by
    rcases hrr with h | h
    · exact .inl h.1
    · exact .inr h
  have HB2 := Lib.hid (HB1.out.trans (hdr.below w.heap.size))
  have HL2 := Lib.hid (HL1.out.drew hdr)
  clear hdr hrr
  rcases hrr1 with rfl | hr0
  · by_cases hl0 : l.length = 0
    · have hz0 : ¬ (0 : Int) < l.length := by omega
      have HZ := Lib.hid hl0; clear hl0
      go_wp2_with fail
      refine (newEncoder_calls pl _).mono ?_
      rintro e w3 ⟨rfl, hd, hb, hz⟩
      obtain ⟨g1, hg1⟩ : ∃ g, g = w2.heap.size := ⟨_, rfl⟩
      rw [← hg1] at hd
      rw [← hg1]
      have hb3 := tb HB2.out hb
      have hgw : w.heap.size ≤ g1 := by rw [hg1]; exact HB2.out.size
      have hfs : ∀ i, EFS (g1 + 1) g1 i → w.heap.size ≤ i := by rintro i (h | h) <;> omega
      have hwr := write_calls (cap := c) hd (by omega) hcap HNil.out (fun wx hc => H.out.below (Chg.below hb3 hc hfs)) HLB.out
      have HWr := Lib.hid hwr
      have HB3 := Lib.hid hb3
      have HFs := Lib.hid hfs
      clear hd hb hz hg1 hb3 hgw hfs hwr
      go_wp2_with fail
      refine HWr.out.mono ?_
      rintro e w4 ⟨rfl, hc4⟩
      have HB4 := Lib.hid (Chg.below HB3.out hc4 HFs.out)
      clear hc4
      obtain ⟨T, hT⟩ : ∃ T, T = textC pl l := ⟨_, rfl⟩
      rw [← hT]
      have hTs : (strOfNums T).size ≤ 5000 := by
        rw [str_size, hT]
        unfold textC
        rw [List.length_append]
        have h1 := pushes_len l (e0 pl)
        have h2 := flush_len (pushes (e0 pl) l).1
        omega
      have htx := HTx.out
      rw [← hT] at htx
      have happ : ({ data := #[14, 254, 255] } : ByteArray) ++ strOfNums T = strOfNums (textC pl (65279 :: l)) := by
        rw [htx, ← str_append]
        rfl
      clear hT htx
      go_wp2_with fail
      refine (newEncoder_calls pl _).mono ?_
      rintro e w5 ⟨rfl, hd, hb, hz⟩
      obtain ⟨g2, hg2⟩ : ∃ g, g = w4.heap.size := ⟨_, rfl⟩
      rw [← hg2] at hd
      rw [← hg2]
      have hb5 := tb HB4.out hb
      have hgw : w.heap.size ≤ g2 := by rw [hg2]; exact HB4.out.size
      have HFs2 := Lib.hid (show ∀ i, EFS (g2 + 1) g2 i → w.heap.size ≤ i by rintro i (h | h) <;> omega)
      have hlit := World.ownsRow_lit (base := w5.heap.size) (e := 35) (size := 1) w5 #[.int .u32 65279] 1 (Nat.le_refl _) (by decide) rfl
      have hl5 := H.out.below (hb5.alloc hb5.size (.cells #[.int .u32 65279] 35))
      have HD5 := Lib.hid hd
      have HB5 := Lib.hid hb5
      have HLit := Lib.hid hlit
      have HL5 := Lib.hid hl5
      clear hd hb hz hg2 hb5 hgw hlit hl5
      go_wp2_with (at_builtin; refine wpList_append_lst rfl (.tmp 43) (.tmp 44) 22 rfl w5.heap.size 35 i0 (.int .u32 0) 4 Try.underlying22 HN.out.2.2.2 HN.out.1 HN.out.2.1 HN.out.2.2.1 rfl (.slice (some ⟨w5.heap.size, 0, none⟩) 1 1) 1 [.int .u32 65279] rfl HLit.out A c l rfl HNil.out HL5.out ?c1 ?c2 ?c3 ?_; (case c1 => unfold maxLen; omega); (case c2 => omega); (case c3 => simp); intro v1 w6 hown6 hgrow6; have HO6 := Lib.hid hown6; have HG6 := Lib.hid hgrow6; clear hown6 hgrow6)
      have hb6 : Below w5.heap.size w5 w6 := Below.grown ((Below.refl _ w5).alloc (Nat.le_refl _) _) HG6.out (by simp) (fun q hq => Nat.le_of_eq (by simpa [Value.ownBlock] using hq))
      have ho6 : w6.ownsRow w5.heap.size 35 1 v1 (65279 :: l).length (u32s (65279 :: l)) := by
        have h1 := HO6.out
        rw [Nat.add_comm] at h1
        exact h1
      obtain ⟨A3, c3, rfl⟩ := owns_form ho6
      have hlt1 := HD5.out.lt
      have hlt2 := HD5.out.win.lt
      have hcap3 : (65279 :: l).length ≤ c3 := by
        rcases ho6.2 with ⟨h1, h2⟩ | ⟨g', cap, cur, h1, _, _, h4, _⟩
        · omega
        · injection h1 with _ _ h1; omega
      have hnil3 : A3 = none → c3 = 0 := fun h => by
        rcases ho6.2 with ⟨h1, h2⟩ | ⟨g', cap, cur, h1, _, _, h4, _⟩
        · injection h1 with _ _ h1
        · rw [h] at h1; cases h1
      have hwr2 := write_calls (pl := pl) (l := 65279 :: l) (A := A3) (cap := c3) (HD5.out.below hb6) (by rw [List.length_cons]; omega) hcap3 hnil3 (fun wx hc => Lst.of_owns (n := (65279 :: l).length) (own_chg ho6 hc (fun q hq hh => by
        have h1 := (ho6.lt q hq).1
        rcases hh with h | h <;> omega))) (fun x hx => by
          rcases List.mem_cons.1 hx with rfl | hx
          · exact ⟨by decide, by decide⟩
          · exact HLB.out x hx)
      have HWr2 := Lib.hid hwr2
      have HB6 := Lib.hid (tb HB5.out hb6)
      clear hb6 ho6 hlt1 hlt2 hcap3 hnil3 hwr2
      refine HWr2.out.mono ?_
      rintro e w7 ⟨rfl, hc7⟩
      have HB7 := Lib.hid (Chg.below HB6.out hc7 HFs2.out)
      clear hc7
      go_wp2_with fail
      go_ret
      exact ⟨by simp, HB7.out⟩
    · obtain ⟨a, rfl, q⟩ := HL2.out 0 (by omega)
      have ha0 : a.add 0 = a := by unfold Addr.add; simp
      rw [ha0] at q
      have hz0 : (0 : Int) < l.length := by omega
      have hy : l.getD 0 0 ≠ 65279 := by
        cases l with
        | nil => simp at hl0
        | cons y ys => exact HM.out y ys rfl
      obtain ⟨y, hyy⟩ : ∃ y, y = l.getD 0 0 := ⟨_, rfl⟩
      rw [← hyy] at q hy
      have hyb : (y == 65279) = false := by rw [beq_eq_false_iff_ne]; exact hy
      clear hyy hy
      go_wp2_with fail
      refine (newEncoder_calls pl _).mono ?_
      rintro e w3 ⟨rfl, hd, hb, hz⟩
      obtain ⟨g1, hg1⟩ : ∃ g, g = w2.heap.size := ⟨_, rfl⟩
      rw [← hg1] at hd
      rw [← hg1]
      have hb3 := tb HB2.out hb
      have hgw : w.heap.size ≤ g1 := by rw [hg1]; exact HB2.out.size
      have hfs : ∀ i, EFS (g1 + 1) g1 i → w.heap.size ≤ i := by rintro i (h | h) <;> omega
      have hwr := write_calls (cap := c) hd (by omega) hcap HNil.out (fun wx hc => H.out.below (Chg.below hb3 hc hfs)) HLB.out
      have HWr := Lib.hid hwr
      have HB3 := Lib.hid hb3
      have HFs := Lib.hid hfs
      clear hd hb hz hg1 hb3 hgw hfs hwr
      go_wp2_with fail
      refine HWr.out.mono ?_
      rintro e w4 ⟨rfl, hc4⟩
      have HB4 := Lib.hid (Chg.below HB3.out hc4 HFs.out)
      clear hc4
      obtain ⟨T, hT⟩ : ∃ T, T = textC pl l := ⟨_, rfl⟩
      rw [← hT]
      have hTs : (strOfNums T).size ≤ 5000 := by
        rw [str_size, hT]
        unfold textC
        rw [List.length_append]
        have h1 := pushes_len l (e0 pl)
        have h2 := flush_len (pushes (e0 pl) l).1
        omega
      have htx := HTx.out
      rw [← hT] at htx
      have happ : ({ data := #[14, 254, 255] } : ByteArray) ++ strOfNums T = strOfNums (textC pl (65279 :: l)) := by
        rw [htx, ← str_append]
        rfl
      clear hT htx
      go_wp2_with fail
      refine (newEncoder_calls pl _).mono ?_
      rintro e w5 ⟨rfl, hd, hb, hz⟩
      obtain ⟨g2, hg2⟩ : ∃ g, g = w4.heap.size := ⟨_, rfl⟩
      rw [← hg2] at hd
      rw [← hg2]
      have hb5 := tb HB4.out hb
      have hgw : w.heap.size ≤ g2 := by rw [hg2]; exact HB4.out.size
      have HFs2 := Lib.hid (show ∀ i, EFS (g2 + 1) g2 i → w.heap.size ≤ i by rintro i (h | h) <;> omega)
      have hlit := World.ownsRow_lit (base := w5.heap.size) (e := 35) (size := 1) w5 #[.int .u32 65279] 1 (Nat.le_refl _) (by decide) rfl
      have hl5 := H.out.below (hb5.alloc hb5.size (.cells #[.int .u32 65279] 35))
      have HD5 := Lib.hid hd
      have HB5 := Lib.hid hb5
      have HLit := Lib.hid hlit
      have HL5 := Lib.hid hl5
      clear hd hb hz hg2 hb5 hgw hlit hl5
      go_wp2_with (at_builtin; refine wpList_append_lst rfl (.tmp 43) (.tmp 44) 22 rfl w5.heap.size 35 i0 (.int .u32 0) 4 Try.underlying22 HN.out.2.2.2 HN.out.1 HN.out.2.1 HN.out.2.2.1 rfl (.slice (some ⟨w5.heap.size, 0, none⟩) 1 1) 1 [.int .u32 65279] rfl HLit.out (some a) c l rfl HNil.out HL5.out ?c1 ?c2 ?c3 ?_; (case c1 => unfold maxLen; omega); (case c2 => omega); (case c3 => simp); intro v1 w6 hown6 hgrow6; have HO6 := Lib.hid hown6; have HG6 := Lib.hid hgrow6; clear hown6 hgrow6)
      have hb6 : Below w5.heap.size w5 w6 := Below.grown ((Below.refl _ w5).alloc (Nat.le_refl _) _) HG6.out (by simp) (fun q hq => Nat.le_of_eq (by simpa [Value.ownBlock] using hq))
      have ho6 : w6.ownsRow w5.heap.size 35 1 v1 (65279 :: l).length (u32s (65279 :: l)) := by
        have h1 := HO6.out
        rw [Nat.add_comm] at h1
        exact h1
      obtain ⟨A3, c3, rfl⟩ := owns_form ho6
      have hlt1 := HD5.out.lt
      have hlt2 := HD5.out.win.lt
      have hcap3 : (65279 :: l).length ≤ c3 := by
        rcases ho6.2 with ⟨h1, h2⟩ | ⟨g', cap, cur, h1, _, _, h4, _⟩
        · omega
        · injection h1 with _ _ h1; omega
      have hnil3 : A3 = none → c3 = 0 := fun h => by
        rcases ho6.2 with ⟨h1, h2⟩ | ⟨g', cap, cur, h1, _, _, h4, _⟩
        · injection h1 with _ _ h1
        · rw [h] at h1; cases h1
      have hwr2 := write_calls (pl := pl) (l := 65279 :: l) (A := A3) (cap := c3) (HD5.out.below hb6) (by rw [List.length_cons]; omega) hcap3 hnil3 (fun wx hc => Lst.of_owns (n := (65279 :: l).length) (own_chg ho6 hc (fun q hq hh => by
        have h1 := (ho6.lt q hq).1
        rcases hh with h | h <;> omega))) (fun x hx => by
          rcases List.mem_cons.1 hx with rfl | hx
          · exact ⟨by decide, by decide⟩
          · exact HLB.out x hx)
      have HWr2 := Lib.hid hwr2
      have HB6 := Lib.hid (tb HB5.out hb6)
      clear hb6 ho6 hlt1 hlt2 hcap3 hnil3 hwr2
      refine HWr2.out.mono ?_
      rintro e w7 ⟨rfl, hc7⟩
      have HB7 := Lib.hid (Chg.below HB6.out hc7 HFs2.out)
      clear hc7
      go_wp2_with fail
      go_ret
      exact ⟨by simp, HB7.out⟩
  · go_wp2_with fail
    refine (awake_calls _).mono ?_
    rintro e w3 ⟨rfl, hb3⟩
    have HB3 := Lib.hid hb3
    clear hb3
    go_wp2_with fail
    go_ret
    exact ⟨rfl, tb HB2.out HB3.out⟩
set_option maxRecDepth 100000 in
set_option maxHeartbeats 8000000 in
theorem mark_big {w : World} {A : Option Addr} {c : Nat} {l : List Int} {pl : Bool} (hl : 400 < l.length) (hm : l.length ≤ maxLen) : Calls Try.prog 6 #[.bool pl, .slice A l.length c] w (MarkPost w) := by
  have hgr := great_calls (l.length : Int) none none 0 0 0 0
  have e1 : (decide (400 < (l.length : Int)) || (decide (200 < 0) || decide (200 < 0))) = true := by rw [Bool.eq_iff_iff]; simp; omega
  rw [e1] at hgr
  unfold maxLen at hm
  have HGR := Lib.hid hgr
  clear hgr e1
  go_enter Try.func6, Try.ntmps6
  go_wp2_with fail
  refine (awake_calls _).mono ?_
  rintro e w1 ⟨rfl, hb1⟩
  have HB1 := Lib.hid hb1
  clear hb1
  go_wp2_with fail
  refine (HGR.out _).mono ?_
  rintro e w2 ⟨rfl, rfl⟩
  go_wp2_with fail
  refine (awake_calls _).mono ?_
  rintro e w3 ⟨rfl, hb3⟩
  have HB3 := Lib.hid hb3
  clear hb3
  go_wp2_with fail
  go_ret
  exact ⟨rfl, tb HB1.out HB3.out⟩
set_option maxRecDepth 100000 in
set_option maxHeartbeats 8000000 in
theorem mark_not {w : World} {A : Option Addr} {c : Nat} {l : List Int} {pl : Bool} (h : Lst w .u32 A l) (hl : l.length ≤ 400) (hr : ∀ x ∈ l, 0 ≤ x) (hm : (∀ x ∈ l, isS x = true) → ∃ ys, l = 65279 :: ys) :
    Calls Try.prog 6 #[.bool pl, .slice A l.length c] w (MarkPost w) := by
  have hgr := great_calls (l.length : Int) none none 0 0 0 0
  have e1 : (decide (400 < (l.length : Int)) || (decide (200 < 0) || decide (200 < 0))) = false := by rw [Bool.eq_iff_iff]; simp; omega
  rw [e1] at hgr
  have HGR := Lib.hid hgr
  have H := Lib.hid h
  have HR := Lib.hid hr
  have HM := Lib.hid hm
  clear hgr e1 h hr hm
  go_enter Try.func6, Try.ntmps6
  go_wp2_with fail
  refine (awake_calls _).mono ?_
  rintro e w1 ⟨rfl, hb1⟩
  have HB1 := Lib.hid hb1
  have HL1 := Lib.hid (H.out.below hb1)
  clear hb1
  go_wp2_with fail
  refine (HGR.out _).mono ?_
  rintro e w2 ⟨rfl, rfl⟩
  go_wp2_with fail
  refine (rfirst_calls HL1.out (by omega)).mono ?_
  rintro e w2 ⟨r, rfl, hrr, hdr⟩
  have HB2 := Lib.hid (HB1.out.trans (hdr.below w.heap.size))
  have HL2 := Lib.hid (HL1.out.drew hdr)
  clear hdr
  rcases hrr with ⟨rfl, hall⟩ | hr0
  · obtain ⟨ys, hys⟩ := HM.out hall
    have hlen : l.length = ys.length + 1 := by rw [hys]; rfl
    obtain ⟨a, rfl, q⟩ := HL2.out 0 (by omega)
    have ha0 : a.add 0 = a := by unfold Addr.add; simp
    rw [ha0] at q
    have hz0 : (0 : Int) < l.length := by omega
    have hy : l.getD 0 0 = 65279 := by rw [hys]; rfl
    rw [hy] at q
    clear hall hys hlen hy
    go_wp2_with fail
    refine (awake_calls _).mono ?_
    rintro e w3 ⟨rfl, hb3⟩
    have HB3 := Lib.hid hb3
    clear hb3
    go_wp2_with fail
    go_ret
    exact ⟨rfl, tb HB2.out HB3.out⟩
  · go_wp2_with fail
    refine (awake_calls _).mono ?_
    rintro e w3 ⟨rfl, hb3⟩
    have HB3 := Lib.hid hb3
    clear hb3
    go_wp2_with fail
    go_ret
    exact ⟨rfl, tb HB2.out HB3.out⟩
theorem u32_of {l : List Int} (hg : ∀ x ∈ l, (Lit.int .u32 x).wf = true) : ∀ x ∈ l, 0 ≤ x := by
  intro x hx
  have := hg x hx
  simp [Lit.wf, IntKind.min, IntKind.max, IntKind.signed, IntKind.bits] at this
  omega
open Go.Proofs.YtkfiahildoljfaaW.PrintWords in
theorem compressMark_row (pl : Bool) (A : Option Addr) (c : Nat) (l : List Int) (w : World) (hr : (Kd.int .u32).C w A l.length l) (hc : l.length ≤ c) (hm : l.length ≤ maxLen) (hg : ∀ x ∈ l, (Lit.int .u32 x).wf = true) (hn : A = none → c = 0) :
    Calls Try.prog 6 #[.bool pl, .slice A l.length c] w fun e w' => e = .returned (.bool true) ∧ Below w.heap.size w w' := by
  by_cases h : l.length ≤ 400
  · by_cases h1 : (∀ x ∈ l, isS x = true) ∧ ∀ y ys, l = y :: ys → y ≠ 65279
    · exact mark_main (Dec.lst_arg hr) hc hn h (fun x hx => ⟨u32_of hg x hx, h1.1 x hx⟩) h1.2
    · refine mark_not (Dec.lst_arg hr) h (u32_of hg) (fun h2 => ?_)
      match l, h1 with
      | [], h1 => exact absurd ⟨h2, fun y ys h => by cases h⟩ h1
      | y :: ys, h1 =>
        refine ⟨ys, ?_⟩
        by_cases hy : y = 65279
        · rw [hy]
        · refine absurd ⟨h2, fun z zs h => ?_⟩ h1
          injection h with h _
          rw [← h]
          exact hy
  · exact mark_big (by omega) hm
end Go.Proofs.Ytkfiahildoljfaa.Enc
