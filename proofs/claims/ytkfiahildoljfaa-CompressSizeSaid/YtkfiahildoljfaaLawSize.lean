/- CompressSize: how long a compressed text is. -/
import Derived.Test.YtkfiahildoljfaaCnt
import Derived.Test.YtkfiahildoljfaaSteps
namespace Go.Proofs.Ytkfiahildoljfaa.Enc
open Go.RowKit Go.Proofs.Ytkfiahildoljfaa.Win Go.Proofs.Ytkfiahildoljfaa.Stp Go.Proofs.Ytkfiahildoljfaa.Lst
set_option linter.unusedVariables false
set_option linter.unusedSimpArgs false
def SizePost (w : World) (e : Ending) (w' : World) : Prop := e = .returned (.bool true) ∧ Below w.heap.size w w'
theorem text_len (pl : Bool) {l : List Int} (h : l.length ≤ 400) : (textC pl l).length ≤ 5000 := by
  unfold textC
  rw [List.length_append]
  have h1 := pushes_len l (e0 pl)
  have h2 := flush_len (pushes (e0 pl) l).1
  omega
set_option maxRecDepth 100000 in
set_option maxHeartbeats 8000000 in
theorem size_small {w : World} {A : Option Addr} {c : Nat} {l : List Int} (h : Lst w .u32 A l) (hcap : l.length ≤ c) (hnil : A = none → c = 0) (hl : l.length ≤ 400) (hr : ∀ x ∈ l, 0 ≤ x) :
    Calls Try.prog 4 #[.slice A l.length c] w (SizePost w) := by
  have hgr := great_calls (l.length : Int) none none 0 0 0 0
  have e1 : (decide (400 < (l.length : Int)) || (decide (200 < 0) || decide (200 < 0))) = false := by rw [Bool.eq_iff_iff]; simp; omega
  rw [e1] at hgr
  have HGR := Lib.hid hgr
  have H := Lib.hid h
  have HR := Lib.hid hr
  have HNil := Lib.hid hnil
  clear hgr e1 h hr hnil
  go_enter Try.func4, Try.ntmps4
  go_wp2_with fail
  refine (awake_calls _).mono ?_
  rintro e w1 ⟨rfl, hb1⟩
  have HB1 := Lib.hid hb1
  have HL1 := Lib.hid (H.out.below hb1)
  clear hb1
  go_wp2_with fail
  refine (HGR.out _).mono ?_
  rintro e w2 ⟨rfl, rfl⟩
  go_wp2_with fail
  refine (rfirst_calls HL1.out (by omega)).mono ?_
  rintro e w2 ⟨r, rfl, hrr, hdr⟩
  have HB2 := Lib.hid (HB1.out.trans (hdr.below w.heap.size))
  have HL2 := Lib.hid (HL1.out.drew hdr)
  clear hdr
  rcases hrr with ⟨rfl, hall⟩ | hr0
  · have HS := Lib.hid hall
    have HLB := Lib.hid (show ∀ x ∈ l, 0 ≤ x ∧ isB x = true from fun x hx => ⟨HR.out x hx, isB_isS (HR.out x hx) (hall x hx)⟩)
    clear hall
    go_wp2_with fail
    refine (newEncoder_calls false _).mono ?_
    rintro e w3 ⟨rfl, hd, hb, hz⟩
    obtain ⟨g1, hg1⟩ : ∃ g, g = w2.heap.size := ⟨_, rfl⟩
    rw [← hg1] at hd
    rw [← hg1]
    have hb3 := tb HB2.out hb
    have hgw : w.heap.size ≤ g1 := by rw [hg1]; exact HB2.out.size
    have hfs : ∀ i, EFS (g1 + 1) g1 i → w.heap.size ≤ i := by rintro i (h | h) <;> omega
    have hwr := write_calls (cap := c) hd (by omega) hcap HNil.out (fun wx hc => H.out.below (Chg.below hb3 hc hfs)) HLB.out
    obtain ⟨S, hS⟩ : ∃ S, S = strOfNums (textC false l) := ⟨_, rfl⟩
    have HSz1 := Lib.hid (show S.size = (textC false l).length by rw [hS, str_size])
    have HS1 := Lib.hid hS
    have hsl1 : S.size ≤ 5000 := by rw [HSz1.out]; exact text_len false (by omega)
    unfold WPost at hwr
    rw [← hS] at hwr
    have HWr1 := Lib.hid hwr
    have HBe1 := Lib.hid hb3
    have HFs1 := Lib.hid hfs
    clear hd hb hz hg1 hb3 hgw hfs hwr hS
    go_wp2_with fail
    refine HWr1.out.mono ?_
    rintro e w4 ⟨rfl, hc4⟩
    have HB4 := Lib.hid (Chg.below HBe1.out hc4 HFs1.out)
    clear hc4
    go_wp2_with fail
    refine (newEncoder_calls true _).mono ?_
    rintro e w5 ⟨rfl, hd, hb, hz⟩
    obtain ⟨g2, hg2⟩ : ∃ g, g = w4.heap.size := ⟨_, rfl⟩
    rw [← hg2] at hd
    rw [← hg2]
    have hb3 := tb HB4.out hb
    have hgw : w.heap.size ≤ g2 := by rw [hg2]; exact HB4.out.size
    have hfs : ∀ i, EFS (g2 + 1) g2 i → w.heap.size ≤ i := by rintro i (h | h) <;> omega
    have hwr := write_calls (cap := c) hd (by omega) hcap HNil.out (fun wx hc => H.out.below (Chg.below hb3 hc hfs)) HLB.out
    obtain ⟨S2, hS⟩ : ∃ S, S = strOfNums (textC true l) := ⟨_, rfl⟩
    have HSz2 := Lib.hid (show S2.size = (textC true l).length by rw [hS, str_size])
    have HS2 := Lib.hid hS
    have hsl2 : S2.size ≤ 5000 := by rw [HSz2.out]; exact text_len true (by omega)
    unfold WPost at hwr
    rw [← hS] at hwr
    have HWr2 := Lib.hid hwr
    have HBe2 := Lib.hid hb3
    have HFs2 := Lib.hid hfs
    clear hd hb hz hg2 hb3 hgw hfs hwr hS
    go_wp2_with fail
    refine HWr2.out.mono ?_
    rintro e w6 ⟨rfl, hc4⟩
    have HB6 := Lib.hid (Chg.below HBe2.out hc4 HFs2.out)
    clear hc4
    have hun := units_calls15 (c := c) (H.out.below HB6.out) HS.out (by omega)
    have HUn := Lib.hid hun
    clear hun
    go_wp2_with fail
    refine HUn.out.mono ?_
    rintro e w7 ⟨rfl, hd7⟩
    have HB7 := Lib.hid (HB6.out.trans (hd7.below _))
    clear hd7
    have htg := tagged_calls15 (c := c) (H.out.below HB7.out) (by omega)
    have HTg := Lib.hid htg
    clear htg
    have hrl : ∀ x ∈ l, 0 ≤ x ∧ x ≤ 1114111 := fun x hx => ⟨HR.out x hx, (isS_iff.1 (HS.out x hx)).2⟩
    have k1 := text_size hrl
    have k2 := text_size2 hrl
    have k3 := sumN_le (fun c => (unitN_rng c).2) l
    have k4 := sumN_le tagN_le l
    rw [← HSz1.out] at k1
    rw [← HSz2.out] at k2
    generalize sumN unitN l = U at HTg k1 k2 k3 ⊢
    generalize sumN tagN l = G at HTg k2 k4 ⊢
    clear hrl
    go_wp2_with fail
    refine HTg.out.mono ?_
    rintro e w8 ⟨rfl, hd8⟩
    have HB8 := Lib.hid (HB7.out.trans (hd8.below _))
    clear hd8
    go_wp2_with fail
    go_ret
    exact ⟨by simp; omega, HB8.out⟩
  · go_wp2_with fail
    refine (awake_calls _).mono ?_
    rintro e w3 ⟨rfl, hb3⟩
    have HB3 := Lib.hid hb3
    clear hb3
    go_wp2_with fail
    go_ret
    exact ⟨rfl, tb HB2.out HB3.out⟩
set_option maxRecDepth 100000 in
set_option maxHeartbeats 8000000 in
theorem size_big {w : World} {A : Option Addr} {c n : Nat} (hl : 400 < n) (hm : n ≤ maxLen) : Calls Try.prog 4 #[.slice A n c] w (SizePost w) := by
  have hgr := great_calls (n : Int) none none 0 0 0 0
  have e1 : (decide (400 < (n : Int)) || (decide (200 < 0) || decide (200 < 0))) = true := by rw [Bool.eq_iff_iff]; simp; omega
  rw [e1] at hgr
  unfold maxLen at hm
  have HGR := Lib.hid hgr
  clear hgr e1
  go_enter Try.func4, Try.ntmps4
  go_wp2_with fail
  refine (awake_calls _).mono ?_
  rintro e w1 ⟨rfl, hb1⟩
  have HB1 := Lib.hid hb1
  clear hb1
  go_wp2_with fail
  refine (HGR.out _).mono ?_
  rintro e w2 ⟨rfl, rfl⟩
  go_wp2_with fail
  refine (awake_calls _).mono ?_
  rintro e w3 ⟨rfl, hb3⟩
  have HB3 := Lib.hid hb3
  clear hb3
  go_wp2_with fail
  go_ret
  exact ⟨rfl, tb HB1.out HB3.out⟩
theorem u32_pos {l : List Int} (hg : ∀ x ∈ l, (Lit.int .u32 x).wf = true) : ∀ x ∈ l, 0 ≤ x := by
  intro x hx
  have := hg x hx
  simp [Lit.wf, IntKind.min, IntKind.max, IntKind.signed, IntKind.bits] at this
  omega
open Go.Proofs.YtkfiahildoljfaaW.PrintWords in
theorem compressSize_row (A : Option Addr) (c : Nat) (l : List Int) (w : World) (hr : (Kd.int .u32).C w A l.length l) (hc : l.length ≤ c) (hm : l.length ≤ maxLen) (hg : ∀ x ∈ l, (Lit.int .u32 x).wf = true) (hn : A = none → c = 0) :
    Calls Try.prog 4 #[.slice A l.length c] w fun e w' => e = .returned (.bool true) ∧ Below w.heap.size w w' := by
  by_cases h : l.length ≤ 400
  · exact size_small (Dec.lst_arg hr) hc hn h (u32_pos hg)
  · exact size_big (by omega) hm
end Go.Proofs.Ytkfiahildoljfaa.Enc
