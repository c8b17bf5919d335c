/- CompressBack: what is written is read as it was. -/
import Derived.Test.YtkfiahildoljfaaBack
import Derived.Test.YtkfiahildoljfaaBytes
import Derived.Test.YtkfiahildoljfaaReadR
namespace Go.Proofs.Ytkfiahildoljfaa.Enc
open Go.RowKit Go.Proofs.Ytkfiahildoljfaa.Win Go.Proofs.Ytkfiahildoljfaa.Stp Go.Proofs.Ytkfiahildoljfaa.Lst
set_option linter.unusedVariables false
set_option linter.unusedSimpArgs false
def BackPost (w : World) (e : Ending) (w' : World) : Prop := e = .returned (.bool true) ∧ Below w.heap.size w w'
/-- What the reference reads of a text that ends well. -/
theorem read_told {T l o : List Int} {b : B4} (hT : Rg T) (h : ∃ m', Dec.steps Dec.m0 T = some (m', l) ∧ m'.beg = 0 ∧ m'.upper = 0) (hr : Dec.Ran (Dec.byt (strOfNums T)) o b) : o = l ∧ b = { at_ := T.length, err := 0, pl := 0, fin := true } := by
  rw [Dec.byt_str hT] at hr
  obtain ⟨m', h1, h2, h3⟩ := h
  exact Sim.ran_one hr (.inl ⟨m', h1, h2, h3, rfl⟩)
set_option maxRecDepth 100000 in
set_option maxHeartbeats 8000000 in
theorem back_small {w : World} {A : Option Addr} {c : Nat} {l : List Int} {pl : Bool} (h : Lst w .u32 A l) (hcap : l.length ≤ c) (hnil : A = none → c = 0) (hl : l.length ≤ 400) (hr : ∀ x ∈ l, 0 ≤ x) :
    Calls Try.prog 3 #[.bool pl, .slice A l.length c] w (BackPost w) := by
  have hgr := great_calls (l.length : Int) none none 0 0 0 0
  have e1 : (decide (400 < (l.length : Int)) || (decide (200 < 0) || decide (200 < 0))) = false := by rw [Bool.eq_iff_iff]; simp; omega
  rw [e1] at hgr
  have HGR := Lib.hid hgr
  have H := Lib.hid h
  have HR := Lib.hid hr
  have HNil := Lib.hid hnil
  clear hgr e1 h hr hnil
  go_enter Try.func3, Try.ntmps3
  go_wp2_with fail
  refine (awake_calls _).mono ?_
  rintro e w1 ⟨rfl, hb1⟩
  have HB1 := Lib.hid hb1
  have HL1 := Lib.hid (H.out.below hb1)
  clear hb1
  go_wp2_with fail
  refine (HGR.out _).mono ?_
  rintro e w2 ⟨rfl, rfl⟩
  go_wp2_with fail
  refine (rfirst_calls HL1.out (by omega)).mono ?_
  rintro e w2 ⟨r, rfl, hrr, hdr⟩
  have HB2 := Lib.hid (HB1.out.trans (hdr.below w.heap.size))
  have HL2 := Lib.hid (HL1.out.drew hdr)
  clear hdr
  rcases hrr with ⟨rfl, hall⟩ | hr0
  · have HS := Lib.hid (show ∀ x ∈ l, 0 ≤ x ∧ isS x = true from fun x hx => ⟨HR.out x hx, hall x hx⟩)
    have HLB := Lib.hid (show ∀ x ∈ l, 0 ≤ x ∧ isB x = true from fun x hx => ⟨HR.out x hx, isB_isS (HR.out x hx) (hall x hx)⟩)
    clear hall
    go_wp2_with fail
    refine (newEncoder_calls pl _).mono ?_
    rintro e w3 ⟨rfl, hd, hb, hz⟩
    obtain ⟨g1, hg1⟩ : ∃ g, g = w2.heap.size := ⟨_, rfl⟩
    rw [← hg1] at hd
    rw [← hg1]
    have hb3 := tb HB2.out hb
    have hgw : w.heap.size ≤ g1 := by rw [hg1]; exact HB2.out.size
    have hfs : ∀ i, EFS (g1 + 1) g1 i → w.heap.size ≤ i := by rintro i (h | h) <;> omega
    have hwr := write_calls (cap := c) hd (by omega) hcap HNil.out (fun wx hc => H.out.below (Chg.below hb3 hc hfs)) HLB.out
    have HWr := Lib.hid hwr
    have HB3 := Lib.hid hb3
    have HFs := Lib.hid hfs
    clear hd hb hz hg1 hb3 hgw hfs hwr
    go_wp2_with fail
    refine HWr.out.mono ?_
    rintro e w4 ⟨rfl, hc4⟩
    have HB4 := Lib.hid (Chg.below HB3.out hc4 HFs.out)
    clear hc4
    obtain ⟨T, hT⟩ : ∃ T, T = textC pl l := ⟨_, rfl⟩
    rw [← hT]
    have hTl : T.length ≤ 5000 := by
      rw [hT]
      unfold textC
      rw [List.length_append]
      have h1 := pushes_len l (e0 pl)
      have h2 := flush_len (pushes (e0 pl) l).1
      omega
    have hbk := text_back pl HS.out
    have hrg := text_rg pl (l := l) (fun x hx => ⟨HR.out x hx, (isS_iff.1 (HS.out x hx).2).2⟩)
    rw [← hT] at hbk hrg
    obtain ⟨S, hS⟩ : ∃ S, S = strOfNums T := ⟨_, rfl⟩
    have hSz : S.size = T.length := by rw [hS, str_size]
    have hrd := Rst.rread_calls S w4 (by omega)
    have HRd := Lib.hid hrd
    have HTold := Lib.hid (show ∀ (o : List Int) (b : B4), Dec.Ran (Dec.byt S) o b → o = l ∧ b = { at_ := S.size, err := 0, pl := 0, fin := true } from fun o b h => by
      rw [hSz]; rw [hS] at h; exact read_told hrg hbk h)
    rw [← hS]
    clear hT hTl hbk hrg hS hSz hrd
    go_wp2_with fail
    refine HRd.out.mono ?_
    rintro e w5 ⟨A2, c2, o2, b2, rfl, hran2, ho2, hb5⟩
    obtain ⟨rfl, rfl⟩ := HTold.out _ _ hran2
    have HB5 := Lib.hid (tb HB4.out hb5)
    have hsm := same_calls (c := c2) (d := c) (Lst.of_owns ho2) (H.out.below HB5.out) (by omega) (by omega)
    rw [decide_eq_true rfl] at hsm
    have HSM := Lib.hid hsm
    clear hran2 ho2 hb5 hsm
    go_wp2_with fail
    refine HSM.out.mono ?_
    rintro e w6 ⟨rfl, hdr⟩
    have HB6 := Lib.hid (HB5.out.trans (hdr.below _))
    clear hdr
    go_wp2_with fail
    go_ret
    exact ⟨rfl, HB6.out⟩
  · go_wp2_with fail
    refine (awake_calls _).mono ?_
    rintro e w3 ⟨rfl, hb3⟩
    have HB3 := Lib.hid hb3
    clear hb3
    go_wp2_with fail
    go_ret
    exact ⟨rfl, tb HB2.out HB3.out⟩
set_option maxRecDepth 100000 in
set_option maxHeartbeats 8000000 in
theorem back_big {w : World} {A : Option Addr} {c n : Nat} {pl : Bool} (hl : 400 < n) (hm : n ≤ maxLen) : Calls Try.prog 3 #[.bool pl, .slice A n c] w (BackPost w) := by
  have hgr := great_calls (n : Int) none none 0 0 0 0
  have e1 : (decide (400 < (n : Int)) || (decide (200 < 0) || decide (200 < 0))) = true := by rw [Bool.eq_iff_iff]; simp; omega
  rw [e1] at hgr
  unfold maxLen at hm
  have HGR := Lib.hid hgr
  clear hgr e1
  go_enter Try.func3, Try.ntmps3
  go_wp2_with fail
  refine (awake_calls _).mono ?_
  rintro e w1 ⟨rfl, hb1⟩
  have HB1 := Lib.hid hb1
  clear hb1
  go_wp2_with fail
  refine (HGR.out _).mono ?_
  rintro e w2 ⟨rfl, rfl⟩
  go_wp2_with fail
  refine (awake_calls _).mono ?_
  rintro e w3 ⟨rfl, hb3⟩
  have HB3 := Lib.hid hb3
  clear hb3
  go_wp2_with fail
  go_ret
  exact ⟨rfl, tb HB1.out HB3.out⟩
theorem u32_pos {l : List Int} (hg : ∀ x ∈ l, (Lit.int .u32 x).wf = true) : ∀ x ∈ l, 0 ≤ x := by
  intro x hx
  have := hg x hx
  simp [Lit.wf, IntKind.min, IntKind.max, IntKind.signed, IntKind.bits] at this
  omega
open Go.Proofs.YtkfiahildoljfaaW.PrintWords in
theorem compressBack_row (pl : Bool) (A : Option Addr) (c : Nat) (l : List Int) (w : World) (hr : (Kd.int .u32).C w A l.length l) (hc : l.length ≤ c) (hm : l.length ≤ maxLen) (hg : ∀ x ∈ l, (Lit.int .u32 x).wf = true) (hn : A = none → c = 0) :
    Calls Try.prog 3 #[.bool pl, .slice A l.length c] w fun e w' => e = .returned (.bool true) ∧ Below w.heap.size w w' := by
  by_cases h : l.length ≤ 400
  · exact back_small (Dec.lst_arg hr) hc hn h (u32_pos hg)
  · exact back_big (by omega) hm
end Go.Proofs.Ytkfiahildoljfaa.Enc
