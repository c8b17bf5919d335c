/- ExpandReads: the stage's theorem. -/
import Derived.Test.YtnkinbfglenddaaRun
import Derived.Test.YtnkinbfglenddaaPure
namespace Go.Proofs.Ytnkinbfglenddaa.Rst
open Go.RowKit Go.Proofs.Ytnkinbfglenddaa.Win Go.Proofs.Ytnkinbfglenddaa.Stp Go.Proofs.Ytnkinbfglenddaa.Mach
set_option linter.unusedVariables false
set_option linter.unusedSimpArgs false
def RReadPost (w : World) (s : ByteArray) (e : Ending) (w' : World) : Prop :=
  ∃ (A : Option Addr) (c : Nat) (out : List Int) (b : B4), e = .returned (.tuple #[.slice A out.length c, .int .i64 b.err, .int .i64 b.at_]) ∧ Dec.Ran (Dec.byt s) out b ∧ w'.ownsRow w.heap.size 25 1 (.slice A out.length c) out.length (u32s out) ∧ Below w.heap.size w w'
theorem rread_calls (s : ByteArray) (w : World) (hs : s.size ≤ 100000) : Calls Try.prog 19 #[.string s] w (RReadPost w s) := by
  have HRun := Lib.hid (run_calls s w hs)
  go_enter Try.func19, Try.ntmps19
  go_wp2_with fail
  refine HRun.out.mono ?_
  rintro e w1 ⟨g, go, rb, v, t, rfl, hR, hS, hB, h1, h2⟩
  have q0 := hR.f0
  have q5 := hR.f5
  have q6 := hR.f6
  have HR := Lib.hid hR
  have HS := Lib.hid hS
  have HB := Lib.hid hB
  have H2 := Lib.hid h2
  obtain ⟨A, c, rfl⟩ := Lst.owns_form hR.row
  clear hR hS hB h1 h2
  go_wp2_with fail
  go_quiet (fail)
  go_wp2_with fail
  obtain ⟨b, r1, r2, r3⟩ := HS.out
  refine bodyPost_ret (v := .tuple #[.slice A t.out.length c, .int .i64 t.err, .int .i64 t.pl]) (by simp [results, Try.results19, go_sem]) rfl ⟨A, c, t.out, b, ?_, r1, Dec.own_weaken (HR.out.row) H2.out, below_drewN HB.out _⟩
  rw [r2, r3]
end Go.Proofs.Ytnkinbfglenddaa.Rst
namespace Go.Proofs.Ytnkinbfglenddaa.Dec
open Go.RowKit Go.Proofs.Ytnkinbfglenddaa.Win Go.Proofs.Ytnkinbfglenddaa.Stp Go.Proofs.Ytnkinbfglenddaa.Mach Go.Proofs.Ytnkinbfglenddaa.Lst
set_option linter.unusedVariables false
set_option linter.unusedSimpArgs false
set_option maxRecDepth 100000 in
set_option maxHeartbeats 8000000 in
theorem reads_small {w : World} {AP AR : Option Addr} {cP cR : Nat} {parts rooms : List Int} (s : ByteArray) (hP : Lst w .i64 AP parts) (hR : Lst w .i64 AR rooms) (hs : s.size ≤ 400) (lP : parts.length ≤ 200) (lR : rooms.length ≤ 200) :
    Calls Try.prog 6 #[.string s, .slice AP parts.length cP, .slice AR rooms.length cR] w (LawPost w) := by
  have hgr := great_calls (s.size : Int) AP AR parts.length rooms.length cP cR
  have e1 : (decide (400 < (s.size : Int)) || (decide (200 < parts.length) || decide (200 < rooms.length))) = false := by rw [Bool.eq_iff_iff]; simp; omega
  rw [e1] at hgr
  have HGR := Lib.hid hgr
  have HP := Lib.hid hP
  have HR := Lib.hid hR
  clear hgr e1 hP hR
  go_enter Try.func6, Try.ntmps6
  go_wp2_with fail
  refine (awake_calls _).mono ?_
  rintro e w1 ⟨rfl, hb1⟩
  have HB1 := Lib.hid hb1
  clear hb1
  go_wp2_with fail
  refine (HGR.out _).mono ?_
  rintro e w2 ⟨rfl, rfl⟩
  go_wp2_with fail
  refine (newDecoder_calls _).mono ?_
  rintro e w2 ⟨rfl, hd, hb, hz⟩
  obtain ⟨g, hg⟩ : ∃ g, g = w1.heap.size := ⟨_, rfl⟩
  rw [← hg] at hd
  rw [← hg]
  have hb2 := tb HB1.out hb
  have hgw : w.heap.size ≤ g := by rw [hg]; exact HB1.out.size
  have hfs : ∀ i, FS (g + 1) g nilS i → w.heap.size ≤ i := by
    rintro i (h | h | h)
    · omega
    · omega
    · cases h
  have hrd := read_calls (parts := parts) (rooms := rooms) (AP := AP) (AR := AR) (cP := cP) (cR := cR) s hd (fun wr hc => HP.out.below (Chg.below hb2 hc hfs)) (fun wr hc => HR.out.below (Chg.below hb2 hc hfs)) (by omega) (by omega) (by omega)
  have HRD := Lib.hid hrd
  have HB2 := Lib.hid hb2
  have HFS := Lib.hid hfs
  clear hd hb hz hg hb2 hgw hfs hrd
  go_wp2_with fail
  refine HRD.out.mono ?_
  rintro e w3 ⟨A1, c1, o1, b1, n1, rfl, hd1, hc1, ho1, hlen1, hran1⟩
  have HB3 := Lib.hid (Chg.below HB2.out hc1 HFS.out)
  have HD1 := Lib.hid hd1
  have HL1 := Lib.hid (Lst.of_owns ho1)
  have HR1 := Lib.hid hran1
  have HLN := Lib.hid hlen1
  have hrr := Rst.rread_calls s w3 (by omega)
  have HRR := Lib.hid hrr
  clear hd1 hc1 ho1 hlen1 hran1 hrr
  go_wp2_with fail
  refine HRR.out.mono ?_
  rintro e w4 ⟨A2, c2, o2, b2, rfl, hran2, ho2, hb4⟩
  obtain ⟨rfl, rfl⟩ := Sim.ran_one HR1.out hran2
  have hsm := same_calls (c := c1) (d := c2) (HL1.out.below hb4) (Lst.of_owns ho2) (by have := HLN.out; omega) (by have := HLN.out; omega)
  rw [decide_eq_true rfl] at hsm
  have HSM := Lib.hid hsm
  have HD4 := Lib.hid (HD1.out.below hb4)
  have HB4 := Lib.hid (tb HB3.out hb4)
  clear hran2 ho2 hb4 hsm
  go_wp2_with fail
  refine HSM.out.mono ?_
  rintro e w5 ⟨rfl, hdr⟩
  have HD5 := Lib.hid (HD4.out.below (hdr.below _))
  have HB5 := Lib.hid (HB4.out.trans (hdr.below _))
  clear hdr
  have hfl := fail_calls _ _ _ HD5.out.base
  have HFL := Lib.hid hfl
  clear hfl
  go_wp2_with fail
  refine HFL.out.mono ?_
  rintro e w6 ⟨rfl, rfl⟩
  obtain ⟨w6, hw6⟩ : ∃ w6, w6 = w5.alloc (.cells #[.int .i64 b1.err, .int .i64 b1.pl] 40) := ⟨_, rfl⟩
  have HB6 := Lib.hid (show Below w5.heap.size w5 w6 by rw [hw6]; exact (Below.refl _ _).alloc (Nat.le_refl _) _)
  go_wp2_with fail
  rw [← hw6]
  clear hw6
  refine (failed_calls b1.err b1.at_ _).mono ?_
  rintro e w7 ⟨rfl, hb7⟩
  have HB7 := Lib.hid (tb HB6.out hb7)
  clear hb7
  have hpl : (b1.err == if b1.err = 0 then 0 else b1.err) = true ∧ (b1.pl == if b1.err = 0 then 0 else b1.at_) = true := by
    rcases HR1.out with ⟨m, _, _, _, rfl⟩ | ⟨m, _, _, rfl⟩ | ⟨k, m, _, _, _, rfl⟩
    · exact ⟨rfl, rfl⟩
    · exact ⟨by simp, by simp⟩
    · exact ⟨by simp, by simp⟩
  obtain ⟨p1, p2⟩ := hpl
  obtain ⟨x, hx⟩ : ∃ x, x = if b1.err = 0 then 0 else b1.err := ⟨_, rfl⟩
  obtain ⟨y, hy⟩ : ∃ y, y = if b1.err = 0 then 0 else b1.at_ := ⟨_, rfl⟩
  rw [← hx] at p1
  rw [← hy] at p2
  rw [← hx, ← hy]
  have hat := at_calls _ _ _ (HD5.out.below HB7.out).base
  have HAT := Lib.hid hat
  clear hx hy hat
  go_wp2_with fail
  refine HAT.out.mono ?_
  rintro e w8 ⟨rfl, rfl⟩
  go_wp2_with fail
  go_ret
  exact ⟨by simp, tb HB5.out HB7.out⟩
set_option maxHeartbeats 4000000 in
theorem reads_big {w : World} {AP AR : Option Addr} {cP cR p r : Nat} (s : ByteArray) (hs : 400 < s.size ∨ 200 < p ∨ 200 < r) (hm : s.size ≤ 140737488351232) (lP : p ≤ maxLen) (lR : r ≤ maxLen) :
    Calls Try.prog 6 #[.string s, .slice AP p cP, .slice AR r cR] w (LawPost w) := by
  have hgr := great_calls (s.size : Int) AP AR p r cP cR
  have e1 : (decide (400 < (s.size : Int)) || (decide (200 < p) || decide (200 < r))) = true := by rw [Bool.eq_iff_iff]; simp; omega
  rw [e1] at hgr
  unfold maxLen at lP lR
  have HGR := Lib.hid hgr
  clear hgr e1 hs
  go_enter Try.func6, Try.ntmps6
  go_wp2_with fail
  refine (awake_calls _).mono ?_
  rintro e w1 ⟨rfl, hb1⟩
  have HB1 := Lib.hid hb1
  clear hb1
  go_wp2_with fail
  refine (HGR.out _).mono ?_
  rintro e w2 ⟨rfl, rfl⟩
  go_wp2_with fail
  refine (awake_calls _).mono ?_
  rintro e w3 ⟨rfl, hb3⟩
  have HB3 := Lib.hid hb3
  clear hb3
  go_wp2_with fail
  go_ret
  exact ⟨rfl, tb HB1.out HB3.out⟩
open Go.Proofs.YtnkinbfglenddaaW.PrintWords in
theorem expandReads_row (s : ByteArray) (AP : Option Addr) (cP : Nat) (parts : List Int) (AR : Option Addr) (cR : Nat) (rooms : List Int) (w : World) (hm : s.size ≤ 140737488351232)
    (hrP : (Kd.int .i64).C w AP parts.length parts) (hcP : parts.length ≤ cP) (hmP : parts.length ≤ maxLen) (hgP : ∀ x ∈ parts, (Lit.int .i64 x).wf = true)
    (hrR : (Kd.int .i64).C w AR rooms.length rooms) (hcR : rooms.length ≤ cR) (hmR : rooms.length ≤ maxLen) (hgR : ∀ x ∈ rooms, (Lit.int .i64 x).wf = true) :
    Calls Try.prog 6 #[.string s, .slice AP parts.length cP, .slice AR rooms.length cR] w fun e w' => e = .returned (.bool true) ∧ Below w.heap.size w w' := by
  by_cases h : 400 < s.size ∨ 200 < parts.length ∨ 200 < rooms.length
  · exact reads_big s h hm hmP hmR
  · exact reads_small s (lst_arg hrP) (lst_arg hrR) (by omega) (by omega) (by omega)
end Go.Proofs.Ytnkinbfglenddaa.Dec
