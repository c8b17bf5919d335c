/- ExpandExtends: what is eaten is the beginning of a text that denotes something. -/
import Derived.Test.YtnkinbfglenddaaRest
import Derived.Test.YtnkinbfglenddaaPhi
import Derived.Deep.RegionWith
import Derived.Deep.CutBlock
import Derived.Deep.DeepCutAuto
namespace Go.Proofs.Ytnkinbfglenddaa.Dec
open Go.RowKit Go.Proofs.Ytnkinbfglenddaa.Win Go.Proofs.Ytnkinbfglenddaa.Stp Go.Proofs.Ytnkinbfglenddaa.Mach Go.Proofs.Ytnkinbfglenddaa.Lst Go.Proofs.YtnkinbfglenddaaW.PrintWords Go.Proofs.YtnkinbfglenddaaW.PrintLast Go.Proofs.YtnkinbfglenddaaW.PrintMore Go.Proofs.Ytnkinbfglenddaa.Phi
set_option linter.unusedVariables false
set_option linter.unusedSimpArgs false
attribute [local go_sem] max2_int min2_int max_two min_two
def ext.T16 : Bool × List (List Nat × List Nat) := (true, [([], []), ([0], [0]), ([1], [1]), ([2], [2]), ([3], [3]), ([], []), ([5], [5]), ([6], [6]), ([7], [7]), ([8, 4], [8]), ([4, 9], [4, 9]), ([10, 9, 0, 1, 2, 3, 4, 5, 6, 7, 8, 9, 10], [10])])
def ext.B16 : List Nat := [0, 1, 3, 7, 15, 0, 32, 96, 224, 511, 1023, 2047]
theorem ext.tab16 : rtab .any (opsOf Try.f7 16) = ext.T16 := by kernel_rfl
theorem ext.bits16 : waitsOk ext.T16.2 ext.B16 = true := by kernel_rfl
/-- What goes on to an end tells what was told. -/
theorem ext_fine {l o1 x o2 : List Int} {m : M} {b2 : B4} (h1 : steps m0 l = some (m, o1)) (hf : Rst.Fine (l ++ x)) (h2 : Ran (l ++ x) o2 b2) : b2.err = 0 ∧ b2.pl = 0 ∧ ∃ e, o2 = o1 ++ e := by
  obtain ⟨o, b, r1, r2⟩ := hf
  obtain ⟨rfl, rfl⟩ := Sim.ran_one h2 r1
  rcases h2 with ⟨m', q1, _, _, rfl⟩ | ⟨m', q1, _, rfl⟩ | ⟨j, m', q1, q2, q3, rfl⟩
  · obtain ⟨m1, e1, e2, p1, _, p3⟩ := steps_prefix q1
    rw [h1] at p1
    simp only [Option.some.injEq, Prod.mk.injEq] at p1
    obtain ⟨_, rfl⟩ := p1
    exact ⟨rfl, rfl, e2, p3⟩
  · cases r2
  · cases r2
theorem ext_stop {l o1 x o3 : List Int} {m : M} {b3 : B4} {k : Nat} (hk : k < l.length) (h1 : steps m0 (l.take k) = some (m, o1)) (h2 : Mach.step m (l.getD k 0) = none) (h3 : Ran (l.take (k + 1) ++ x) o3 b3) : b3 = { at_ := k, err := 3, pl := k, fin := false } := by
  have e1 : (l.take (k + 1) ++ x).take k = l.take k := by
    rw [List.take_append_of_le_length (by rw [List.length_take]; omega), List.take_take, Nat.min_eq_left (by omega)]
  have e2 : (l.take (k + 1) ++ x).getD k 0 = l.getD k 0 := by
    rw [List.getD_eq_getElem?_getD, List.getD_eq_getElem?_getD, List.getElem?_append_left (by rw [List.length_take]; omega), List.getElem?_take_of_lt (by omega)]
  exact (ran_stop (k := k) (by rw [List.length_append, List.length_take]; omega) (by rw [e1]; exact h1) (by rw [e2]; exact h2) h3).2
theorem byt_app2 (a b : ByteArray) : byt (a ++ b) = byt a ++ byt b := by
  unfold byt
  rw [ByteArray.data_append, Array.toList_append, List.map_append]
def ExtMid (w4 : World) (g2 : Nat) (o1 : List Int) (vm vt : Value) (wx : World) : Prop :=
  ∃ (A : Option Addr) (c : Nat) (e : List Int) (b2 : B4) (n2 : M), vm = .slice A (o1 ++ e).length c ∧ vt = .bool true ∧ b2.err = 0 ∧ b2.pl = 0 ∧ (o1 ++ e).length ≤ 1000 ∧ DecAt wx (g2 + 1) g2 0 nilS b2 [] n2 ∧ Chg (FS (g2 + 1) g2 nilS) w4 wx ∧ wx.ownsRow w4.heap.size 25 1 (.slice A (o1 ++ e).length c) (o1 ++ e).length (u32s (o1 ++ e))
set_option maxRecDepth 100000 in
set_option maxHeartbeats 16000000 in
theorem extends_small (s more : ByteArray) (w : World) (hs : s.size ≤ 400) (hmo : more.size ≤ 100) : Calls Try.prog 7 #[.string s, .string more] w (LawPost w) := by
  have hgr := great_calls (s.size : Int) none none 0 0 0 0
  have e1 : (decide (400 < (s.size : Int)) || (decide (200 < 0) || decide (200 < 0))) = false := by rw [Bool.eq_iff_iff]; simp; omega
  rw [e1] at hgr
  have HGR := Lib.hid hgr
  clear hgr e1
  go_enter Try.func7, Try.ntmps7
  go_wp2_with fail
  refine (awake_calls _).mono ?_
  rintro e w1 ⟨rfl, hb1⟩
  have HB1 := Lib.hid hb1
  clear hb1
  go_wp2_with fail
  refine (HGR.out _).mono ?_
  rintro e w2 ⟨rfl, rfl⟩
  go_wp2_with fail
  refine (newDecoder_calls _).mono ?_
  rintro e w2 ⟨rfl, hd, hb, hz⟩
  obtain ⟨g1, hg1⟩ : ∃ g, g = w1.heap.size := ⟨_, rfl⟩
  rw [← hg1] at hd
  rw [← hg1]
  have hrd := read_calls (parts := []) (rooms := []) (AP := none) (AR := none) (cP := 0) (cR := 0) s hd (fun _ _ => Lst.nil _ _ _) (fun _ _ => Lst.nil _ _ _) (by decide) (by decide) (by omega)
  have HD0 := Lib.hid hd
  have HB2 := Lib.hid (tb HB1.out hb)
  have HG1 := Lib.hid (show w.heap.size ≤ g1 by rw [hg1]; exact HB1.out.size)
  have HRD := Lib.hid hrd
  clear hd hb hg1 hz hrd
  go_wp2_with fail
  refine HRD.out.mono ?_
  rintro e w3 ⟨A1, c1, o1, b1, n1, rfl, hd1, hc1, ho1, hlen1, hran1⟩
  obtain ⟨k, m, hk, hst, hat, hway⟩ := ran_at hran1
  rw [byt_length] at hk hway
  have hb3 : Below w.heap.size w w3 := Chg.below HB2.out hc1 (by
    have := HG1.out
    rintro i (h | h | h)
    · omega
    · omega
    · cases h)
  have hac := at_calls _ _ _ hd1.base
  rw [hat] at hac
  have HAC := Lib.hid hac
  have HD1 := Lib.hid hd1
  have HO1 := Lib.hid ho1
  have HLN := Lib.hid hlen1
  have HST := Lib.hid hst
  have HWY := Lib.hid hway
  have HB3 := Lib.hid hb3
  have HR1 := Lib.hid hran1
  clear hd1 hc1 ho1 hlen1 hst hway hb3 hac hat hran1
  go_wp2_with fail
  refine HAC.out.mono ?_
  rintro e w4 ⟨rfl, rfl⟩
  go_wp2_with fail
  refine (newDecoder_calls _).mono ?_
  rintro e w4 ⟨rfl, hd, hb, hz⟩
  obtain ⟨g2, hg2⟩ : ∃ g, g = w3.heap.size := ⟨_, rfl⟩
  rw [← hg2] at hd
  rw [← hg2]
  have hlt3 : g1 + 1 < g2 := by rw [hg2]; exact HD1.out.lt
  have hg2w : w.heap.size ≤ g2 := by have := HG1.out; omega
  have HG12 := Lib.hid (And.intro hlt3 hg2w)
  have HF := Lib.hid hd
  have HD4 := Lib.hid (HD1.out.below hb)
  have HB4 := Lib.hid (tb HB3.out hb)
  have HO4 := Lib.hid (own_chg HO1.out (Chg.of_below (S := fun _ => False) hb) (fun _ _ h => h))
  have hsz : (s.extract 0 k).size = k := by rw [ByteArray.size_extract]; omega
  have hbx : byt (s.extract 0 k) = (byt s).take k := by rw [byt_extract]; simp
  have HSZ := Lib.hid hsz
  have HBX := Lib.hid hbx
  have hgo := Sim.goes_on (l := byt (s.extract 0 k)) (byt_rng _) (by rw [hbx]; exact HST.out)
  have HGO := Lib.hid hgo
  have hk4 : (s.extract 0 k).size ≤ 400 := by omega
  have HG2 := Lib.hid hg2
  clear hd hb hz hg2 hlt3 hg2w hsz hbx hgo
  go_upto_region 9 with fail
  go_cut [10, 11] (fun vm vt wx => ExtMid w4 g2 o1 vm vt wx)
  case first =>
    have hbd : Below w4.heap.size w4 w4.drew := below_drewN (Below.refl _ _) 1
    have HBD := Lib.hid hbd
    clear hbd
    go_region_with (first | (go_at_call 21; refine (Rst.rest_calls (s.extract 0 k) _ (by omega)).mono ?_; rintro e w5 ⟨mr, rfl, hm4, hfine, hb5⟩; have hfn : Rst.Fine ((byt s).take k ++ byt mr) := (by rw [← HBX.out]; rcases hfine with h | h; exact h; obtain ⟨x, hx, o, b, hr⟩ := HGO.out; exact absurd ⟨o, b, hr⟩ (h x hx)); have HFN := Lib.hid hfn; have HB5 := Lib.hid (HBD.out.trans hb5); clear hfine hb5 hfn) | (go_at_call 11; refine (read_calls (parts := []) (rooms := []) (AP := none) (AR := none) (cP := 0) (cR := 0) (s.extract 0 k ++ mr) (HF.out.below HB5.out) (fun _ _ => Lst.nil _ _ _) (fun _ _ => Lst.nil _ _ _) (by decide) (by decide) (by rw [ByteArray.size_append]; omega)).mono ?_; rintro e w6 ⟨A2, c2, o2, b2, n2, rfl, hd2, hc2, ho2, hlen2, hran2⟩; have HQ := Lib.hid (And.intro hd2 (And.intro hc2 (And.intro ho2 (And.intro hlen2 hran2)))); clear hd2 hc2 ho2 hlen2 hran2))
    all_goals
      go_wp2_with fail
      obtain ⟨hd2, hc2, ho2, hlen2, hran2⟩ := HQ.out
      rw [byt_app2, HBX.out] at hran2
      obtain ⟨q1, q2, ee, rfl⟩ := ext_fine HST.out HFN.out hran2
      rw [ByteArray.size_append] at hlen2
      have HQ2 := Lib.hid (And.intro hd2 (And.intro hc2 ho2))
      clear hd2 hc2 ho2 hran2
      go_meet
      exact ⟨A2, c2, ee, b2, n2, rfl, rfl, q1, q2, by omega, HQ2.out.1, (Chg.of_below HB5.out).trans HQ2.out.2.1, own_weaken HQ2.out.2.2 HB5.out.size⟩
  case rest =>
    obtain ⟨A2, c2, ee, b2, n2, rfl, rfl, he2, hp2, hl2, hd2, hc2, ho2⟩ := hcut
    have hne : ∀ i, FS (g2 + 1) g2 nilS i → g1 + 1 < i ∧ w.heap.size ≤ i := by
      have := HG12.out
      rintro i (h | h | h)
      · omega
      · omega
      · cases h
    have hk1 := HD4.out.keep hc2.size (hc2.block _ HD4.out.lt (fun h => by have := hne _ h; omega)) (hc2.block _ HD4.out.win.lt (fun h => by have := hne _ h; omega)) (fun k hk => by cases hk)
    have ho1' := own_chg HO4.out hc2 (fun i hi hh => by
      have h1 := (HO1.out.lt i hi).2
      have h2 := HG2.out
      rcases hh with h | h | h
      · omega
      · omega
      · cases h)
    have hb5 : Below w.heap.size w wc := Chg.below HB4.out hc2 (fun i hi => (hne i hi).2)
    have hcap : o1.length ≤ c2 := by
      have hll : (o1 ++ ee).length = o1.length + ee.length := List.length_append
      rcases ho2.2 with ⟨h1, h2⟩ | ⟨g', cap, cur, h1, _, _, h4, _⟩
      · omega
      · injection h1 with _ _ h1; omega
    have hlm : o1.length ≤ (o1 ++ ee).length := by rw [List.length_append]; omega
    have hl1 := Lst.of_owns ho1'
    have hl2' : Lst wc .u32 A2 o1 := by
      have := (Lst.of_owns ho2).take o1.length
      rw [List.take_left] at this
      exact this
    have hfl := fail_calls _ _ _ hd2.base
    rw [he2, hp2] at hfl
    obtain ⟨L2, hL2⟩ : ∃ n, n = (o1 ++ ee).length := ⟨_, rfl⟩
    rw [← hL2] at hl2 hlm
    rw [← hL2]
    have HFL := Lib.hid hfl
    have HL1 := Lib.hid hl1
    have HL2 := Lib.hid hl2'
    have HK1 := Lib.hid hk1
    have HB5 := Lib.hid hb5
    have hol : o1.length ≤ 400 := by have := HLN.out; omega
    clear hd2 hc2 ho2 hne hk1 ho1' hb5 hl1 hl2' hfl he2 hp2 hL2
    go_wp2_with fail
    refine HFL.out.mono ?_
    rintro e w6 ⟨rfl, rfl⟩
    obtain ⟨w6, hw6⟩ : ∃ w6, w6 = wc.alloc (.cells #[.int .i64 0, .int .i64 0] 40) := ⟨_, rfl⟩
    have hb6 : Below wc.heap.size wc w6 := by rw [hw6]; exact (Below.refl _ _).alloc (Nat.le_refl _) _
    have hsm := same_calls (c := c2) (d := c1) (HL2.out.below hb6) (HL1.out.below hb6) (by omega) (by omega)
    rw [decide_eq_true rfl] at hsm
    have HSM := Lib.hid hsm
    have HK6 := Lib.hid (HK1.out.below hb6)
    have HB6 := Lib.hid (tb HB5.out hb6)
    clear hb6 hsm
    go_wp2_with fail
    rw [← hw6]
    clear hw6
    refine HSM.out.mono ?_
    rintro e w7 ⟨rfl, hdr⟩
    have HK7 := Lib.hid (HK6.out.below (hdr.below _))
    have HB7 := Lib.hid (HB6.out.trans (hdr.below _))
    have hfl2 := fail_calls _ _ _ HK7.out.base
    have HFL2 := Lib.hid hfl2
    clear hdr hfl2
    have hfd : ∀ w : World, (Instr.field 40 (.agg #[.int .i64 b1.err, .int .i64 b1.pl]) 0).run Try.prog w = .ok (.int .i64 b1.err) w := fun _ => by kernel_rfl
    go_wp2_with fail
    refine HFL2.out.mono ?_
    rintro e w8 ⟨rfl, rfl⟩
    rcases HWY.out with ⟨rfl, herr⟩ | ⟨hks, hstop, herr, hpl⟩
    · have hbe : (b1.err != 3) = true := by simp [herr]
      clear herr
      go_wp2_with fail
      go_ret
      exact ⟨by simp, HB7.out.alloc HB7.out.size _⟩
    · have hbe : (b1.err != 3) = false := by simp [herr]
      have HSTP := Lib.hid hstop
      have HERR := Lib.hid herr
      have HPL := Lib.hid hpl
      clear hstop herr hpl
      obtain ⟨w8, hw8⟩ : ∃ w8, w8 = w7.alloc (.cells #[.int .i64 b1.err, .int .i64 b1.pl] 40) := ⟨_, rfl⟩
      rw [← hw8]
      have HB8 := Lib.hid (show Below w.heap.size w w8 by rw [hw8]; exact HB7.out.alloc HB7.out.size _)
      have HK8 := Lib.hid (show DecAt w8 (g1 + 1) g1 0 nilS b1 [] n1 by rw [hw8]; exact HK7.out.alloc _)
      clear hw8
      go_wp2_with fail
      refine (newDecoder_calls _).mono ?_
      rintro e w9 ⟨rfl, hd, hb, hz⟩
      obtain ⟨g3, hg3⟩ : ∃ g, g = w8.heap.size := ⟨_, rfl⟩
      rw [← hg3] at hd
      rw [← hg3]
      have hlt : g1 + 1 < g3 := by rw [hg3]; exact HK8.out.lt
      have hsl : ∀ w : World, (Instr.slice 9 (.string s) none (some (.int .i64 ((k : Int) + 1))) none).run Try.prog w = .ok (.string (s.extract 0 (k + 1))) w := fun w => by
        rw [run_slice_string_h w 9 s Try.underlying9 .i64 ((k : Int) + 1) (by omega) (by omega)]
        have f1 : ((k : Int) + 1).toNat = k + 1 := by omega
        rw [f1]
      have hks1 : (k : Int) + 1 ≤ s.size := by omega
      have hsz2 : (s.extract 0 (k + 1)).size = k + 1 := by rw [ByteArray.size_extract]; omega
      have hsz3 : (s.extract 0 (k + 1)).size ≤ 400 := by omega
      have hrd3 := read_calls (parts := []) (rooms := []) (AP := none) (AR := none) (cP := 0) (cR := 0) (s.extract 0 (k + 1) ++ more) hd (fun _ _ => Lst.nil _ _ _) (fun _ _ => Lst.nil _ _ _) (by decide) (by decide) (by rw [ByteArray.size_append]; omega)
      have HRD3 := Lib.hid hrd3
      have HK9 := Lib.hid (HK8.out.below hb)
      have HB9' := Lib.hid (tb HB8.out hb)
      have HLT := Lib.hid (And.intro hlt (show w.heap.size ≤ g3 by have := HG1.out; omega))
      clear hd hb hz hg3 hlt hrd3 hsz2
      go_wp2_with fail
      refine HRD3.out.mono ?_
      rintro e w10 ⟨A3, c3, o3, b3, n3, rfl, hd3, hc3, ho3, hlen3, hran3⟩
      have hbx3 : byt (s.extract 0 (k + 1) ++ more) = (byt s).take (k + 1) ++ byt more := by rw [byt_app2, byt_extract]; simp
      rw [hbx3] at hran3
      have hb3e := ext_stop (by rw [byt_length]; exact hks) HST.out HSTP.out hran3
      have hne3 : ∀ i, FS (g3 + 1) g3 nilS i → g1 + 1 < i ∧ w.heap.size ≤ i := by
        have := HLT.out
        rintro i (h | h | h)
        · omega
        · omega
        · cases h
      have hk10 := HK9.out.keep hc3.size (hc3.block _ HK9.out.lt (fun h => by have := hne3 _ h; omega)) (hc3.block _ HK9.out.win.lt (fun h => by have := hne3 _ h; omega)) (fun k hk => by cases hk)
      have hb10 : Below w.heap.size w w10 := Chg.below HB9'.out hc3 (fun i hi => (hne3 i hi).2)
      have heq := fun w => eql_fail w b3.err b3.pl b1.err b1.pl
      have hq : ((b3.err == b1.err) && (b3.pl == b1.pl)) = true := by rw [hb3e, HERR.out, HPL.out]; simp
      simp only [hq] at heq
      have HK10 := Lib.hid hk10
      have HD3 := Lib.hid hd3
      have HB10 := Lib.hid hb10
      clear hd3 hc3 ho3 hlen3 hran3 hbx3 hb3e hne3 hk10 hb10 hq hbe
      go_upto_region 16 with fail
      have hbd : Below w10.heap.size w10 w10.drew := below_drewN (Below.refl _ _) 1
      have HBD := Lib.hid hbd
      have HX1 := Lib.hid (fun W (hb : Below w10.heap.size w10 W) => fail_calls _ _ W (HK10.out.below hb).base)
      have HX3 := Lib.hid (fun W (hb : Below w10.heap.size w10 W) => fail_calls _ _ W (HD3.out.below hb).base)
      clear hbd
      refine start_ (n := 12) (S := fun w' => True) (ds := []) #[false, false, false, false, false, false, false, false, false, false, false, false] (by kernel_rfl) rfl rfl trivial (fun hHeld => ?_); refine with_tabW ext.tab16 ext.bits16 (fun HT_ HW_ => ?_)
      refine phi_ 125 [0, 1, 2, 3, 4, 5, 6, 7, 8, 9, 10, 11] (fun w' => Below w10.heap.size w10 w') (fun w1 w2 => Below w1.heap.size w1 w2) (fun j v _ => v = ([.pointer (some ⟨g3 + 1, 0, none⟩), .pointer (some ⟨g3 + 1, 0, none⟩), .pointer (some ⟨g3 + 1, 0, none⟩), .pointer (some ⟨g3 + 1, 0, none⟩), .agg #[.int .i64 b3.err, .int .i64 b3.pl], .pointer (some ⟨g1 + 1, 0, none⟩), .pointer (some ⟨g1 + 1, 0, none⟩), .pointer (some ⟨g1 + 1, 0, none⟩), .pointer (some ⟨g1 + 1, 0, none⟩), .agg #[.int .i64 b1.err, .int .i64 b1.pl], .bool true, .bool true] : List Value).getD j undef) HT_.out HW_.out (by kernel_rfl) (by kernel_rfl) (by kernel_rfl) (Nat.le_refl 125) HBD.out (fun j v w1 w2 h1 h2 => h2) ?_ ?_
      · refine phi_cons ?_ ?_
        · intro a' w' hG hoff hon
          refine ⟨_, rfl, fun K hK => ?_⟩
          have e12 : a'.tmps[12]? = some (.pointer (some ⟨g3 + 1, 0, none⟩)) := (hoff 12 (by kernel_rfl)).trans rfl
          refine value_ (w1 := w') (v := .pointer (some ⟨g3 + 1, 0, none⟩)) (by rfl) rfl ?_ ?_
          · go_simp
            try rfl
          · exact hK _ _ rfl hG (Below.refl _ _)
        refine phi_cons ?_ ?_
        · intro a' w' hG hoff hon
          refine ⟨_, rfl, fun K hK => ?_⟩
          obtain ⟨v0, f0, p0⟩ := hon 0 (by kernel_rfl)
          have e114 := f0 114 rfl
          obtain rfl : v0 = .pointer (some ⟨g3 + 1, 0, none⟩) := p0
          refine value_ (w1 := w') (v := .pointer (some ⟨g3 + 1, 0, none⟩)) (by rfl) rfl ?_ ?_
          · go_simp
            try rfl
          · exact hK _ _ rfl hG (Below.refl _ _)
        refine phi_cons ?_ ?_
        · intro a' w' hG hoff hon
          refine ⟨_, rfl, fun K hK => ?_⟩
          obtain ⟨v1, f1, p1⟩ := hon 1 (by kernel_rfl)
          have e115 := f1 115 rfl
          obtain rfl : v1 = .pointer (some ⟨g3 + 1, 0, none⟩) := p1
          refine value_ (w1 := w') (v := .pointer (some ⟨g3 + 1, 0, none⟩)) (by rfl) rfl ?_ ?_
          · go_simp
            try rfl
          · exact hK _ _ rfl hG (Below.refl _ _)
        refine phi_cons ?_ ?_
        · intro a' w' hG hoff hon
          refine ⟨_, rfl, fun K hK => ?_⟩
          obtain ⟨v2, f2, p2⟩ := hon 2 (by kernel_rfl)
          have e116 := f2 116 rfl
          obtain rfl : v2 = .pointer (some ⟨g3 + 1, 0, none⟩) := p2
          refine value_ (w1 := w') (v := .pointer (some ⟨g3 + 1, 0, none⟩)) (by rfl) rfl ?_ ?_
          · go_simp
            try rfl
          · exact hK _ _ rfl hG (Below.refl _ _)
        refine phi_cons ?_ ?_
        · intro a' w' hG hoff hon
          refine ⟨_, rfl, fun K hK => ?_⟩
          obtain ⟨v3, f3, p3⟩ := hon 3 (by kernel_rfl)
          have e117 := f3 117 rfl
          obtain rfl : v3 = .pointer (some ⟨g3 + 1, 0, none⟩) := p3
          refine goes_ Try.func17 (by kernel_rfl) rfl #[.pointer (some ⟨g3 + 1, 0, none⟩)] (by rfl) rfl rfl (by simp [Act.eval, e117]) ?_
          refine (HX3.out w' hG).mono ?_
          rintro e w2 ⟨rfl, rfl⟩
          exact ⟨_, rfl, hK _ _ rfl (hG.alloc hG.size _) ((Below.refl _ _).alloc (Nat.le_refl _) _)⟩
        refine phi_cons ?_ ?_
        · intro a' w' hG hoff hon
          refine ⟨_, rfl, fun K hK => ?_⟩
          have e5 : a'.tmps[5]? = some (.pointer (some ⟨g1 + 1, 0, none⟩)) := (hoff 5 (by kernel_rfl)).trans rfl
          refine value_ (w1 := w') (v := .pointer (some ⟨g1 + 1, 0, none⟩)) (by rfl) rfl ?_ ?_
          · go_simp
            try rfl
          · exact hK _ _ rfl hG (Below.refl _ _)
        refine phi_cons ?_ ?_
        · intro a' w' hG hoff hon
          refine ⟨_, rfl, fun K hK => ?_⟩
          obtain ⟨v5, f5, p5⟩ := hon 5 (by kernel_rfl)
          have e119 := f5 119 rfl
          obtain rfl : v5 = .pointer (some ⟨g1 + 1, 0, none⟩) := p5
          refine value_ (w1 := w') (v := .pointer (some ⟨g1 + 1, 0, none⟩)) (by rfl) rfl ?_ ?_
          · go_simp
            try rfl
          · exact hK _ _ rfl hG (Below.refl _ _)
        refine phi_cons ?_ ?_
        · intro a' w' hG hoff hon
          refine ⟨_, rfl, fun K hK => ?_⟩
          obtain ⟨v6, f6, p6⟩ := hon 6 (by kernel_rfl)
          have e120 := f6 120 rfl
          obtain rfl : v6 = .pointer (some ⟨g1 + 1, 0, none⟩) := p6
          refine value_ (w1 := w') (v := .pointer (some ⟨g1 + 1, 0, none⟩)) (by rfl) rfl ?_ ?_
          · go_simp
            try rfl
          · exact hK _ _ rfl hG (Below.refl _ _)
        refine phi_cons ?_ ?_
        · intro a' w' hG hoff hon
          refine ⟨_, rfl, fun K hK => ?_⟩
          obtain ⟨v7, f7, p7⟩ := hon 7 (by kernel_rfl)
          have e121 := f7 121 rfl
          obtain rfl : v7 = .pointer (some ⟨g1 + 1, 0, none⟩) := p7
          refine value_ (w1 := w') (v := .pointer (some ⟨g1 + 1, 0, none⟩)) (by rfl) rfl ?_ ?_
          · go_simp
            try rfl
          · exact hK _ _ rfl hG (Below.refl _ _)
        refine phi_cons ?_ ?_
        · intro a' w' hG hoff hon
          refine ⟨_, rfl, fun K hK => ?_⟩
          obtain ⟨v8, f8, p8⟩ := hon 8 (by kernel_rfl)
          have e122 := f8 122 rfl
          obtain rfl : v8 = .pointer (some ⟨g1 + 1, 0, none⟩) := p8
          refine goes_ Try.func17 (by kernel_rfl) rfl #[.pointer (some ⟨g1 + 1, 0, none⟩)] (by rfl) rfl rfl (by simp [Act.eval, e122]) ?_
          refine (HX1.out w' hG).mono ?_
          rintro e w2 ⟨rfl, rfl⟩
          exact ⟨_, rfl, hK _ _ rfl (hG.alloc hG.size _) ((Below.refl _ _).alloc (Nat.le_refl _) _)⟩
        refine phi_cons ?_ ?_
        · intro a' w' hG hoff hon
          refine ⟨_, rfl, fun K hK => ?_⟩
          obtain ⟨v4, f4, p4⟩ := hon 4 (by kernel_rfl)
          have e118 := f4 118 rfl
          obtain rfl : v4 = .agg #[.int .i64 b3.err, .int .i64 b3.pl] := p4
          obtain ⟨v9, f9, p9⟩ := hon 9 (by kernel_rfl)
          have e123 := f9 123 rfl
          obtain rfl : v9 = .agg #[.int .i64 b1.err, .int .i64 b1.pl] := p9
          refine value_ (w1 := w') (v := .bool true) (by rfl) rfl ?_ ?_
          · go_simp
            try rfl
          · exact hK _ _ rfl hG (Below.refl _ _)
        refine phi_cons ?_ ?_
        · intro a' w' hG hoff hon
          refine ⟨_, rfl, fun K hK => ?_⟩
          obtain ⟨v10, f10, p10⟩ := hon 10 (by kernel_rfl)
          have e124 := f10 124 rfl
          obtain rfl : v10 = .bool true := p10
          refine value_ (w1 := w') (v := .bool true) (by rfl) rfl ?_ ?_
          · go_simp
            try rfl
          · exact hK _ _ rfl hG (Below.refl _ _)
        exact phi_nil
      · intro vals w' hG hF
        have hlast : vals 11 = .bool true := hF 11 (by decide)
        simp only [Phi.putAll, Phi.dstOf, List.getElem?_toArray, List.getElem?_cons_succ, List.getElem?_cons_zero, Option.bind_some, Act.put, List.setIfInBounds_toArray, List.set_cons_zero, List.set_cons_succ, hlast]
        have HG := Lib.hid hG
        clear hG hF hlast
        go_wp2_with fail
        go_ret
        exact ⟨rfl, HB10.out.trans (Below.mono HG.out HB10.out.size)⟩
set_option maxHeartbeats 4000000 in
theorem extends_big (s more : ByteArray) (w : World) (h : 400 < s.size ∨ 100 < more.size) (hm : s.size ≤ 140737488351232) (hm2 : more.size ≤ 140737488351232) : Calls Try.prog 7 #[.string s, .string more] w (LawPost w) := by
  have hgr := great_calls (s.size : Int) none none 0 0 0 0
  by_cases hb : 400 < s.size
  · have e1 : (decide (400 < (s.size : Int)) || (decide (200 < 0) || decide (200 < 0))) = true := by rw [Bool.eq_iff_iff]; simp; omega
    rw [e1] at hgr
    have HGR := Lib.hid hgr
    clear hgr e1 h
    go_enter Try.func7, Try.ntmps7
    go_wp2_with fail
    refine (awake_calls _).mono ?_
    rintro e w1 ⟨rfl, hb1⟩
    have HB1 := Lib.hid hb1
    clear hb1
    go_wp2_with fail
    refine (HGR.out _).mono ?_
    rintro e w2 ⟨rfl, rfl⟩
    go_wp2_with fail
    refine (awake_calls _).mono ?_
    rintro e w3 ⟨rfl, hb3⟩
    have HB3 := Lib.hid hb3
    clear hb3
    go_wp2_with fail
    go_ret
    exact ⟨rfl, tb HB1.out HB3.out⟩
  · have e1 : (decide (400 < (s.size : Int)) || (decide (200 < 0) || decide (200 < 0))) = false := by rw [Bool.eq_iff_iff]; simp; omega
    have h2 : 100 < more.size := by omega
    rw [e1] at hgr
    have HGR := Lib.hid hgr
    clear hgr e1 h
    go_enter Try.func7, Try.ntmps7
    go_wp2_with fail
    refine (awake_calls _).mono ?_
    rintro e w1 ⟨rfl, hb1⟩
    have HB1 := Lib.hid hb1
    clear hb1
    go_wp2_with fail
    refine (HGR.out _).mono ?_
    rintro e w2 ⟨rfl, rfl⟩
    go_wp2_with fail
    refine (awake_calls _).mono ?_
    rintro e w3 ⟨rfl, hb3⟩
    have HB3 := Lib.hid hb3
    clear hb3
    go_wp2_with fail
    go_ret
    exact ⟨rfl, tb HB1.out HB3.out⟩
theorem expandExtends_row (s more : ByteArray) (w : World) (hm : s.size ≤ 140737488351232) (hm2 : more.size ≤ 140737488351232) : Calls Try.prog 7 #[.string s, .string more] w fun e w' => e = .returned (.bool true) ∧ Below w.heap.size w w' := by
  by_cases h : 400 < s.size ∨ 100 < more.size
  · exact extends_big s more w h hm hm2
  · exact extends_small s more w (by omega) (by omega)
end Go.Proofs.Ytnkinbfglenddaa.Dec
