/- ExpandFront: a beginning's scalars are a beginning of the scalars. -/
import Derived.Test.YtnkinbfglenddaaLawAscii
import Derived.Test.YtnkinbfglenddaaPhi
namespace Go.Proofs.Ytnkinbfglenddaa.Dec
open Go.RowKit Go.Proofs.Ytnkinbfglenddaa.Win Go.Proofs.Ytnkinbfglenddaa.Stp Go.Proofs.Ytnkinbfglenddaa.Mach Go.Proofs.Ytnkinbfglenddaa.Lst Go.Proofs.YtnkinbfglenddaaW.PrintWords Go.Proofs.YtnkinbfglenddaaW.PrintLast Go.Proofs.YtnkinbfglenddaaW.PrintMore Go.Proofs.Ytnkinbfglenddaa.Phi
set_option linter.unusedVariables false
set_option linter.unusedSimpArgs false
def frn.T8 : Bool × List (List Nat × List Nat) := (true, [([], []), ([0], [0]), ([1], [1]), ([2], [2]), ([3], [3]), ([4], [4]), ([5], [5]), ([6, 4], [6]), ([7], [7]), ([8, 7], [7, 8]), ([9, 7], [7, 9]), ([10, 7], [7, 10]), ([11, 7, 7], [7, 11]), ([7], [7]), ([12, 13, 7], [7, 12, 13]), ([7, 14], [7, 14]), ([15, 12], [15]), ([16], [16]), ([17, 16], [16, 17]), ([18, 16], [16, 18]), ([19, 16], [16, 19]), ([20, 16, 16], [16, 20]), ([16], [16]), ([22, 16], [16, 22]), ([23, 16], [16, 23]), ([24, 16], [16, 24]), ([25, 21, 16], [16, 25]), ([21, 26, 16], [16, 21, 26]), ([16, 27], [16, 27]), ([28, 26, 0, 1, 2, 3, 4, 5, 6, 7, 8, 9, 10, 11, 12, 13, 14, 15, 16, 17, 18, 19, 20, 21, 22, 23, 24, 25, 26, 27, 28], [28])])
def frn.B8 : List Nat := [0, 1, 3, 7, 15, 31, 63, 127, 255, 511, 1023, 2047, 4095, 255, 16383, 32767, 65535, 131071, 262143, 524287, 1048575, 2097151, 131071, 4325375, 12713983, 29491199, 67108863, 134217727, 268435455, 536870911]
theorem frn.tab8 : rtab .any (opsOf Try.f8 8) = frn.T8 := by kernel_rfl
theorem frn.bits8 : waitsOk frn.T8.2 frn.B8 = true := by kernel_rfl
/-- How far a reading came. -/
def RanAt (l out : List Int) (b : B4) (k : Nat) (m : M) : Prop := k ≤ l.length ∧ steps m0 (l.take k) = some (m, out) ∧ b.at_ = (k : Int) ∧ ((k = l.length ∧ b.err ≠ 3) ∨ (k < l.length ∧ Mach.step m (l.getD k 0) = none ∧ b.err = 3 ∧ b.pl = (k : Int)))
theorem ran_at {l out : List Int} {b : B4} (h : Ran l out b) : ∃ k m, RanAt l out b k m := by
  rcases h with ⟨m, h1, _, _, rfl⟩ | ⟨m, h1, _, rfl⟩ | ⟨k, m, h1, h2, h3, rfl⟩
  · exact ⟨l.length, m, Nat.le_refl _, by rw [List.take_length]; exact h1, rfl, .inl ⟨rfl, by simp⟩⟩
  · exact ⟨l.length, m, Nat.le_refl _, by rw [List.take_length]; exact h1, rfl, .inl ⟨rfl, by simp⟩⟩
  · exact ⟨k, m, Nat.le_of_lt h1, h2, rfl, .inr ⟨h1, h3, rfl, rfl⟩⟩
theorem steps_le {l out e : List Int} {j k : Nat} {m m' : M} (hjk : j ≤ k) (h1 : steps m0 (l.take k) = some (m, out)) (h2 : steps m0 (l.take j) = some (m', e)) : ∃ e2, out = e ++ e2 := by
  have : l.take k = l.take j ++ (l.take k).drop j := by
    have : (l.take k).take j = l.take j := by rw [List.take_take, Nat.min_eq_left hjk]
    rw [← this, List.take_append_drop]
  rw [this] at h1
  obtain ⟨m5, e5, e6, q1, q2, q3⟩ := steps_prefix h1
  rw [h2] at q1
  simp only [Option.some.injEq, Prod.mk.injEq] at q1
  obtain ⟨rfl, rfl⟩ := q1
  exact ⟨_, q3⟩
/-- A beginning against the whole. -/
theorem front {l out out2 : List Int} {b b2 : B4} {n : Nat} (hn : n ≤ l.length) (h : Ran l out b) (h2 : Ran (l.take n) out2 b2) :
    out2.length ≤ out.length ∧ out.take out2.length = out2 ∧ (b.err ≠ 3 ∨ (b.err = 3 ∧ (n : Int) ≤ b.at_) ∨ (b.err = 3 ∧ b.at_ < n ∧ b2.err = b.err ∧ b2.pl = b.pl)) := by
  obtain ⟨k, m, a1, a2, a3, a4⟩ := ran_at h
  obtain ⟨k2, m2, c1, c2, c3, c4⟩ := ran_at h2
  rw [List.length_take, Nat.min_eq_left hn] at c1 c4
  rw [List.take_take, Nat.min_eq_left c1] at c2
  have hle : k2 ≤ k := by
    rcases a4 with ⟨h, _⟩ | ⟨p1, p2, _, _⟩
    · omega
    · exact stop_le p1 a2 p2 c2
  obtain ⟨e2, he⟩ := steps_le hle a2 c2
  refine ⟨by rw [he, List.length_append]; omega, by rw [he]; simp, ?_⟩
  rcases a4 with ⟨h, h'⟩ | ⟨p1, p2, p3, p4⟩
  · exact .inl h'
  · rcases Nat.lt_or_ge k n with hkn | hkn
    · right; right
      rcases c4 with ⟨q1, _⟩ | ⟨q1, q2, q3, q4⟩
      · have := stop_le p1 a2 p2 (j := n) (by rw [← q1]; exact c2)
        omega
      · have e : (l.take n).getD k2 0 = l.getD k2 0 := by
          rw [List.getD_eq_getElem?_getD, List.getD_eq_getElem?_getD, List.getElem?_take_of_lt q1]
        rw [e] at q2
        have := stop_le (by omega : k2 < l.length) c2 q2 a2
        obtain rfl : k2 = k := by omega
        exact ⟨p3, by omega, by rw [q3, p3], by rw [q4, p4]⟩
    · right; left
      exact ⟨p3, by rw [a3]; omega⟩
set_option maxRecDepth 100000 in
set_option maxHeartbeats 8000000 in
theorem front_small (s : ByteArray) (n : Nat) (w : World) (hs : s.size ≤ 400) (hn : n ≤ s.size) : Calls Try.prog 8 #[.string s, .int .i64 n] w (LawPost w) := by
  have hgr := great_calls (s.size : Int) none none 0 0 0 0
  have e1 : (decide (400 < (s.size : Int)) || (decide (200 < 0) || decide (200 < 0))) = false := by rw [Bool.eq_iff_iff]; simp; omega
  rw [e1] at hgr
  have HGR := Lib.hid hgr
  clear hgr e1
  go_enter Try.func8, Try.ntmps8
  go_wp2_with fail
  refine (awake_calls _).mono ?_
  rintro e w1 ⟨rfl, hb1⟩
  have HB1 := Lib.hid hb1
  clear hb1
  go_wp2_with fail
  refine (HGR.out _).mono ?_
  rintro e w2 ⟨rfl, rfl⟩
  go_wp2_with fail
  refine (newDecoder_calls _).mono ?_
  rintro e w2 ⟨rfl, hd, hb, hz⟩
  obtain ⟨g1, hg1⟩ : ∃ g, g = w1.heap.size := ⟨_, rfl⟩
  rw [← hg1] at hd
  rw [← hg1]
  have HD := Lib.hid hd
  have HBl := Lib.hid hb
  have HG := Lib.hid hg1
  have HZ := Lib.hid hz
  clear hd hb hg1 hz
  go_wp2_with fail
  refine (newDecoder_calls _).mono ?_
  rintro e w3 ⟨rfl, hd, hb, hz⟩
  have hdd := HD.out.below hb
  obtain ⟨g2, hg2⟩ : ∃ g, g = w2.heap.size := ⟨_, rfl⟩
  rw [← hg2] at hd
  rw [← hg2]
  have hb3 := tb (tb HB1.out HBl.out) hb
  have hne : g1 + 1 < g2 ∧ w.heap.size ≤ g1 := by have := HZ.out; have := HG.out; have := HB1.out.size; omega
  have hrd := read_calls (parts := []) (rooms := []) (AP := none) (AR := none) (cP := 0) (cR := 0) s hdd (fun _ _ => Lst.nil _ _ _) (fun _ _ => Lst.nil _ _ _) (by decide) (by decide) (by omega)
  have HDD := Lib.hid hd
  have HB3 := Lib.hid hb3
  have HNE := Lib.hid hne
  have HRD := Lib.hid hrd
  clear hd hdd hb hz hg2 hb3 hne hrd
  go_wp2_with fail
  refine HRD.out.mono ?_
  rintro e w4 ⟨A1, c1, o1, b1, n1, rfl, hd1, hc1, ho1, hlen1, hran1⟩
  have hk2 := HDD.out.keep hc1.size (hc1.block _ HDD.out.lt (by rintro (h | h | h) <;> first | (cases h; done) | (have := HNE.out; omega))) (hc1.block _ HDD.out.win.lt (by rintro (h | h | h) <;> first | (cases h; done) | (have := HNE.out; omega))) (fun k hk => by cases hk)
  have hsz : (s.extract 0 n).size = n := by rw [ByteArray.size_extract]; omega
  have hrd2 := read_calls (parts := []) (rooms := []) (AP := none) (AR := none) (cP := 0) (cR := 0) (s.extract 0 n) hk2 (fun _ _ => Lst.nil _ _ _) (fun _ _ => Lst.nil _ _ _) (by decide) (by decide) (by rw [hsz]; omega)
  have hb4 : Below w.heap.size w w4 := Chg.below HB3.out hc1 (by
    have := HNE.out
    rintro i (h | h | h)
    · omega
    · omega
    · cases h)
  have HRD2 := Lib.hid hrd2
  have HD1 := Lib.hid hd1
  have HO1 := Lib.hid ho1
  have HR1 := Lib.hid hran1
  have HB4 := Lib.hid hb4
  have HL1 := Lib.hid hlen1
  clear hrd2 hk2 hd1 hc1 ho1 hran1 hb4 hlen1 hsz
  go_wp2_with fail
  refine HRD2.out.mono ?_
  rintro e w5 ⟨A2, c2, o2, b2, n2, rfl, hd2, hc2, ho2, hlen2, hran2⟩
  have hbx : byt (s.extract 0 n) = (byt s).take n := by rw [byt_extract]; simp
  rw [hbx] at hran2
  obtain ⟨f1, f2, f3⟩ := front (by rw [byt_length]; exact hn) HR1.out hran2
  have hk1 := HD1.out.keep hc2.size (hc2.block _ HD1.out.lt (by rintro (h | h | h) <;> first | (cases h; done) | (have := HNE.out; omega))) (hc2.block _ HD1.out.win.lt (by rintro (h | h | h) <;> first | (cases h; done) | (have := HNE.out; omega))) (fun k hk => by cases hk)
  have ho1' := own_chg HO1.out hc2 (fs_ge HO1.out HDD.out.lt HDD.out.win.lt)
  have hcap : o1.length ≤ c1 := by
    rcases ho1'.2 with ⟨h1, h2⟩ | ⟨g', cap, cur, h1, _, _, h4, _⟩
    · rw [h2]; omega
    · injection h1 with _ _ h1; omega
  have hb5 : Below w.heap.size w w5 := Chg.below HB4.out hc2 (by
    have := HNE.out
    rintro i (h | h | h)
    · omega
    · omega
    · cases h)
  have hl1 : Lst w5 .u32 A1 o2 := by
    have := (Lst.of_owns ho1').take o2.length
    rw [f2] at this
    exact this
  have hl2 := Lst.of_owns ho2
  have hln1 := HL1.out
  have HF3 := Lib.hid f3
  have HK1 := Lib.hid hk1
  have HK2 := Lib.hid hd2
  have HB5 := Lib.hid hb5
  have HLS1 := Lib.hid hl1
  have HLS2 := Lib.hid hl2
  clear hran2 f2 f3 hk1 ho1' hb5 hl1 hl2 hd2 hc2 ho2 hbx hlen2 hln1
  have hsm := same_calls (c := c1) (d := c2) HLS1.out HLS2.out (by have := HL1.out; omega) (by have := HL1.out; omega)
  rw [decide_eq_true rfl] at hsm
  have HSM := Lib.hid hsm
  clear hsm
  go_wp2_with fail
  refine HSM.out.mono ?_
  rintro e w6 ⟨rfl, hdr⟩
  have HB6 := Lib.hid (HB5.out.trans (hdr.below _))
  have hb56 := hdr.below w5.heap.size
  have HK1' := Lib.hid (HK1.out.below hb56)
  have HK2' := Lib.hid (HK2.out.below hb56)
  clear hdr hb56
  go_upto_region 8 with fail
  have hfd : ∀ (w : World) (b : B4), (Instr.field 40 (.agg #[.int .i64 b.err, .int .i64 b.pl]) 0).run Try.prog w = .ok (.int .i64 b.err) w := fun _ _ => by kernel_rfl
  have hbd : Below w6.heap.size w6 w6.drew := below_drewN (Below.refl _ _) 1
  have HBD := Lib.hid hbd
  have HX1 := Lib.hid (fun W (hb : Below w6.heap.size w6 W) => fail_calls _ _ W (HK1'.out.below hb).base)
  have HX2 := Lib.hid (fun W (hb : Below w6.heap.size w6 W) => fail_calls _ _ W (HK2'.out.below hb).base)
  have HX3 := Lib.hid (fun W (hb : Below w6.heap.size w6 W) => at_calls _ _ W (HK1'.out.below hb).base)
  clear hbd
  rcases HF3.out with h | ⟨h, h'⟩ | ⟨h, h', h2, h3⟩
  · have hbe : (b1.err != 3) = true := by simp [h]
    clear h
    refine start_ (n := 30) (S := fun w' => True) (ds := []) #[false, false, false, false, false, false, false, false, false, false, false, false, false, false, false, false, false, false, false, false, false, false, false, false, false, false, false, false, false, false] (by kernel_rfl) rfl rfl trivial (fun hHeld => ?_); refine with_tabW frn.tab8 frn.bits8 (fun HT_ HW_ => ?_)
    refine phi_ 96 [0, 1, 2, 3, 4, 5, 6, 7, 8, 9, 10, 11, 12, 13, 14, 15, 16, 17, 18, 19, 20, 21, 22, 23, 24, 25, 26, 27, 28, 29] (fun w' => Below w6.heap.size w6 w') (fun w1 w2 => Below w1.heap.size w1 w2) (fun j v _ => v = ([.pointer (some ⟨g1 + 1, 0, none⟩), .pointer (some ⟨g1 + 1, 0, none⟩), .pointer (some ⟨g1 + 1, 0, none⟩), .pointer (some ⟨g1 + 1, 0, none⟩), .agg #[.int .i64 b1.err, .int .i64 b1.pl], .int .i64 b1.err, .bool true, .bool true, undef, undef, undef, undef, undef, undef, undef, .bool true, .bool true, undef, undef, undef, undef, undef, undef, undef, undef, undef, undef, undef, .bool true, .bool true] : List Value).getD j undef) HT_.out HW_.out (by kernel_rfl) (by kernel_rfl) (by kernel_rfl) (Nat.le_refl 96) HBD.out (fun j v w1 w2 h1 h2 => h2) ?_ ?_
    · refine phi_cons ?_ ?_
      · intro a' w' hG hoff hon
        refine ⟨_, rfl, fun K hK => ?_⟩
        have e5 : a'.tmps[5]? = some (.pointer (some ⟨g1 + 1, 0, none⟩)) := (hoff 5 (by kernel_rfl)).trans rfl
        refine value_ (w1 := w') (v := .pointer (some ⟨g1 + 1, 0, none⟩)) (by rfl) rfl ?_ ?_
        · go_simp
          try rfl
        · exact hK _ _ rfl hG (Below.refl _ _)
      refine phi_cons ?_ ?_
      · intro a' w' hG hoff hon
        refine ⟨_, rfl, fun K hK => ?_⟩
        obtain ⟨v0, f0, p0⟩ := hon 0 (by kernel_rfl)
        have e67 := f0 67 rfl
        obtain rfl : v0 = .pointer (some ⟨g1 + 1, 0, none⟩) := p0
        refine value_ (w1 := w') (v := .pointer (some ⟨g1 + 1, 0, none⟩)) (by rfl) rfl ?_ ?_
        · go_simp
          try rfl
        · exact hK _ _ rfl hG (Below.refl _ _)
      refine phi_cons ?_ ?_
      · intro a' w' hG hoff hon
        refine ⟨_, rfl, fun K hK => ?_⟩
        obtain ⟨v1, f1, p1⟩ := hon 1 (by kernel_rfl)
        have e68 := f1 68 rfl
        obtain rfl : v1 = .pointer (some ⟨g1 + 1, 0, none⟩) := p1
        refine value_ (w1 := w') (v := .pointer (some ⟨g1 + 1, 0, none⟩)) (by rfl) rfl ?_ ?_
        · go_simp
          try rfl
        · exact hK _ _ rfl hG (Below.refl _ _)
      refine phi_cons ?_ ?_
      · intro a' w' hG hoff hon
        refine ⟨_, rfl, fun K hK => ?_⟩
        obtain ⟨v2, f2, p2⟩ := hon 2 (by kernel_rfl)
        have e69 := f2 69 rfl
        obtain rfl : v2 = .pointer (some ⟨g1 + 1, 0, none⟩) := p2
        refine value_ (w1 := w') (v := .pointer (some ⟨g1 + 1, 0, none⟩)) (by rfl) rfl ?_ ?_
        · go_simp
          try rfl
        · exact hK _ _ rfl hG (Below.refl _ _)
      refine phi_cons ?_ ?_
      · intro a' w' hG hoff hon
        refine ⟨_, rfl, fun K hK => ?_⟩
        obtain ⟨v3, f3, p3⟩ := hon 3 (by kernel_rfl)
        have e70 := f3 70 rfl
        obtain rfl : v3 = .pointer (some ⟨g1 + 1, 0, none⟩) := p3
        refine goes_ Try.func17 (by kernel_rfl) rfl #[.pointer (some ⟨g1 + 1, 0, none⟩)] (by rfl) rfl rfl (by simp [Act.eval, e70]) ?_
        refine (HX1.out w' hG).mono ?_
        rintro e w2 ⟨rfl, rfl⟩
        exact ⟨_, rfl, hK _ _ rfl (hG.alloc hG.size _) ((Below.refl _ _).alloc (Nat.le_refl _) _)⟩
      refine phi_cons ?_ ?_
      · intro a' w' hG hoff hon
        refine ⟨_, rfl, fun K hK => ?_⟩
        obtain ⟨v4, f4, p4⟩ := hon 4 (by kernel_rfl)
        have e71 := f4 71 rfl
        obtain rfl : v4 = .agg #[.int .i64 b1.err, .int .i64 b1.pl] := p4
        refine value_ (w1 := w') (v := .int .i64 b1.err) (by rfl) rfl ?_ ?_
        · go_simp
          try rfl
        · exact hK _ _ rfl hG (Below.refl _ _)
      refine phi_cons ?_ ?_
      · intro a' w' hG hoff hon
        refine ⟨_, rfl, fun K hK => ?_⟩
        obtain ⟨v5, f5, p5⟩ := hon 5 (by kernel_rfl)
        have e72 := f5 72 rfl
        obtain rfl : v5 = .int .i64 b1.err := p5
        refine value_ (w1 := w') (v := .bool true) (by rfl) rfl ?_ ?_
        · go_simp
          try rfl
        · exact hK _ _ rfl hG (Below.refl _ _)
      refine phi_cons ?_ ?_
      · intro a' w' hG hoff hon
        refine ⟨_, rfl, fun K hK => ?_⟩
        obtain ⟨v6, f6, p6⟩ := hon 6 (by kernel_rfl)
        have e73 := f6 73 rfl
        obtain rfl : v6 = .bool true := p6
        refine value_ (w1 := w') (v := .bool true) (by rfl) rfl ?_ ?_
        · go_simp
          try rfl
        · exact hK _ _ rfl hG (Below.refl _ _)
      refine phi_cons ?_ ?_
      · intro a' w' hG hoff hon
        refine ⟨_, rfl, fun K hK => ?_⟩
        obtain ⟨v7, f7, p7⟩ := hon 7 (by kernel_rfl)
        have e74 := f7 74 rfl
        obtain rfl : v7 = .bool true := p7
        rw [wanted_off (u := false) rfl rfl rfl e74]
        exact hK _ _ rfl hG (Below.refl _ _)
      refine phi_cons ?_ ?_
      · intro a' w' hG hoff hon
        refine ⟨_, rfl, fun K hK => ?_⟩
        obtain ⟨v7, f7, p7⟩ := hon 7 (by kernel_rfl)
        have e74 := f7 74 rfl
        obtain rfl : v7 = .bool true := p7
        rw [wanted_off (u := false) rfl rfl rfl e74]
        exact hK _ _ rfl hG (Below.refl _ _)
      refine phi_cons ?_ ?_
      · intro a' w' hG hoff hon
        refine ⟨_, rfl, fun K hK => ?_⟩
        obtain ⟨v7, f7, p7⟩ := hon 7 (by kernel_rfl)
        have e74 := f7 74 rfl
        obtain rfl : v7 = .bool true := p7
        rw [wanted_off (u := false) rfl rfl rfl e74]
        exact hK _ _ rfl hG (Below.refl _ _)
      refine phi_cons ?_ ?_
      · intro a' w' hG hoff hon
        refine ⟨_, rfl, fun K hK => ?_⟩
        obtain ⟨v7, f7, p7⟩ := hon 7 (by kernel_rfl)
        have e74 := f7 74 rfl
        obtain rfl : v7 = .bool true := p7
        rw [wanted_off (u := false) rfl rfl rfl e74]
        exact hK _ _ rfl hG (Below.refl _ _)
      refine phi_cons ?_ ?_
      · intro a' w' hG hoff hon
        refine ⟨_, rfl, fun K hK => ?_⟩
        obtain ⟨v7, f7, p7⟩ := hon 7 (by kernel_rfl)
        have e74 := f7 74 rfl
        obtain rfl : v7 = .bool true := p7
        rw [wanted_off (u := false) rfl rfl rfl e74]
        exact hK _ _ rfl hG (Below.refl _ _)
      refine phi_cons ?_ ?_
      · intro a' w' hG hoff hon
        refine ⟨_, rfl, fun K hK => ?_⟩
        obtain ⟨v7, f7, p7⟩ := hon 7 (by kernel_rfl)
        have e74 := f7 74 rfl
        obtain rfl : v7 = .bool true := p7
        rw [wanted_off (u := false) rfl rfl rfl e74]
        exact hK _ _ rfl hG (Below.refl _ _)
      refine phi_cons ?_ ?_
      · intro a' w' hG hoff hon
        refine ⟨_, rfl, fun K hK => ?_⟩
        obtain ⟨v7, f7, p7⟩ := hon 7 (by kernel_rfl)
        have e74 := f7 74 rfl
        obtain rfl : v7 = .bool true := p7
        rw [wanted_off (u := false) rfl rfl rfl e74]
        exact hK _ _ rfl hG (Below.refl _ _)
      refine phi_cons ?_ ?_
      · intro a' w' hG hoff hon
        refine ⟨_, rfl, fun K hK => ?_⟩
        obtain ⟨v7, f7, p7⟩ := hon 7 (by kernel_rfl)
        have e74 := f7 74 rfl
        obtain rfl : v7 = .bool true := p7
        refine value_ (w1 := w') (v := .bool true) (by rfl) rfl ?_ ?_
        · go_simp
          try rfl
        · exact hK _ _ rfl hG (Below.refl _ _)
      refine phi_cons ?_ ?_
      · intro a' w' hG hoff hon
        refine ⟨_, rfl, fun K hK => ?_⟩
        obtain ⟨v15, f15, p15⟩ := hon 15 (by kernel_rfl)
        have e82 := f15 82 rfl
        obtain rfl : v15 = .bool true := p15
        refine value_ (w1 := w') (v := .bool true) (by rfl) rfl ?_ ?_
        · go_simp
          try rfl
        · exact hK _ _ rfl hG (Below.refl _ _)
      refine phi_cons ?_ ?_
      · intro a' w' hG hoff hon
        refine ⟨_, rfl, fun K hK => ?_⟩
        obtain ⟨v16, f16, p16⟩ := hon 16 (by kernel_rfl)
        have e83 := f16 83 rfl
        obtain rfl : v16 = .bool true := p16
        rw [wanted_off (u := false) rfl rfl rfl e83]
        exact hK _ _ rfl hG (Below.refl _ _)
      refine phi_cons ?_ ?_
      · intro a' w' hG hoff hon
        refine ⟨_, rfl, fun K hK => ?_⟩
        obtain ⟨v16, f16, p16⟩ := hon 16 (by kernel_rfl)
        have e83 := f16 83 rfl
        obtain rfl : v16 = .bool true := p16
        rw [wanted_off (u := false) rfl rfl rfl e83]
        exact hK _ _ rfl hG (Below.refl _ _)
      refine phi_cons ?_ ?_
      · intro a' w' hG hoff hon
        refine ⟨_, rfl, fun K hK => ?_⟩
        obtain ⟨v16, f16, p16⟩ := hon 16 (by kernel_rfl)
        have e83 := f16 83 rfl
        obtain rfl : v16 = .bool true := p16
        rw [wanted_off (u := false) rfl rfl rfl e83]
        exact hK _ _ rfl hG (Below.refl _ _)
      refine phi_cons ?_ ?_
      · intro a' w' hG hoff hon
        refine ⟨_, rfl, fun K hK => ?_⟩
        obtain ⟨v16, f16, p16⟩ := hon 16 (by kernel_rfl)
        have e83 := f16 83 rfl
        obtain rfl : v16 = .bool true := p16
        rw [wanted_off (u := false) rfl rfl rfl e83]
        exact hK _ _ rfl hG (Below.refl _ _)
      refine phi_cons ?_ ?_
      · intro a' w' hG hoff hon
        refine ⟨_, rfl, fun K hK => ?_⟩
        obtain ⟨v16, f16, p16⟩ := hon 16 (by kernel_rfl)
        have e83 := f16 83 rfl
        obtain rfl : v16 = .bool true := p16
        rw [wanted_off (u := false) rfl rfl rfl e83]
        exact hK _ _ rfl hG (Below.refl _ _)
      refine phi_cons ?_ ?_
      · intro a' w' hG hoff hon
        refine ⟨_, rfl, fun K hK => ?_⟩
        obtain ⟨v16, f16, p16⟩ := hon 16 (by kernel_rfl)
        have e83 := f16 83 rfl
        obtain rfl : v16 = .bool true := p16
        rw [wanted_off (u := false) rfl rfl rfl e83]
        exact hK _ _ rfl hG (Below.refl _ _)
      refine phi_cons ?_ ?_
      · intro a' w' hG hoff hon
        refine ⟨_, rfl, fun K hK => ?_⟩
        obtain ⟨v16, f16, p16⟩ := hon 16 (by kernel_rfl)
        have e83 := f16 83 rfl
        obtain rfl : v16 = .bool true := p16
        rw [wanted_off (u := false) rfl rfl rfl e83]
        exact hK _ _ rfl hG (Below.refl _ _)
      refine phi_cons ?_ ?_
      · intro a' w' hG hoff hon
        refine ⟨_, rfl, fun K hK => ?_⟩
        obtain ⟨v16, f16, p16⟩ := hon 16 (by kernel_rfl)
        have e83 := f16 83 rfl
        obtain rfl : v16 = .bool true := p16
        rw [wanted_off (u := false) rfl rfl rfl e83]
        exact hK _ _ rfl hG (Below.refl _ _)
      refine phi_cons ?_ ?_
      · intro a' w' hG hoff hon
        refine ⟨_, rfl, fun K hK => ?_⟩
        obtain ⟨v16, f16, p16⟩ := hon 16 (by kernel_rfl)
        have e83 := f16 83 rfl
        obtain rfl : v16 = .bool true := p16
        rw [wanted_off (u := false) rfl rfl rfl e83]
        exact hK _ _ rfl hG (Below.refl _ _)
      refine phi_cons ?_ ?_
      · intro a' w' hG hoff hon
        refine ⟨_, rfl, fun K hK => ?_⟩
        obtain ⟨v16, f16, p16⟩ := hon 16 (by kernel_rfl)
        have e83 := f16 83 rfl
        obtain rfl : v16 = .bool true := p16
        rw [wanted_off (u := false) rfl rfl rfl e83]
        exact hK _ _ rfl hG (Below.refl _ _)
      refine phi_cons ?_ ?_
      · intro a' w' hG hoff hon
        refine ⟨_, rfl, fun K hK => ?_⟩
        obtain ⟨v16, f16, p16⟩ := hon 16 (by kernel_rfl)
        have e83 := f16 83 rfl
        obtain rfl : v16 = .bool true := p16
        rw [wanted_off (u := false) rfl rfl rfl e83]
        exact hK _ _ rfl hG (Below.refl _ _)
      refine phi_cons ?_ ?_
      · intro a' w' hG hoff hon
        refine ⟨_, rfl, fun K hK => ?_⟩
        obtain ⟨v16, f16, p16⟩ := hon 16 (by kernel_rfl)
        have e83 := f16 83 rfl
        obtain rfl : v16 = .bool true := p16
        refine value_ (w1 := w') (v := .bool true) (by rfl) rfl ?_ ?_
        · go_simp
          try rfl
        · exact hK _ _ rfl hG (Below.refl _ _)
      refine phi_cons ?_ ?_
      · intro a' w' hG hoff hon
        refine ⟨_, rfl, fun K hK => ?_⟩
        obtain ⟨v28, f28, p28⟩ := hon 28 (by kernel_rfl)
        have e95 := f28 95 rfl
        obtain rfl : v28 = .bool true := p28
        refine value_ (w1 := w') (v := .bool true) (by rfl) rfl ?_ ?_
        · go_simp
          try rfl
        · exact hK _ _ rfl hG (Below.refl _ _)
      exact phi_nil
    · intro vals w' hG hF
      have hlast : vals 29 = .bool true := hF 29 (by decide)
      simp only [Phi.putAll, Phi.dstOf, List.getElem?_toArray, List.getElem?_cons_succ, List.getElem?_cons_zero, Option.bind_some, Act.put, List.setIfInBounds_toArray, List.set_cons_zero, List.set_cons_succ, hlast]
      have HG := Lib.hid hG
      clear hG hF hlast
      go_wp2_with fail
      go_ret
      exact ⟨rfl, HB6.out.trans (Below.mono HG.out HB6.out.size)⟩
  · have hbe : (b1.err != 3) = false := by simp [h]
    clear h
    refine start_ (n := 30) (S := fun w' => True) (ds := []) #[false, false, false, false, false, false, false, false, false, false, false, false, false, false, false, false, false, false, false, false, false, false, false, false, false, false, false, false, false, false] (by kernel_rfl) rfl rfl trivial (fun hHeld => ?_); refine with_tabW frn.tab8 frn.bits8 (fun HT_ HW_ => ?_)
    refine phi_ 96 [0, 1, 2, 3, 4, 5, 6, 7, 8, 9, 10, 11, 12, 13, 14, 15, 16, 17, 18, 19, 20, 21, 22, 23, 24, 25, 26, 27, 28, 29] (fun w' => Below w6.heap.size w6 w') (fun w1 w2 => Below w1.heap.size w1 w2) (fun j v _ => v = ([.pointer (some ⟨g1 + 1, 0, none⟩), .pointer (some ⟨g1 + 1, 0, none⟩), .pointer (some ⟨g1 + 1, 0, none⟩), .pointer (some ⟨g1 + 1, 0, none⟩), .agg #[.int .i64 b1.err, .int .i64 b1.pl], .int .i64 b1.err, .bool false, .bool false, .pointer (some ⟨g1 + 1, 0, none⟩), .pointer (some ⟨g1 + 1, 0, none⟩), .pointer (some ⟨g1 + 1, 0, none⟩), .pointer (some ⟨g1 + 1, 0, none⟩), .int .i64 b1.at_, .int .i64 n, .bool true, .bool true, .bool true, undef, undef, undef, undef, undef, undef, undef, undef, undef, undef, undef, .bool true, .bool true] : List Value).getD j undef) HT_.out HW_.out (by kernel_rfl) (by kernel_rfl) (by kernel_rfl) (Nat.le_refl 96) HBD.out (fun j v w1 w2 h1 h2 => h2) ?_ ?_
    · refine phi_cons ?_ ?_
      · intro a' w' hG hoff hon
        refine ⟨_, rfl, fun K hK => ?_⟩
        have e5 : a'.tmps[5]? = some (.pointer (some ⟨g1 + 1, 0, none⟩)) := (hoff 5 (by kernel_rfl)).trans rfl
        refine value_ (w1 := w') (v := .pointer (some ⟨g1 + 1, 0, none⟩)) (by rfl) rfl ?_ ?_
        · go_simp
          try rfl
        · exact hK _ _ rfl hG (Below.refl _ _)
      refine phi_cons ?_ ?_
      · intro a' w' hG hoff hon
        refine ⟨_, rfl, fun K hK => ?_⟩
        obtain ⟨v0, f0, p0⟩ := hon 0 (by kernel_rfl)
        have e67 := f0 67 rfl
        obtain rfl : v0 = .pointer (some ⟨g1 + 1, 0, none⟩) := p0
        refine value_ (w1 := w') (v := .pointer (some ⟨g1 + 1, 0, none⟩)) (by rfl) rfl ?_ ?_
        · go_simp
          try rfl
        · exact hK _ _ rfl hG (Below.refl _ _)
      refine phi_cons ?_ ?_
      · intro a' w' hG hoff hon
        refine ⟨_, rfl, fun K hK => ?_⟩
        obtain ⟨v1, f1, p1⟩ := hon 1 (by kernel_rfl)
        have e68 := f1 68 rfl
        obtain rfl : v1 = .pointer (some ⟨g1 + 1, 0, none⟩) := p1
        refine value_ (w1 := w') (v := .pointer (some ⟨g1 + 1, 0, none⟩)) (by rfl) rfl ?_ ?_
        · go_simp
          try rfl
        · exact hK _ _ rfl hG (Below.refl _ _)
      refine phi_cons ?_ ?_
      · intro a' w' hG hoff hon
        refine ⟨_, rfl, fun K hK => ?_⟩
        obtain ⟨v2, f2, p2⟩ := hon 2 (by kernel_rfl)
        have e69 := f2 69 rfl
        obtain rfl : v2 = .pointer (some ⟨g1 + 1, 0, none⟩) := p2
        refine value_ (w1 := w') (v := .pointer (some ⟨g1 + 1, 0, none⟩)) (by rfl) rfl ?_ ?_
        · go_simp
          try rfl
        · exact hK _ _ rfl hG (Below.refl _ _)
      refine phi_cons ?_ ?_
      · intro a' w' hG hoff hon
        refine ⟨_, rfl, fun K hK => ?_⟩
        obtain ⟨v3, f3, p3⟩ := hon 3 (by kernel_rfl)
        have e70 := f3 70 rfl
        obtain rfl : v3 = .pointer (some ⟨g1 + 1, 0, none⟩) := p3
        refine goes_ Try.func17 (by kernel_rfl) rfl #[.pointer (some ⟨g1 + 1, 0, none⟩)] (by rfl) rfl rfl (by simp [Act.eval, e70]) ?_
        refine (HX1.out w' hG).mono ?_
        rintro e w2 ⟨rfl, rfl⟩
        exact ⟨_, rfl, hK _ _ rfl (hG.alloc hG.size _) ((Below.refl _ _).alloc (Nat.le_refl _) _)⟩
      refine phi_cons ?_ ?_
      · intro a' w' hG hoff hon
        refine ⟨_, rfl, fun K hK => ?_⟩
        obtain ⟨v4, f4, p4⟩ := hon 4 (by kernel_rfl)
        have e71 := f4 71 rfl
        obtain rfl : v4 = .agg #[.int .i64 b1.err, .int .i64 b1.pl] := p4
        refine value_ (w1 := w') (v := .int .i64 b1.err) (by rfl) rfl ?_ ?_
        · go_simp
          try rfl
        · exact hK _ _ rfl hG (Below.refl _ _)
      refine phi_cons ?_ ?_
      · intro a' w' hG hoff hon
        refine ⟨_, rfl, fun K hK => ?_⟩
        obtain ⟨v5, f5, p5⟩ := hon 5 (by kernel_rfl)
        have e72 := f5 72 rfl
        obtain rfl : v5 = .int .i64 b1.err := p5
        refine value_ (w1 := w') (v := .bool false) (by rfl) rfl ?_ ?_
        · go_simp
          try rfl
        · exact hK _ _ rfl hG (Below.refl _ _)
      refine phi_cons ?_ ?_
      · intro a' w' hG hoff hon
        refine ⟨_, rfl, fun K hK => ?_⟩
        obtain ⟨v6, f6, p6⟩ := hon 6 (by kernel_rfl)
        have e73 := f6 73 rfl
        obtain rfl : v6 = .bool false := p6
        refine value_ (w1 := w') (v := .bool false) (by rfl) rfl ?_ ?_
        · go_simp
          try rfl
        · exact hK _ _ rfl hG (Below.refl _ _)
      refine phi_cons ?_ ?_
      · intro a' w' hG hoff hon
        refine ⟨_, rfl, fun K hK => ?_⟩
        obtain ⟨v7, f7, p7⟩ := hon 7 (by kernel_rfl)
        have e74 := f7 74 rfl
        obtain rfl : v7 = .bool false := p7
        have e5 : a'.tmps[5]? = some (.pointer (some ⟨g1 + 1, 0, none⟩)) := (hoff 5 (by kernel_rfl)).trans rfl
        refine value_ (w1 := w') (v := .pointer (some ⟨g1 + 1, 0, none⟩)) (wanted_on (u := false) rfl rfl rfl e74) rfl ?_ ?_
        · go_simp
          try rfl
        · exact hK _ _ rfl hG (Below.refl _ _)
      refine phi_cons ?_ ?_
      · intro a' w' hG hoff hon
        refine ⟨_, rfl, fun K hK => ?_⟩
        obtain ⟨v7, f7, p7⟩ := hon 7 (by kernel_rfl)
        have e74 := f7 74 rfl
        obtain rfl : v7 = .bool false := p7
        obtain ⟨v8, f8, p8⟩ := hon 8 (by kernel_rfl)
        have e75 := f8 75 rfl
        obtain rfl : v8 = .pointer (some ⟨g1 + 1, 0, none⟩) := p8
        refine value_ (w1 := w') (v := .pointer (some ⟨g1 + 1, 0, none⟩)) (wanted_on (u := false) rfl rfl rfl e74) rfl ?_ ?_
        · go_simp
          try rfl
        · exact hK _ _ rfl hG (Below.refl _ _)
      refine phi_cons ?_ ?_
      · intro a' w' hG hoff hon
        refine ⟨_, rfl, fun K hK => ?_⟩
        obtain ⟨v7, f7, p7⟩ := hon 7 (by kernel_rfl)
        have e74 := f7 74 rfl
        obtain rfl : v7 = .bool false := p7
        obtain ⟨v9, f9, p9⟩ := hon 9 (by kernel_rfl)
        have e76 := f9 76 rfl
        obtain rfl : v9 = .pointer (some ⟨g1 + 1, 0, none⟩) := p9
        refine value_ (w1 := w') (v := .pointer (some ⟨g1 + 1, 0, none⟩)) (wanted_on (u := false) rfl rfl rfl e74) rfl ?_ ?_
        · go_simp
          try rfl
        · exact hK _ _ rfl hG (Below.refl _ _)
      refine phi_cons ?_ ?_
      · intro a' w' hG hoff hon
        refine ⟨_, rfl, fun K hK => ?_⟩
        obtain ⟨v7, f7, p7⟩ := hon 7 (by kernel_rfl)
        have e74 := f7 74 rfl
        obtain rfl : v7 = .bool false := p7
        obtain ⟨v10, f10, p10⟩ := hon 10 (by kernel_rfl)
        have e77 := f10 77 rfl
        obtain rfl : v10 = .pointer (some ⟨g1 + 1, 0, none⟩) := p10
        refine value_ (w1 := w') (v := .pointer (some ⟨g1 + 1, 0, none⟩)) (wanted_on (u := false) rfl rfl rfl e74) rfl ?_ ?_
        · go_simp
          try rfl
        · exact hK _ _ rfl hG (Below.refl _ _)
      refine phi_cons ?_ ?_
      · intro a' w' hG hoff hon
        refine ⟨_, rfl, fun K hK => ?_⟩
        obtain ⟨v7, f7, p7⟩ := hon 7 (by kernel_rfl)
        have e74 := f7 74 rfl
        obtain rfl : v7 = .bool false := p7
        obtain ⟨v11, f11, p11⟩ := hon 11 (by kernel_rfl)
        have e78 := f11 78 rfl
        obtain rfl : v11 = .pointer (some ⟨g1 + 1, 0, none⟩) := p11
        refine goes_ Try.func20 (by kernel_rfl) rfl #[.pointer (some ⟨g1 + 1, 0, none⟩)] (wanted_on (u := false) rfl rfl rfl e74) rfl rfl (by simp [Act.eval, e78]) ?_
        refine (HX3.out w' hG).mono ?_
        rintro e w2 ⟨rfl, rfl⟩
        exact ⟨_, rfl, hK _ _ rfl hG (Below.refl _ _)⟩
      refine phi_cons ?_ ?_
      · intro a' w' hG hoff hon
        refine ⟨_, rfl, fun K hK => ?_⟩
        obtain ⟨v7, f7, p7⟩ := hon 7 (by kernel_rfl)
        have e74 := f7 74 rfl
        obtain rfl : v7 = .bool false := p7
        have e1 : a'.tmps[1]? = some (.int .i64 n) := (hoff 1 (by kernel_rfl)).trans rfl
        refine value_ (w1 := w') (v := .int .i64 n) (wanted_on (u := false) rfl rfl rfl e74) rfl ?_ ?_
        · go_simp
          try rfl
        · exact hK _ _ rfl hG (Below.refl _ _)
      refine phi_cons ?_ ?_
      · intro a' w' hG hoff hon
        refine ⟨_, rfl, fun K hK => ?_⟩
        obtain ⟨v7, f7, p7⟩ := hon 7 (by kernel_rfl)
        have e74 := f7 74 rfl
        obtain rfl : v7 = .bool false := p7
        obtain ⟨v12, f12, p12⟩ := hon 12 (by kernel_rfl)
        have e79 := f12 79 rfl
        obtain rfl : v12 = .int .i64 b1.at_ := p12
        obtain ⟨v13, f13, p13⟩ := hon 13 (by kernel_rfl)
        have e80 := f13 80 rfl
        obtain rfl : v13 = .int .i64 n := p13
        refine value_ (w1 := w') (v := .bool true) (wanted_on (u := false) rfl rfl rfl e74) rfl ?_ ?_
        · go_simp
          try rfl
        · exact hK _ _ rfl hG (Below.refl _ _)
      refine phi_cons ?_ ?_
      · intro a' w' hG hoff hon
        refine ⟨_, rfl, fun K hK => ?_⟩
        obtain ⟨v7, f7, p7⟩ := hon 7 (by kernel_rfl)
        have e74 := f7 74 rfl
        obtain rfl : v7 = .bool false := p7
        obtain ⟨v14, f14, p14⟩ := hon 14 (by kernel_rfl)
        have e81 := f14 81 rfl
        obtain rfl : v14 = .bool true := p14
        refine value_ (w1 := w') (v := .bool true) (by rfl) rfl ?_ ?_
        · go_simp
          try rfl
        · exact hK _ _ rfl hG (Below.refl _ _)
      refine phi_cons ?_ ?_
      · intro a' w' hG hoff hon
        refine ⟨_, rfl, fun K hK => ?_⟩
        obtain ⟨v15, f15, p15⟩ := hon 15 (by kernel_rfl)
        have e82 := f15 82 rfl
        obtain rfl : v15 = .bool true := p15
        refine value_ (w1 := w') (v := .bool true) (by rfl) rfl ?_ ?_
        · go_simp
          try rfl
        · exact hK _ _ rfl hG (Below.refl _ _)
      refine phi_cons ?_ ?_
      · intro a' w' hG hoff hon
        refine ⟨_, rfl, fun K hK => ?_⟩
        obtain ⟨v16, f16, p16⟩ := hon 16 (by kernel_rfl)
        have e83 := f16 83 rfl
        obtain rfl : v16 = .bool true := p16
        rw [wanted_off (u := false) rfl rfl rfl e83]
        exact hK _ _ rfl hG (Below.refl _ _)
      refine phi_cons ?_ ?_
      · intro a' w' hG hoff hon
        refine ⟨_, rfl, fun K hK => ?_⟩
        obtain ⟨v16, f16, p16⟩ := hon 16 (by kernel_rfl)
        have e83 := f16 83 rfl
        obtain rfl : v16 = .bool true := p16
        rw [wanted_off (u := false) rfl rfl rfl e83]
        exact hK _ _ rfl hG (Below.refl _ _)
      refine phi_cons ?_ ?_
      · intro a' w' hG hoff hon
        refine ⟨_, rfl, fun K hK => ?_⟩
        obtain ⟨v16, f16, p16⟩ := hon 16 (by kernel_rfl)
        have e83 := f16 83 rfl
        obtain rfl : v16 = .bool true := p16
        rw [wanted_off (u := false) rfl rfl rfl e83]
        exact hK _ _ rfl hG (Below.refl _ _)
      refine phi_cons ?_ ?_
      · intro a' w' hG hoff hon
        refine ⟨_, rfl, fun K hK => ?_⟩
        obtain ⟨v16, f16, p16⟩ := hon 16 (by kernel_rfl)
        have e83 := f16 83 rfl
        obtain rfl : v16 = .bool true := p16
        rw [wanted_off (u := false) rfl rfl rfl e83]
        exact hK _ _ rfl hG (Below.refl _ _)
      refine phi_cons ?_ ?_
      · intro a' w' hG hoff hon
        refine ⟨_, rfl, fun K hK => ?_⟩
        obtain ⟨v16, f16, p16⟩ := hon 16 (by kernel_rfl)
        have e83 := f16 83 rfl
        obtain rfl : v16 = .bool true := p16
        rw [wanted_off (u := false) rfl rfl rfl e83]
        exact hK _ _ rfl hG (Below.refl _ _)
      refine phi_cons ?_ ?_
      · intro a' w' hG hoff hon
        refine ⟨_, rfl, fun K hK => ?_⟩
        obtain ⟨v16, f16, p16⟩ := hon 16 (by kernel_rfl)
        have e83 := f16 83 rfl
        obtain rfl : v16 = .bool true := p16
        rw [wanted_off (u := false) rfl rfl rfl e83]
        exact hK _ _ rfl hG (Below.refl _ _)
      refine phi_cons ?_ ?_
      · intro a' w' hG hoff hon
        refine ⟨_, rfl, fun K hK => ?_⟩
        obtain ⟨v16, f16, p16⟩ := hon 16 (by kernel_rfl)
        have e83 := f16 83 rfl
        obtain rfl : v16 = .bool true := p16
        rw [wanted_off (u := false) rfl rfl rfl e83]
        exact hK _ _ rfl hG (Below.refl _ _)
      refine phi_cons ?_ ?_
      · intro a' w' hG hoff hon
        refine ⟨_, rfl, fun K hK => ?_⟩
        obtain ⟨v16, f16, p16⟩ := hon 16 (by kernel_rfl)
        have e83 := f16 83 rfl
        obtain rfl : v16 = .bool true := p16
        rw [wanted_off (u := false) rfl rfl rfl e83]
        exact hK _ _ rfl hG (Below.refl _ _)
      refine phi_cons ?_ ?_
      · intro a' w' hG hoff hon
        refine ⟨_, rfl, fun K hK => ?_⟩
        obtain ⟨v16, f16, p16⟩ := hon 16 (by kernel_rfl)
        have e83 := f16 83 rfl
        obtain rfl : v16 = .bool true := p16
        rw [wanted_off (u := false) rfl rfl rfl e83]
        exact hK _ _ rfl hG (Below.refl _ _)
      refine phi_cons ?_ ?_
      · intro a' w' hG hoff hon
        refine ⟨_, rfl, fun K hK => ?_⟩
        obtain ⟨v16, f16, p16⟩ := hon 16 (by kernel_rfl)
        have e83 := f16 83 rfl
        obtain rfl : v16 = .bool true := p16
        rw [wanted_off (u := false) rfl rfl rfl e83]
        exact hK _ _ rfl hG (Below.refl _ _)
      refine phi_cons ?_ ?_
      · intro a' w' hG hoff hon
        refine ⟨_, rfl, fun K hK => ?_⟩
        obtain ⟨v16, f16, p16⟩ := hon 16 (by kernel_rfl)
        have e83 := f16 83 rfl
        obtain rfl : v16 = .bool true := p16
        rw [wanted_off (u := false) rfl rfl rfl e83]
        exact hK _ _ rfl hG (Below.refl _ _)
      refine phi_cons ?_ ?_
      · intro a' w' hG hoff hon
        refine ⟨_, rfl, fun K hK => ?_⟩
        obtain ⟨v16, f16, p16⟩ := hon 16 (by kernel_rfl)
        have e83 := f16 83 rfl
        obtain rfl : v16 = .bool true := p16
        refine value_ (w1 := w') (v := .bool true) (by rfl) rfl ?_ ?_
        · go_simp
          try rfl
        · exact hK _ _ rfl hG (Below.refl _ _)
      refine phi_cons ?_ ?_
      · intro a' w' hG hoff hon
        refine ⟨_, rfl, fun K hK => ?_⟩
        obtain ⟨v28, f28, p28⟩ := hon 28 (by kernel_rfl)
        have e95 := f28 95 rfl
        obtain rfl : v28 = .bool true := p28
        refine value_ (w1 := w') (v := .bool true) (by rfl) rfl ?_ ?_
        · go_simp
          try rfl
        · exact hK _ _ rfl hG (Below.refl _ _)
      exact phi_nil
    · intro vals w' hG hF
      have hlast : vals 29 = .bool true := hF 29 (by decide)
      simp only [Phi.putAll, Phi.dstOf, List.getElem?_toArray, List.getElem?_cons_succ, List.getElem?_cons_zero, Option.bind_some, Act.put, List.setIfInBounds_toArray, List.set_cons_zero, List.set_cons_succ, hlast]
      have HG := Lib.hid hG
      clear hG hF hlast
      go_wp2_with fail
      go_ret
      exact ⟨rfl, HB6.out.trans (Below.mono HG.out HB6.out.size)⟩
  · have hbe : (b1.err != 3) = false := by simp [h]
    have heq := fun w => eql_fail w b2.err b2.pl b1.err b1.pl
    have hq : ((b2.err == b1.err) && (b2.pl == b1.pl)) = true := by rw [h2, h3]; simp
    simp only [hq] at heq
    clear h h2 h3 hq
    refine start_ (n := 30) (S := fun w' => True) (ds := []) #[false, false, false, false, false, false, false, false, false, false, false, false, false, false, false, false, false, false, false, false, false, false, false, false, false, false, false, false, false, false] (by kernel_rfl) rfl rfl trivial (fun hHeld => ?_); refine with_tabW frn.tab8 frn.bits8 (fun HT_ HW_ => ?_)
    refine phi_ 96 [0, 1, 2, 3, 4, 5, 6, 7, 8, 9, 10, 11, 12, 13, 14, 15, 16, 17, 18, 19, 20, 21, 22, 23, 24, 25, 26, 27, 28, 29] (fun w' => Below w6.heap.size w6 w') (fun w1 w2 => Below w1.heap.size w1 w2) (fun j v _ => v = ([.pointer (some ⟨g1 + 1, 0, none⟩), .pointer (some ⟨g1 + 1, 0, none⟩), .pointer (some ⟨g1 + 1, 0, none⟩), .pointer (some ⟨g1 + 1, 0, none⟩), .agg #[.int .i64 b1.err, .int .i64 b1.pl], .int .i64 b1.err, .bool false, .bool false, .pointer (some ⟨g1 + 1, 0, none⟩), .pointer (some ⟨g1 + 1, 0, none⟩), .pointer (some ⟨g1 + 1, 0, none⟩), .pointer (some ⟨g1 + 1, 0, none⟩), .int .i64 b1.at_, .int .i64 n, .bool false, .bool false, .bool false, .pointer (some ⟨g2 + 1, 0, none⟩), .pointer (some ⟨g2 + 1, 0, none⟩), .pointer (some ⟨g2 + 1, 0, none⟩), .pointer (some ⟨g2 + 1, 0, none⟩), .agg #[.int .i64 b2.err, .int .i64 b2.pl], .pointer (some ⟨g1 + 1, 0, none⟩), .pointer (some ⟨g1 + 1, 0, none⟩), .pointer (some ⟨g1 + 1, 0, none⟩), .pointer (some ⟨g1 + 1, 0, none⟩), .agg #[.int .i64 b1.err, .int .i64 b1.pl], .bool true, .bool true, .bool true] : List Value).getD j undef) HT_.out HW_.out (by kernel_rfl) (by kernel_rfl) (by kernel_rfl) (Nat.le_refl 96) HBD.out (fun j v w1 w2 h1 h2 => h2) ?_ ?_
    · refine phi_cons ?_ ?_
      · intro a' w' hG hoff hon
        refine ⟨_, rfl, fun K hK => ?_⟩
        have e5 : a'.tmps[5]? = some (.pointer (some ⟨g1 + 1, 0, none⟩)) := (hoff 5 (by kernel_rfl)).trans rfl
        refine value_ (w1 := w') (v := .pointer (some ⟨g1 + 1, 0, none⟩)) (by rfl) rfl ?_ ?_
        · go_simp
          try rfl
        · exact hK _ _ rfl hG (Below.refl _ _)
      refine phi_cons ?_ ?_
      · intro a' w' hG hoff hon
        refine ⟨_, rfl, fun K hK => ?_⟩
        obtain ⟨v0, f0, p0⟩ := hon 0 (by kernel_rfl)
        have e67 := f0 67 rfl
        obtain rfl : v0 = .pointer (some ⟨g1 + 1, 0, none⟩) := p0
        refine value_ (w1 := w') (v := .pointer (some ⟨g1 + 1, 0, none⟩)) (by rfl) rfl ?_ ?_
        · go_simp
          try rfl
        · exact hK _ _ rfl hG (Below.refl _ _)
      refine phi_cons ?_ ?_
      · intro a' w' hG hoff hon
        refine ⟨_, rfl, fun K hK => ?_⟩
        obtain ⟨v1, f1, p1⟩ := hon 1 (by kernel_rfl)
        have e68 := f1 68 rfl
        obtain rfl : v1 = .pointer (some ⟨g1 + 1, 0, none⟩) := p1
        refine value_ (w1 := w') (v := .pointer (some ⟨g1 + 1, 0, none⟩)) (by rfl) rfl ?_ ?_
        · go_simp
          try rfl
        · exact hK _ _ rfl hG (Below.refl _ _)
      refine phi_cons ?_ ?_
      · intro a' w' hG hoff hon
        refine ⟨_, rfl, fun K hK => ?_⟩
        obtain ⟨v2, f2, p2⟩ := hon 2 (by kernel_rfl)
        have e69 := f2 69 rfl
        obtain rfl : v2 = .pointer (some ⟨g1 + 1, 0, none⟩) := p2
        refine value_ (w1 := w') (v := .pointer (some ⟨g1 + 1, 0, none⟩)) (by rfl) rfl ?_ ?_
        · go_simp
          try rfl
        · exact hK _ _ rfl hG (Below.refl _ _)
      refine phi_cons ?_ ?_
      · intro a' w' hG hoff hon
        refine ⟨_, rfl, fun K hK => ?_⟩
        obtain ⟨v3, f3, p3⟩ := hon 3 (by kernel_rfl)
        have e70 := f3 70 rfl
        obtain rfl : v3 = .pointer (some ⟨g1 + 1, 0, none⟩) := p3
        refine goes_ Try.func17 (by kernel_rfl) rfl #[.pointer (some ⟨g1 + 1, 0, none⟩)] (by rfl) rfl rfl (by simp [Act.eval, e70]) ?_
        refine (HX1.out w' hG).mono ?_
        rintro e w2 ⟨rfl, rfl⟩
        exact ⟨_, rfl, hK _ _ rfl (hG.alloc hG.size _) ((Below.refl _ _).alloc (Nat.le_refl _) _)⟩
      refine phi_cons ?_ ?_
      · intro a' w' hG hoff hon
        refine ⟨_, rfl, fun K hK => ?_⟩
        obtain ⟨v4, f4, p4⟩ := hon 4 (by kernel_rfl)
        have e71 := f4 71 rfl
        obtain rfl : v4 = .agg #[.int .i64 b1.err, .int .i64 b1.pl] := p4
        refine value_ (w1 := w') (v := .int .i64 b1.err) (by rfl) rfl ?_ ?_
        · go_simp
          try rfl
        · exact hK _ _ rfl hG (Below.refl _ _)
      refine phi_cons ?_ ?_
      · intro a' w' hG hoff hon
        refine ⟨_, rfl, fun K hK => ?_⟩
        obtain ⟨v5, f5, p5⟩ := hon 5 (by kernel_rfl)
        have e72 := f5 72 rfl
        obtain rfl : v5 = .int .i64 b1.err := p5
        refine value_ (w1 := w') (v := .bool false) (by rfl) rfl ?_ ?_
        · go_simp
          try rfl
        · exact hK _ _ rfl hG (Below.refl _ _)
      refine phi_cons ?_ ?_
      · intro a' w' hG hoff hon
        refine ⟨_, rfl, fun K hK => ?_⟩
        obtain ⟨v6, f6, p6⟩ := hon 6 (by kernel_rfl)
        have e73 := f6 73 rfl
        obtain rfl : v6 = .bool false := p6
        refine value_ (w1 := w') (v := .bool false) (by rfl) rfl ?_ ?_
        · go_simp
          try rfl
        · exact hK _ _ rfl hG (Below.refl _ _)
      refine phi_cons ?_ ?_
      · intro a' w' hG hoff hon
        refine ⟨_, rfl, fun K hK => ?_⟩
        obtain ⟨v7, f7, p7⟩ := hon 7 (by kernel_rfl)
        have e74 := f7 74 rfl
        obtain rfl : v7 = .bool false := p7
        have e5 : a'.tmps[5]? = some (.pointer (some ⟨g1 + 1, 0, none⟩)) := (hoff 5 (by kernel_rfl)).trans rfl
        refine value_ (w1 := w') (v := .pointer (some ⟨g1 + 1, 0, none⟩)) (wanted_on (u := false) rfl rfl rfl e74) rfl ?_ ?_
        · go_simp
          try rfl
        · exact hK _ _ rfl hG (Below.refl _ _)
      refine phi_cons ?_ ?_
      · intro a' w' hG hoff hon
        refine ⟨_, rfl, fun K hK => ?_⟩
        obtain ⟨v7, f7, p7⟩ := hon 7 (by kernel_rfl)
        have e74 := f7 74 rfl
        obtain rfl : v7 = .bool false := p7
        obtain ⟨v8, f8, p8⟩ := hon 8 (by kernel_rfl)
        have e75 := f8 75 rfl
        obtain rfl : v8 = .pointer (some ⟨g1 + 1, 0, none⟩) := p8
        refine value_ (w1 := w') (v := .pointer (some ⟨g1 + 1, 0, none⟩)) (wanted_on (u := false) rfl rfl rfl e74) rfl ?_ ?_
        · go_simp
          try rfl
        · exact hK _ _ rfl hG (Below.refl _ _)
      refine phi_cons ?_ ?_
      · intro a' w' hG hoff hon
        refine ⟨_, rfl, fun K hK => ?_⟩
        obtain ⟨v7, f7, p7⟩ := hon 7 (by kernel_rfl)
        have e74 := f7 74 rfl
        obtain rfl : v7 = .bool false := p7
        obtain ⟨v9, f9, p9⟩ := hon 9 (by kernel_rfl)
        have e76 := f9 76 rfl
        obtain rfl : v9 = .pointer (some ⟨g1 + 1, 0, none⟩) := p9
        refine value_ (w1 := w') (v := .pointer (some ⟨g1 + 1, 0, none⟩)) (wanted_on (u := false) rfl rfl rfl e74) rfl ?_ ?_
        · go_simp
          try rfl
        · exact hK _ _ rfl hG (Below.refl _ _)
      refine phi_cons ?_ ?_
      · intro a' w' hG hoff hon
        refine ⟨_, rfl, fun K hK => ?_⟩
        obtain ⟨v7, f7, p7⟩ := hon 7 (by kernel_rfl)
        have e74 := f7 74 rfl
        obtain rfl : v7 = .bool false := p7
        obtain ⟨v10, f10, p10⟩ := hon 10 (by kernel_rfl)
        have e77 := f10 77 rfl
        obtain rfl : v10 = .pointer (some ⟨g1 + 1, 0, none⟩) := p10
        refine value_ (w1 := w') (v := .pointer (some ⟨g1 + 1, 0, none⟩)) (wanted_on (u := false) rfl rfl rfl e74) rfl ?_ ?_
        · go_simp
          try rfl
        · exact hK _ _ rfl hG (Below.refl _ _)
      refine phi_cons ?_ ?_
      · intro a' w' hG hoff hon
        refine ⟨_, rfl, fun K hK => ?_⟩
        obtain ⟨v7, f7, p7⟩ := hon 7 (by kernel_rfl)
        have e74 := f7 74 rfl
        obtain rfl : v7 = .bool false := p7
        obtain ⟨v11, f11, p11⟩ := hon 11 (by kernel_rfl)
        have e78 := f11 78 rfl
        obtain rfl : v11 = .pointer (some ⟨g1 + 1, 0, none⟩) := p11
        refine goes_ Try.func20 (by kernel_rfl) rfl #[.pointer (some ⟨g1 + 1, 0, none⟩)] (wanted_on (u := false) rfl rfl rfl e74) rfl rfl (by simp [Act.eval, e78]) ?_
        refine (HX3.out w' hG).mono ?_
        rintro e w2 ⟨rfl, rfl⟩
        exact ⟨_, rfl, hK _ _ rfl hG (Below.refl _ _)⟩
      refine phi_cons ?_ ?_
      · intro a' w' hG hoff hon
        refine ⟨_, rfl, fun K hK => ?_⟩
        obtain ⟨v7, f7, p7⟩ := hon 7 (by kernel_rfl)
        have e74 := f7 74 rfl
        obtain rfl : v7 = .bool false := p7
        have e1 : a'.tmps[1]? = some (.int .i64 n) := (hoff 1 (by kernel_rfl)).trans rfl
        refine value_ (w1 := w') (v := .int .i64 n) (wanted_on (u := false) rfl rfl rfl e74) rfl ?_ ?_
        · go_simp
          try rfl
        · exact hK _ _ rfl hG (Below.refl _ _)
      refine phi_cons ?_ ?_
      · intro a' w' hG hoff hon
        refine ⟨_, rfl, fun K hK => ?_⟩
        obtain ⟨v7, f7, p7⟩ := hon 7 (by kernel_rfl)
        have e74 := f7 74 rfl
        obtain rfl : v7 = .bool false := p7
        obtain ⟨v12, f12, p12⟩ := hon 12 (by kernel_rfl)
        have e79 := f12 79 rfl
        obtain rfl : v12 = .int .i64 b1.at_ := p12
        obtain ⟨v13, f13, p13⟩ := hon 13 (by kernel_rfl)
        have e80 := f13 80 rfl
        obtain rfl : v13 = .int .i64 n := p13
        refine value_ (w1 := w') (v := .bool false) (wanted_on (u := false) rfl rfl rfl e74) rfl ?_ ?_
        · go_simp
          try rfl
        · exact hK _ _ rfl hG (Below.refl _ _)
      refine phi_cons ?_ ?_
      · intro a' w' hG hoff hon
        refine ⟨_, rfl, fun K hK => ?_⟩
        obtain ⟨v7, f7, p7⟩ := hon 7 (by kernel_rfl)
        have e74 := f7 74 rfl
        obtain rfl : v7 = .bool false := p7
        obtain ⟨v14, f14, p14⟩ := hon 14 (by kernel_rfl)
        have e81 := f14 81 rfl
        obtain rfl : v14 = .bool false := p14
        refine value_ (w1 := w') (v := .bool false) (by rfl) rfl ?_ ?_
        · go_simp
          try rfl
        · exact hK _ _ rfl hG (Below.refl _ _)
      refine phi_cons ?_ ?_
      · intro a' w' hG hoff hon
        refine ⟨_, rfl, fun K hK => ?_⟩
        obtain ⟨v15, f15, p15⟩ := hon 15 (by kernel_rfl)
        have e82 := f15 82 rfl
        obtain rfl : v15 = .bool false := p15
        refine value_ (w1 := w') (v := .bool false) (by rfl) rfl ?_ ?_
        · go_simp
          try rfl
        · exact hK _ _ rfl hG (Below.refl _ _)
      refine phi_cons ?_ ?_
      · intro a' w' hG hoff hon
        refine ⟨_, rfl, fun K hK => ?_⟩
        obtain ⟨v16, f16, p16⟩ := hon 16 (by kernel_rfl)
        have e83 := f16 83 rfl
        obtain rfl : v16 = .bool false := p16
        have e6 : a'.tmps[6]? = some (.pointer (some ⟨g2 + 1, 0, none⟩)) := (hoff 6 (by kernel_rfl)).trans rfl
        refine value_ (w1 := w') (v := .pointer (some ⟨g2 + 1, 0, none⟩)) (wanted_on (u := false) rfl rfl rfl e83) rfl ?_ ?_
        · go_simp
          try rfl
        · exact hK _ _ rfl hG (Below.refl _ _)
      refine phi_cons ?_ ?_
      · intro a' w' hG hoff hon
        refine ⟨_, rfl, fun K hK => ?_⟩
        obtain ⟨v16, f16, p16⟩ := hon 16 (by kernel_rfl)
        have e83 := f16 83 rfl
        obtain rfl : v16 = .bool false := p16
        obtain ⟨v17, f17, p17⟩ := hon 17 (by kernel_rfl)
        have e84 := f17 84 rfl
        obtain rfl : v17 = .pointer (some ⟨g2 + 1, 0, none⟩) := p17
        refine value_ (w1 := w') (v := .pointer (some ⟨g2 + 1, 0, none⟩)) (wanted_on (u := false) rfl rfl rfl e83) rfl ?_ ?_
        · go_simp
          try rfl
        · exact hK _ _ rfl hG (Below.refl _ _)
      refine phi_cons ?_ ?_
      · intro a' w' hG hoff hon
        refine ⟨_, rfl, fun K hK => ?_⟩
        obtain ⟨v16, f16, p16⟩ := hon 16 (by kernel_rfl)
        have e83 := f16 83 rfl
        obtain rfl : v16 = .bool false := p16
        obtain ⟨v18, f18, p18⟩ := hon 18 (by kernel_rfl)
        have e85 := f18 85 rfl
        obtain rfl : v18 = .pointer (some ⟨g2 + 1, 0, none⟩) := p18
        refine value_ (w1 := w') (v := .pointer (some ⟨g2 + 1, 0, none⟩)) (wanted_on (u := false) rfl rfl rfl e83) rfl ?_ ?_
        · go_simp
          try rfl
        · exact hK _ _ rfl hG (Below.refl _ _)
      refine phi_cons ?_ ?_
      · intro a' w' hG hoff hon
        refine ⟨_, rfl, fun K hK => ?_⟩
        obtain ⟨v16, f16, p16⟩ := hon 16 (by kernel_rfl)
        have e83 := f16 83 rfl
        obtain rfl : v16 = .bool false := p16
        obtain ⟨v19, f19, p19⟩ := hon 19 (by kernel_rfl)
        have e86 := f19 86 rfl
        obtain rfl : v19 = .pointer (some ⟨g2 + 1, 0, none⟩) := p19
        refine value_ (w1 := w') (v := .pointer (some ⟨g2 + 1, 0, none⟩)) (wanted_on (u := false) rfl rfl rfl e83) rfl ?_ ?_
        · go_simp
          try rfl
        · exact hK _ _ rfl hG (Below.refl _ _)
      refine phi_cons ?_ ?_
      · intro a' w' hG hoff hon
        refine ⟨_, rfl, fun K hK => ?_⟩
        obtain ⟨v16, f16, p16⟩ := hon 16 (by kernel_rfl)
        have e83 := f16 83 rfl
        obtain rfl : v16 = .bool false := p16
        obtain ⟨v20, f20, p20⟩ := hon 20 (by kernel_rfl)
        have e87 := f20 87 rfl
        obtain rfl : v20 = .pointer (some ⟨g2 + 1, 0, none⟩) := p20
        refine goes_ Try.func17 (by kernel_rfl) rfl #[.pointer (some ⟨g2 + 1, 0, none⟩)] (wanted_on (u := false) rfl rfl rfl e83) rfl rfl (by simp [Act.eval, e87]) ?_
        refine (HX2.out w' hG).mono ?_
        rintro e w2 ⟨rfl, rfl⟩
        exact ⟨_, rfl, hK _ _ rfl (hG.alloc hG.size _) ((Below.refl _ _).alloc (Nat.le_refl _) _)⟩
      refine phi_cons ?_ ?_
      · intro a' w' hG hoff hon
        refine ⟨_, rfl, fun K hK => ?_⟩
        obtain ⟨v16, f16, p16⟩ := hon 16 (by kernel_rfl)
        have e83 := f16 83 rfl
        obtain rfl : v16 = .bool false := p16
        have e5 : a'.tmps[5]? = some (.pointer (some ⟨g1 + 1, 0, none⟩)) := (hoff 5 (by kernel_rfl)).trans rfl
        refine value_ (w1 := w') (v := .pointer (some ⟨g1 + 1, 0, none⟩)) (wanted_on (u := false) rfl rfl rfl e83) rfl ?_ ?_
        · go_simp
          try rfl
        · exact hK _ _ rfl hG (Below.refl _ _)
      refine phi_cons ?_ ?_
      · intro a' w' hG hoff hon
        refine ⟨_, rfl, fun K hK => ?_⟩
        obtain ⟨v16, f16, p16⟩ := hon 16 (by kernel_rfl)
        have e83 := f16 83 rfl
        obtain rfl : v16 = .bool false := p16
        obtain ⟨v22, f22, p22⟩ := hon 22 (by kernel_rfl)
        have e89 := f22 89 rfl
        obtain rfl : v22 = .pointer (some ⟨g1 + 1, 0, none⟩) := p22
        refine value_ (w1 := w') (v := .pointer (some ⟨g1 + 1, 0, none⟩)) (wanted_on (u := false) rfl rfl rfl e83) rfl ?_ ?_
        · go_simp
          try rfl
        · exact hK _ _ rfl hG (Below.refl _ _)
      refine phi_cons ?_ ?_
      · intro a' w' hG hoff hon
        refine ⟨_, rfl, fun K hK => ?_⟩
        obtain ⟨v16, f16, p16⟩ := hon 16 (by kernel_rfl)
        have e83 := f16 83 rfl
        obtain rfl : v16 = .bool false := p16
        obtain ⟨v23, f23, p23⟩ := hon 23 (by kernel_rfl)
        have e90 := f23 90 rfl
        obtain rfl : v23 = .pointer (some ⟨g1 + 1, 0, none⟩) := p23
        refine value_ (w1 := w') (v := .pointer (some ⟨g1 + 1, 0, none⟩)) (wanted_on (u := false) rfl rfl rfl e83) rfl ?_ ?_
        · go_simp
          try rfl
        · exact hK _ _ rfl hG (Below.refl _ _)
      refine phi_cons ?_ ?_
      · intro a' w' hG hoff hon
        refine ⟨_, rfl, fun K hK => ?_⟩
        obtain ⟨v16, f16, p16⟩ := hon 16 (by kernel_rfl)
        have e83 := f16 83 rfl
        obtain rfl : v16 = .bool false := p16
        obtain ⟨v24, f24, p24⟩ := hon 24 (by kernel_rfl)
        have e91 := f24 91 rfl
        obtain rfl : v24 = .pointer (some ⟨g1 + 1, 0, none⟩) := p24
        refine value_ (w1 := w') (v := .pointer (some ⟨g1 + 1, 0, none⟩)) (wanted_on (u := false) rfl rfl rfl e83) rfl ?_ ?_
        · go_simp
          try rfl
        · exact hK _ _ rfl hG (Below.refl _ _)
      refine phi_cons ?_ ?_
      · intro a' w' hG hoff hon
        refine ⟨_, rfl, fun K hK => ?_⟩
        obtain ⟨v16, f16, p16⟩ := hon 16 (by kernel_rfl)
        have e83 := f16 83 rfl
        obtain rfl : v16 = .bool false := p16
        obtain ⟨v25, f25, p25⟩ := hon 25 (by kernel_rfl)
        have e92 := f25 92 rfl
        obtain rfl : v25 = .pointer (some ⟨g1 + 1, 0, none⟩) := p25
        refine goes_ Try.func17 (by kernel_rfl) rfl #[.pointer (some ⟨g1 + 1, 0, none⟩)] (wanted_on (u := false) rfl rfl rfl e83) rfl rfl (by simp [Act.eval, e92]) ?_
        refine (HX1.out w' hG).mono ?_
        rintro e w2 ⟨rfl, rfl⟩
        exact ⟨_, rfl, hK _ _ rfl (hG.alloc hG.size _) ((Below.refl _ _).alloc (Nat.le_refl _) _)⟩
      refine phi_cons ?_ ?_
      · intro a' w' hG hoff hon
        refine ⟨_, rfl, fun K hK => ?_⟩
        obtain ⟨v16, f16, p16⟩ := hon 16 (by kernel_rfl)
        have e83 := f16 83 rfl
        obtain rfl : v16 = .bool false := p16
        obtain ⟨v21, f21, p21⟩ := hon 21 (by kernel_rfl)
        have e88 := f21 88 rfl
        obtain rfl : v21 = .agg #[.int .i64 b2.err, .int .i64 b2.pl] := p21
        obtain ⟨v26, f26, p26⟩ := hon 26 (by kernel_rfl)
        have e93 := f26 93 rfl
        obtain rfl : v26 = .agg #[.int .i64 b1.err, .int .i64 b1.pl] := p26
        refine value_ (w1 := w') (v := .bool true) (wanted_on (u := false) rfl rfl rfl e83) rfl ?_ ?_
        · go_simp
          try rfl
        · exact hK _ _ rfl hG (Below.refl _ _)
      refine phi_cons ?_ ?_
      · intro a' w' hG hoff hon
        refine ⟨_, rfl, fun K hK => ?_⟩
        obtain ⟨v16, f16, p16⟩ := hon 16 (by kernel_rfl)
        have e83 := f16 83 rfl
        obtain rfl : v16 = .bool false := p16
        obtain ⟨v27, f27, p27⟩ := hon 27 (by kernel_rfl)
        have e94 := f27 94 rfl
        obtain rfl : v27 = .bool true := p27
        refine value_ (w1 := w') (v := .bool true) (by rfl) rfl ?_ ?_
        · go_simp
          try rfl
        · exact hK _ _ rfl hG (Below.refl _ _)
      refine phi_cons ?_ ?_
      · intro a' w' hG hoff hon
        refine ⟨_, rfl, fun K hK => ?_⟩
        obtain ⟨v28, f28, p28⟩ := hon 28 (by kernel_rfl)
        have e95 := f28 95 rfl
        obtain rfl : v28 = .bool true := p28
        refine value_ (w1 := w') (v := .bool true) (by rfl) rfl ?_ ?_
        · go_simp
          try rfl
        · exact hK _ _ rfl hG (Below.refl _ _)
      exact phi_nil
    · intro vals w' hG hF
      have hlast : vals 29 = .bool true := hF 29 (by decide)
      simp only [Phi.putAll, Phi.dstOf, List.getElem?_toArray, List.getElem?_cons_succ, List.getElem?_cons_zero, Option.bind_some, Act.put, List.setIfInBounds_toArray, List.set_cons_zero, List.set_cons_succ, hlast]
      have HG := Lib.hid hG
      clear hG hF hlast
      go_wp2_with fail
      go_ret
      exact ⟨rfl, HB6.out.trans (Below.mono HG.out HB6.out.size)⟩
set_option maxHeartbeats 4000000 in
theorem front_out (s : ByteArray) (n : Int) (w : World) (h : 400 < s.size ∨ n < 0 ∨ (s.size : Int) < n) (hm : s.size ≤ 140737488351232) : Calls Try.prog 8 #[.string s, .int .i64 n] w (LawPost w) := by
  have hgr := great_calls (s.size : Int) none none 0 0 0 0
  by_cases hb : 400 < s.size
  · have e1 : (decide (400 < (s.size : Int)) || (decide (200 < 0) || decide (200 < 0))) = true := by rw [Bool.eq_iff_iff]; simp; omega
    rw [e1] at hgr
    have HGR := Lib.hid hgr
    clear hgr e1 h
    go_enter Try.func8, Try.ntmps8
    go_wp2_with fail
    refine (awake_calls _).mono ?_
    rintro e w1 ⟨rfl, hb1⟩
    have HB1 := Lib.hid hb1
    clear hb1
    go_wp2_with fail
    refine (HGR.out _).mono ?_
    rintro e w2 ⟨rfl, rfl⟩
    go_wp2_with fail
    refine (awake_calls _).mono ?_
    rintro e w3 ⟨rfl, hb3⟩
    have HB3 := Lib.hid hb3
    clear hb3
    go_wp2_with fail
    go_ret
    exact ⟨rfl, tb HB1.out HB3.out⟩
  · have e1 : (decide (400 < (s.size : Int)) || (decide (200 < 0) || decide (200 < 0))) = false := by rw [Bool.eq_iff_iff]; simp; omega
    rw [e1] at hgr
    have HGR := Lib.hid hgr
    clear hgr e1
    by_cases hn : n < 0
    · clear h
      go_enter Try.func8, Try.ntmps8
      go_wp2_with fail
      refine (awake_calls _).mono ?_
      rintro e w1 ⟨rfl, hb1⟩
      have HB1 := Lib.hid hb1
      clear hb1
      go_wp2_with fail
      refine (HGR.out _).mono ?_
      rintro e w2 ⟨rfl, rfl⟩
      go_wp2_with fail
      refine (awake_calls _).mono ?_
      rintro e w3 ⟨rfl, hb3⟩
      have HB3 := Lib.hid hb3
      clear hb3
      go_wp2_with fail
      go_ret
      exact ⟨rfl, tb HB1.out HB3.out⟩
    · have hn2 : (s.size : Int) < n := by omega
      clear h
      go_enter Try.func8, Try.ntmps8
      go_wp2_with fail
      refine (awake_calls _).mono ?_
      rintro e w1 ⟨rfl, hb1⟩
      have HB1 := Lib.hid hb1
      clear hb1
      go_wp2_with fail
      refine (HGR.out _).mono ?_
      rintro e w2 ⟨rfl, rfl⟩
      go_wp2_with fail
      refine (awake_calls _).mono ?_
      rintro e w3 ⟨rfl, hb3⟩
      have HB3 := Lib.hid hb3
      clear hb3
      go_wp2_with fail
      go_ret
      exact ⟨rfl, tb HB1.out HB3.out⟩
theorem expandFront_row (s : ByteArray) (n : Int) (w : World) (hm : s.size ≤ 140737488351232) (hw : (Lit.int .i64 n).wf = true) : Calls Try.prog 8 #[.string s, .int .i64 n] w fun e w' => e = .returned (.bool true) ∧ Below w.heap.size w w' := by
  by_cases h : 400 < s.size ∨ n < 0 ∨ (s.size : Int) < n
  · exact front_out s n w h hm
  · obtain ⟨k, rfl⟩ : ∃ k : Nat, n = k := ⟨n.toNat, by omega⟩
    exact front_small s k w (by omega) (by omega)
end Go.Proofs.Ytnkinbfglenddaa.Dec
