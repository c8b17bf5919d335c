/- The law's little functions: a struct compared, great, failed, awake. -/
import Derived.Test.YtnkinbfglenddaaRead2
import Derived.Laws.StructEq
import Derived.Test.YtnkinbfglenddaaWEqStruct
namespace Go.Proofs.Ytnkinbfglenddaa.Dec
open Go.RowKit Go.Proofs.Ytnkinbfglenddaa.Win Go.Proofs.Ytnkinbfglenddaa.Stp Go.Proofs.Ytnkinbfglenddaa.Mach Go.Proofs.Ytnkinbfglenddaa.Lst Go.Proofs.YtnkinbfglenddaaW.PrintWords
set_option linter.unusedVariables false
set_option linter.unusedSimpArgs false
theorem eql_fail (w : World) (a b c d : Int) : (binOp .eql 40 (.agg #[.int .i64 a, .int .i64 b]) (.agg #[.int .i64 c, .int .i64 d])).run Try.prog w = .ok (.bool ((a == c) && (b == d))) w := by
  rw [run_eql_struct, run_equalIn_struct w 9999 _ _ _ (by kernel_rfl) (by kernel_rfl)]
  have hfs : ∃ f1 f2 : Field, (Try.prog.fieldsOf 40).toList = [f1, f2] ∧ (f1.name == "_") = false ∧ (f2.name == "_") = false ∧
      (∀ a b : Int, (part f1.type #[.int .i64 a, .int .i64 b] f1.offset).run Try.prog w = .ok (.int .i64 a) w) ∧ (∀ a b : Int, (part f2.type #[.int .i64 a, .int .i64 b] f2.offset).run Try.prog w = .ok (.int .i64 b) w) ∧
      Try.prog.underlying f1.type = some (.int .i64) ∧ Try.prog.underlying f2.type = some (.int .i64) := ⟨_, _, rfl, by kernel_rfl, by kernel_rfl, fun _ _ => by kernel_rfl, fun _ _ => by kernel_rfl, by kernel_rfl, by kernel_rfl⟩
  obtain ⟨f1, f2, h0, h1, h2, h3, h4, h5, h6⟩ := hfs
  rw [h0, eqf_cons h1 (h3 _ _) (h3 _ _) (run_equalIn_int w 9998 _ _ _ _ _ h5) (eqf_last h2 (h4 _ _) (h4 _ _) (run_equalIn_int w 9998 _ _ _ _ _ h6))]
  rfl
theorem great_calls (n : Int) (A B : Option Addr) (a b c d : Nat) (w : World) : Calls Try.prog 10 #[.int .i64 n, .slice A a c, .slice B b d] w fun e w' => e = .returned (.bool (decide (400 < n) || (decide (200 < a) || decide (200 < b)))) ∧ w = w' := by
  by_cases h1 : 400 < n
  · have e : (decide (400 < n) || (decide (200 < a) || decide (200 < b))) = true := by rw [Bool.eq_iff_iff]; simp; omega
    rw [e]
    clear e
    go_enter Try.func10, Try.ntmps10
    go_wp2
    go_ret
    exact ⟨rfl, rfl⟩
  · have e : (decide (400 < n) || (decide (200 < a) || decide (200 < b))) = (decide (200 < (a : Int)) || decide (200 < (b : Int))) := by rw [Bool.eq_iff_iff]; simp; omega
    rw [e]
    clear e
    go_enter Try.func10, Try.ntmps10
    go_wp2
    all_goals
      go_ret
      exact ⟨rfl, rfl⟩
theorem failed_calls (e at_ : Int) (w : World) : Calls Try.prog 18 #[.int .i64 e, .int .i64 at_] w fun x w' => x = .returned (.agg #[.int .i64 (if e = 0 then 0 else e), .int .i64 (if e = 0 then 0 else at_)]) ∧ Below w.heap.size w w' := by
  by_cases h : e = 0
  · subst h
    go_enter Try.func18, Try.ntmps18
    go_wp2
    exact bodyPost_ret (v := .agg #[.int .i64 0, .int .i64 0]) (by simp [results, Try.results18, go_sem]) rfl ⟨rfl, (Below.refl _ _).alloc (Nat.le_refl _) _⟩
  · go_enter Try.func18, Try.ntmps18
    go_wp2
    exact bodyPost_ret (v := .agg #[.int .i64 e, .int .i64 at_]) (by simp [results, Try.results18, go_sem]) rfl ⟨by simp [h], (Below.refl _ _).alloc (Nat.le_refl _) _⟩
theorem steps_prefix {m m2 : M} {e : List Int} {ys : List Int} : ∀ {xs : List Int}, steps m (xs ++ ys) = some (m2, e) → ∃ m1 e1 e2, steps m xs = some (m1, e1) ∧ steps m1 ys = some (m2, e2) ∧ e = e1 ++ e2 := by
  intro xs
  induction xs generalizing m e with
  | nil => intro h; exact ⟨m, [], e, rfl, h, rfl⟩
  | cons x xs ih =>
    intro h
    simp only [steps, List.cons_append] at h ⊢
    cases hx : Mach.step m x with
    | none => rw [hx] at h; cases h
    | some r =>
      obtain ⟨m3, e3⟩ := r
      rw [hx] at h
      simp only at h
      cases hs : steps m3 (xs ++ ys) with
      | none => rw [hs] at h; cases h
      | some r =>
        obtain ⟨m4, e4⟩ := r
        rw [hs] at h
        simp only [Option.some.injEq, Prod.mk.injEq] at h
        obtain ⟨rfl, rfl⟩ := h
        obtain ⟨m5, e5, e6, q1, q2, q3⟩ := ih hs
        exact ⟨m5, e3 ++ e5, e6, by simp [q1], q2, by rw [q3]; simp⟩
theorem take_succ' {l : List Int} {k : Nat} (h : k < l.length) : l.take (k + 1) = l.take k ++ [l.getD k 0] := by
  rw [List.take_succ_eq_append_getElem h, List.getD_eq_getElem?_getD, List.getElem?_eq_getElem h]; rfl
/-- No further than where it goes wrong. -/
theorem stop_le {l : List Int} {k j : Nat} {m m' : M} {out e : List Int} (hk : k < l.length) (h1 : steps m0 (l.take k) = some (m, out)) (h2 : Mach.step m (l.getD k 0) = none) (h3 : steps m0 (l.take j) = some (m', e)) : j ≤ k := by
  rcases Nat.lt_or_ge k j with hlt | hge
  · have : l.take j = l.take (k + 1) ++ (l.take j).drop (k + 1) := by
      have : (l.take j).take (k + 1) = l.take (k + 1) := by rw [List.take_take, Nat.min_eq_left (by omega)]
      rw [← this, List.take_append_drop]
    rw [this, take_succ' hk] at h3
    obtain ⟨m5, e5, e6, q1, q2, q3⟩ := steps_prefix h3
    obtain ⟨m7, e7, e8, p1, p2, p3⟩ := steps_prefix q1
    rw [h1] at p1
    simp only [Option.some.injEq, Prod.mk.injEq] at p1
    obtain ⟨rfl, rfl⟩ := p1
    simp only [steps, h2] at p2
    cases p2
  · exact hge
theorem fed_fix {b b' : B4} {l out : List Int} {K k : Nat} {room : Int} {mK m' : M} {eK : List Int} (hK : K < l.length) (h1 : steps m0 (l.take K) = some (mK, eK)) (h2 : Mach.step mK (l.getD K 0) = none) (hr : (l.length : Int) ≤ room) (hg : b.going = true)
    (hf : Fed b m0 l room k out b' m') : k = K ∧ out = eK ∧ b' = { b with at_ := b.at_ + K, err := 3, pl := b.at_ + K } := by
  rcases hf.way with ⟨m1, p1, p2, p3, p4, p5, p6⟩ | ⟨p1, p2, p3, p4⟩
  · have e1 := stop_le hK h1 h2 p1
    have e2 := stop_le p3 p1 p5 h1
    obtain rfl : k = K := by omega
    rw [h1] at p1
    simp only [Option.some.injEq, Prod.mk.injEq] at p1
    obtain ⟨rfl, rfl⟩ := p1
    exact ⟨rfl, rfl, p6⟩
  · have e1 := stop_le hK h1 h2 p1
    have e2 := steps_length p1
    rw [List.length_take] at e2
    rcases p4 with p4 | p4 | p4
    · omega
    · omega
    · rw [hg] at p4; cases p4
theorem lst_block {w : World} {g : Nat} {k : IntKind} {t : TypeId} (xs : List Int) (h : w.heap[g]? = some (.cells (xs.map fun x => Value.int k x).toArray t (0, 0))) : Lst w k (some ⟨g, 0, none⟩) xs := fun j hj => by
  refine ⟨_, rfl, ?_⟩
  have : (⟨g, 0, none⟩ : Addr).add j = ⟨g, j, none⟩ := by unfold Addr.add; split <;> simp_all
  rw [this, cell_of h]
  simp [List.getD_eq_getElem?_getD, hj]
def one : ByteArray := ⟨#[65, 233, 18, 176, 11, 1, 236, 128, 12]⟩
def two : ByteArray := ⟨#[15, 216, 61, 222, 0, 216, 61, 65]⟩
def goes (l : List Int) (k : Nat) (e : List Int) : Bool := match steps m0 (l.take k) with
  | some (m, o) => (o == e) && (Mach.step m (l.getD k 0)).isNone
  | none => false
theorem of_goes {l : List Int} {k : Nat} {e : List Int} (h : goes l k e = true) : ∃ m, steps m0 (l.take k) = some (m, e) ∧ Mach.step m (l.getD k 0) = none := by
  unfold goes at h
  split at h
  · rename_i m o hm
    simp only [Bool.and_eq_true, beq_iff_eq, Option.isNone_iff_eq_none] at h
    exact ⟨m, by rw [hm, h.1], h.2⟩
  · cases h
theorem goes_one : goes (byt one) 8 [65, 233, 1072, 128512] = true := by decide +kernel
theorem goes_two : goes (byt two) 7 [128512] = true := by decide +kernel
theorem tb {w w1 w2 : World} (h : Below w.heap.size w w1) (k : Below w1.heap.size w1 w2) : Below w.heap.size w w2 := h.trans ⟨k.os, k.tape, k.output, k.size, fun i hi => k.block i (Nat.lt_of_lt_of_le hi h.size)⟩
def AwkPost (w : World) (e : Ending) (w' : World) : Prop := e = .returned (.bool true) ∧ Below w.heap.size w w'
set_option maxHeartbeats 4000000 in
theorem awake_calls (w : World) : Calls Try.prog 9 #[] w (AwkPost w) := by
  obtain ⟨m1, a1, a2⟩ := of_goes goes_one
  obtain ⟨m2, b1, b2⟩ := of_goes goes_two
  have HA := Lib.hid (And.intro a1 a2)
  have HB := Lib.hid (And.intro b1 b2)
  clear a1 a2 b1 b2
  go_enter Try.func9, Try.ntmps9
  go_wp2_with fail
  refine (newDecoder_calls _).mono ?_
  rintro e w1 ⟨rfl, hd, hb, hz⟩
  obtain ⟨g1, hg1⟩ : ∃ g, g = w.heap.size := ⟨_, rfl⟩
  rw [← hg1] at hd
  have HD := Lib.hid hd
  have HBl := Lib.hid hb
  have HG := Lib.hid hg1
  rw [← hg1]
  clear hd hb hg1
  have HZ := Lib.hid hz
  clear hz
  go_wp2_with fail
  refine (newDecoder_calls _).mono ?_
  rintro e w2 ⟨rfl, hd, hb, hz⟩
  have hdd := HD.out.below hb
  obtain ⟨g2, hg2⟩ : ∃ g, g = w1.heap.size := ⟨_, rfl⟩
  rw [← hg2] at hd
  have HDD := Lib.hid hd
  have HD2 := Lib.hid hdd
  have HB2 := Lib.hid hb
  have HG2 := Lib.hid hg2
  rw [← hg2]
  clear hd hdd hb hz hg2
  have hne : g1 + 1 < g2 := by have := HZ.out; have := HG.out; have := HG2.out; omega
  have HNE := Lib.hid hne
  clear hne
  have hf1 := feed_calls ⟨#[65, 233, 18, 176, 11, 1, 236, 128, 12]⟩ 9 HD2.out good0 (by decide) (by decide) (by decide)
  have HF1 := Lib.hid hf1
  clear hf1
  go_wp2_with fail
  refine HF1.out.mono ?_
  rintro e w3 ⟨k, A1, c1, o1, b1, n1, rfl, hd1, hc1, ho1, hf⟩
  obtain ⟨rfl, rfl, rfl⟩ := fed_fix (by decide) HA.out.1 HA.out.2 (by decide) rfl hf
  have hk2 := HDD.out.keep hc1.size (hc1.block _ HDD.out.lt (by rintro (h | h | h) <;> first | (cases h; done) | (have := HNE.out; omega))) (hc1.block _ HDD.out.win.lt (by rintro (h | h | h) <;> first | (cases h; done) | (have := HNE.out; omega))) (fun k hk => by cases hk)
  have hf2 := feed_calls ⟨#[15, 216, 61, 222, 0, 216, 61, 65]⟩ 9 hk2 good0 (by decide) (by decide) (by decide)
  have HF2 := Lib.hid hf2
  have HE1 := Lib.hid hd1
  have HC1 := Lib.hid hc1
  have HO1 := Lib.hid ho1
  clear hf2 hk2 hd1 hc1 ho1 hf
  go_wp2_with fail
  refine HF2.out.mono ?_
  rintro e w4 ⟨k, A2, c2, o2, b2, n2, rfl, hd2, hc2, ho2, hf⟩
  obtain ⟨rfl, rfl, rfl⟩ := fed_fix (by decide) HB.out.1 HB.out.2 (by decide) rfl hf
  have hg12 : g1 + 1 < w3.heap.size := HE1.out.lt
  have hk1 := HE1.out.keep hc2.size (hc2.block _ HE1.out.lt (by rintro (h | h | h) <;> first | (cases h; done) | (have := HNE.out; omega))) (hc2.block _ HE1.out.win.lt (by rintro (h | h | h) <;> first | (cases h; done) | (have := HNE.out; omega))) (fun k hk => by cases hk)
  have ho1' := own_chg HO1.out hc2 (fs_ge HO1.out HDD.out.lt HDD.out.win.lt)
  have hB4 : Below w.heap.size w w4 := by
    refine Chg.below (Chg.below (tb HBl.out HB2.out) HC1.out ?_) hc2 ?_
    · rintro i (h | h | h)
      · have := HG.out; omega
      · have := HG.out; omega
      · cases h
    · rintro i (h | h | h)
      · have := HG.out; have := HNE.out; omega
      · have := HG.out; have := HNE.out; omega
      · cases h
  have HK1 := Lib.hid hk1
  have HD4 := Lib.hid hd2
  have HL1 := Lib.hid (Lst.of_owns ho1')
  have HL2 := Lib.hid (Lst.of_owns ho2)
  have HB4 := Lib.hid hB4
  clear hk1 hd2 hc2 ho1' ho2 hB4 hf hg12
  go_wp2_with fail
  have hz5 : Below w4.heap.size w4 (w4.alloc (.cells #[.int .u32 65, .int .u32 233, .int .u32 1072, .int .u32 128512] 25)) := (Below.refl _ _).alloc (Nat.le_refl _) _
  have hs1 := same_calls (c := c1) (d := 4) (HL1.out.below hz5) (lst_block [65, 233, 1072, 128512] (heap_alloc_new w4 _)) (by decide) (by decide)
  have HS1 := Lib.hid hs1
  have HZ5 := Lib.hid hz5
  clear hs1 hz5
  refine HS1.out.mono ?_
  rintro e w6 ⟨rfl, hdr⟩
  have hB6 := HZ5.out.trans (hdr.below _)
  have HB6 := Lib.hid hB6
  have hk6 := HK1.out.below hB6
  have hd6 := HD4.out.below hB6
  have HK6 := Lib.hid hk6
  have HD6 := Lib.hid hd6
  have HFl := Lib.hid (fail_calls _ _ _ hk6.base)
  clear hdr hB6 hk6 hd6
  go_wp2_with fail
  refine HFl.out.mono ?_
  rintro e w7 ⟨rfl, rfl⟩
  have he1 := fun w => eql_fail w 3 8 3 8
  go_wp2_with fail
  have hz7 : Below w6.heap.size w6 (w6.alloc (.cells #[.int .i64 3, .int .i64 8] 40)) := (Below.refl _ _).alloc (Nat.le_refl _) _
  have hz8 : Below w6.heap.size w6 ((w6.alloc (.cells #[.int .i64 3, .int .i64 8] 40)).alloc (.cells #[.int .u32 128512] 25)) := hz7.alloc (by simp) _
  have es : (w6.alloc (.cells #[.int .i64 3, .int .i64 8] 40)).heap.size = w6.heap.size + 1 := by simp
  have hl8 := lst_block (k := .u32) [128512] (heap_alloc_new (w6.alloc (.cells #[.int .i64 3, .int .i64 8] 40)) (.cells #[.int .u32 128512] 25))
  rw [es] at hl8
  have hs2 := same_calls (c := c2) (d := 1) ((HL2.out.below HB6.out).below hz8) hl8 (by decide) (by decide)
  have HS2 := Lib.hid hs2
  have HZ8 := Lib.hid hz8
  clear hs2 hz7 hz8 es hl8
  refine HS2.out.mono ?_
  rintro e w9 ⟨rfl, hdr⟩
  have hB9 := HZ8.out.trans (hdr.below _)
  have HB9 := Lib.hid hB9
  have hd9 := HD6.out.below hB9
  have HFl2 := Lib.hid (fail_calls _ _ _ hd9.base)
  clear hdr hB9 hd9
  go_wp2_with fail
  refine HFl2.out.mono ?_
  rintro e w10 ⟨rfl, rfl⟩
  go_wp2_with fail
  go_ret
  exact ⟨rfl, (tb (tb HB4.out HB6.out) HB9.out).alloc (tb (tb HB4.out HB6.out) HB9.out).size _⟩
end Go.Proofs.Ytnkinbfglenddaa.Dec
