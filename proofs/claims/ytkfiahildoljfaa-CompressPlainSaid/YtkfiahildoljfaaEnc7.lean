/- The compressor: a scalar in the single mode. -/
import Derived.Test.YtkfiahildoljfaaEnc6
namespace Go.Proofs.Ytkfiahildoljfaa.Enc
open Go.RowKit Go.Proofs.Ytkfiahildoljfaa.Win Go.Proofs.Ytkfiahildoljfaa.Stp Go.Proofs.YtkfiahildoljfaaW.PrintMore
set_option linter.unusedVariables false
set_option linter.unusedSimpArgs false
theorem findFrom_spec {c : Int} : ∀ {l : List Int} {k : Nat}, (findFrom c k l).2 = true → ∃ j : Nat, j < l.length ∧ (findFrom c k l).1 = ((k + j : Nat) : Int) ∧ hld (l.getD j 0) c = true
  | [], k, h => by cases h
  | x :: l, k, h => by
    unfold findFrom at h ⊢
    by_cases hx : hld x c = true
    · rw [if_pos hx]
      exact ⟨0, by simp, by simp, hx⟩
    · rw [if_neg hx] at h ⊢
      obtain ⟨j, h1, h2, h3⟩ := findFrom_spec h
      refine ⟨j + 1, by simpa using h1, ?_, h3⟩
      rw [h2]
      have : k + 1 + j = k + (j + 1) := by omega
      rw [this]
theorem find_spec {m : E} (hG : EG m) {c : Int} (h : (wFind m.o c).2 = true) : 0 ≤ (wFind m.o c).1 ∧ (wFind m.o c).1 < 8 ∧ hld (wAt m.o (wFind m.o c).1) c = true := by
  unfold wFind at h ⊢
  obtain ⟨j, h1, h2, h3⟩ := findFrom_spec h
  rw [hG.lo] at h1
  rw [h2, Nat.zero_add]
  refine ⟨by omega, by omega, ?_⟩
  unfold wAt
  rw [if_pos (by omega)]
  simpa using h3
theorem static_spec {c : Int} (h : (staticC c).2.2 = true) : 1 ≤ (staticC c).1 ∧ (staticC c).1 < 8 ∧ 0 ≤ (staticC c).2.1 ∧ (staticC c).2.1 ≤ 12288 ∧ hld (staticC c).2.1 c = true := by
  unfold staticC at h ⊢
  by_cases hf : (findFrom c 1 (statics.drop 1)).2 = true
  · rw [if_pos hf]
    obtain ⟨j, h1, h2, h3⟩ := findFrom_spec hf
    have h7 : (statics.drop 1).length = 7 := rfl
    rw [h7] at h1
    have e : ((1 + j : Nat) : Int).toNat = 1 + j := by omega
    have e2 : (statics.drop 1).getD j 0 = statics.getD (1 + j) 0 := by rw [List.getD_eq_getElem?_getD, List.getD_eq_getElem?_getD, List.getElem?_drop]
    have := static_rng2 (k := 1 + j) (by omega)
    simp only [h2, e]
    rw [e2] at h3
    exact ⟨by omega, by omega, this.1, this.2, h3⟩
  · rw [if_neg hf] at h
    cases h
def singleC (m : E) (c d : Int) : E × List Int :=
  match simpleC m c with
  | some e => (m, e)
  | none =>
    if (wFind m.o c).2 = true then
      if ((d != 2147483648) && hld (wAt m.o (wFind m.o c).1) d) = true then ({ m with u := wTouch m.u (wFind m.o c).1, act := (wFind m.o c).1 }, [16 + (wFind m.o c).1, 128 + c - wAt m.o (wFind m.o c).1])
      else ({ m with u := wTouch m.u (wFind m.o c).1 }, [1 + (wFind m.o c).1, 128 + c - wAt m.o (wFind m.o c).1])
    else if (!twinsB c d && (staticC c).2.2) = true then (m, [1 + (staticC c).1, c - (staticC c).2.1])
    else if (twinsB c d || (decide (65536 ≤ c) && softB m.o d)) = true then (layM m c, layE m c 24 11)
    else if (decide (c < 65536) && (softB m.o d || tagB c)) = true then (m, [14, c / 256, c % 256])
    else ({ m with uni := true }, 15 :: unitsC c)
theorem own_of_twins {c d : Int} (h : twinsB c d = true) : (ownC c).2 = true := by
  unfold twinsB at h
  simp only [Bool.and_eq_true] at h
  exact h.1.1
theorem own_of_big {c : Int} (h : 65536 ≤ c) : (ownC c).2 = true := by unfold ownC; rw [if_pos h]
section
variable {w : World} {g gw : Nat} {b : B4} {l : List Int} {m : E}
set_option maxRecDepth 100000 in
set_option maxHeartbeats 16000000 in
theorem single_calls (c d : Int) (h : EncAt w g gw b l m) (hG : EG m) (h0 : 0 ≤ c) (h1 : c ≤ 1114111) (d0 : 0 ≤ d) (d1 : d ≤ 4294967295) (hl : l.length < 999900) :
    Calls Try.prog 42 #[.pointer (some ⟨g, 0, none⟩), .int .u32 c, .int .u32 d] w (KeepPost w g gw b (l ++ (singleC m c d).2) (singleC m c d).1) := by
  have hsi := simple_calls c h hG h0 h1 (by omega)
  have HG := Lib.hid hG
  unfold singleC
  clear h hG
  cases hs : simpleC m c with
  | some e =>
    rw [hs] at hsi
    have HSi := Lib.hid hsi
    clear hs hsi
    go_enter Try.func42, Try.ntmps42
    go_wp2_with fail
    refine HSi.out.mono ?_
    rintro e1 w1 ⟨rfl, hd, hc⟩
    have HD := Lib.hid hd
    have HC := Lib.hid hc
    clear hd hc
    go_wp2_with fail
    go_end0
    exact ⟨rfl, HD.out, HC.out⟩
  | none =>
    rw [hs] at hsi
    have HSi := Lib.hid hsi
    clear hs hsi
    simp only
    by_cases hf : (wFind m.o c).2 = true
    · rw [if_pos hf]
      have hsp := find_spec HG.out hf
      have HFi := Lib.hid (fun (w : World) (h : EncAt w g gw b l m) => find_calls gw m.o m.u c w h.win HG.out.rng h0 (by omega))
      have hat := HG.out.at_ hsp.1 hsp.2.1
      generalize hff : wFind m.o c = r at hf hsp HFi hat ⊢
      obtain ⟨n, ok⟩ := r
      simp only at hf hsp hat ⊢
      subst hf
      obtain ⟨n0, n8, hh⟩ := hsp
      rw [hld_iff] at hh
      obtain ⟨x, hx⟩ : ∃ x, x = wAt m.o n := ⟨_, rfl⟩
      have HX := Lib.hid hx
      rw [← hx] at hh hat ⊢
      clear hff hx
      obtain ⟨hh1, hh2⟩ := hh
      obtain ⟨a1, a2⟩ := hat
      have HH := Lib.hid (fun w => holds_calls x d w (by omega) (by omega) d0 d1)
      have hcs : (d != 2147483648) = false ∨ ((d != 2147483648) = true ∧ hld x d = false) ∨ ((d != 2147483648) = true ∧ hld x d = true) := by cases (d != 2147483648) <;> cases hld x d <;> simp
      rcases hcs with k1 | ⟨k1, k2⟩ | ⟨k1, k2⟩
      · rw [k1, Bool.false_and, if_neg (by decide)]
        go_enter Try.func42, Try.ntmps42
        go_wp2_with fail
        refine HSi.out.mono ?_
        rintro e1 w1 ⟨rfl, hd, hc⟩
        have h6 := hd.c6
        have HF2 := Lib.hid (HFi.out w1 hd)
        have HT := Lib.hid (touch_calls gw m.o m.u n w1 hd.win (HG.out.mem n))
        have HD := Lib.hid hd
        have HC := Lib.hid hc
        clear hd hc
        go_wp2_with fail
        refine HF2.out.mono ?_
        rintro e1 w2 ⟨rfl, rfl⟩
        go_wp2_with fail
        refine HT.out.mono ?_
        rintro e1 w2 ⟨rfl, hw, hcw⟩
        have hd2 := HD.out.wins hw hcw
        have h6b := hd2.c6
        have HAt := Lib.hid (at_calls gw m.o (wTouch m.u n) n w2 hw)
        have HHe := Lib.hid (held_calls n c hd2 (by show 0 ≤ wAt m.o n; rw [← HX.out]; omega) (by show wAt m.o n ≤ c; rw [← HX.out]; omega) (by show c - wAt m.o n < 128; rw [← HX.out]; omega) h1)
        have e3 : wAt ({ m with o := m.o, u := wTouch m.u n } : E).o n = x := HX.out.symm
        rw [e3] at HHe
        rw [← HX.out] at HAt
        have HD2 := Lib.hid hd2
        have HC2 := Lib.hid (efs_gw (g := g) hcw)
        clear hw hcw hd2 e3
        go_wp2_with fail
        refine HHe.out.mono ?_
        rintro e1 w3 ⟨rfl, rfl⟩
        have HK := Lib.hid (keep_calls [1 + n, 128 + c - x] HD2.out (by omega) (by simp))
        go_wp2_with fail
        refine HK.out.mono ?_
        rintro e w9 ⟨rfl, hd9, hc9⟩
        have HD9 := Lib.hid hd9
        have HC9 := Lib.hid hc9
        clear hd9 hc9
        go_wp2_with fail
        go_end0
        exact ⟨rfl, HD9.out, (HC.out.trans HC2.out).trans HC9.out⟩
      · rw [k1, k2, Bool.true_and, if_neg (by decide)]
        rw [k2] at HH
        clear k2
        go_enter Try.func42, Try.ntmps42
        go_wp2_with fail
        refine HSi.out.mono ?_
        rintro e1 w1 ⟨rfl, hd, hc⟩
        have h6 := hd.c6
        have HF2 := Lib.hid (HFi.out w1 hd)
        have HT := Lib.hid (touch_calls gw m.o m.u n w1 hd.win (HG.out.mem n))
        have HD := Lib.hid hd
        have HC := Lib.hid hc
        clear hd hc
        go_wp2_with fail
        refine HF2.out.mono ?_
        rintro e1 w2 ⟨rfl, rfl⟩
        go_wp2_with fail
        refine HT.out.mono ?_
        rintro e1 w2 ⟨rfl, hw, hcw⟩
        have hd2 := HD.out.wins hw hcw
        have h6b := hd2.c6
        have HAt := Lib.hid (at_calls gw m.o (wTouch m.u n) n w2 hw)
        have HHe := Lib.hid (held_calls n c hd2 (by show 0 ≤ wAt m.o n; rw [← HX.out]; omega) (by show wAt m.o n ≤ c; rw [← HX.out]; omega) (by show c - wAt m.o n < 128; rw [← HX.out]; omega) h1)
        have e3 : wAt ({ m with o := m.o, u := wTouch m.u n } : E).o n = x := HX.out.symm
        rw [e3] at HHe
        rw [← HX.out] at HAt
        have HD2 := Lib.hid hd2
        have HC2 := Lib.hid (efs_gw (g := g) hcw)
        clear hw hcw hd2 e3
        go_wp2_with fail
        refine HAt.out.mono ?_
        rintro e1 w3 ⟨rfl, rfl⟩
        go_wp2_with fail
        refine (HH.out _).mono ?_
        rintro e1 w3 ⟨rfl, rfl⟩
        go_wp2_with fail
        refine HHe.out.mono ?_
        rintro e1 w3 ⟨rfl, rfl⟩
        have HK := Lib.hid (keep_calls [1 + n, 128 + c - x] HD2.out (by omega) (by simp))
        go_wp2_with fail
        refine HK.out.mono ?_
        rintro e w9 ⟨rfl, hd9, hc9⟩
        have HD9 := Lib.hid hd9
        have HC9 := Lib.hid hc9
        clear hd9 hc9
        go_wp2_with fail
        go_end0
        exact ⟨rfl, HD9.out, (HC.out.trans HC2.out).trans HC9.out⟩
      · rw [k1, k2, Bool.true_and, if_pos rfl]
        rw [k2] at HH
        clear k2
        go_enter Try.func42, Try.ntmps42
        go_wp2_with fail
        refine HSi.out.mono ?_
        rintro e1 w1 ⟨rfl, hd, hc⟩
        have h6 := hd.c6
        have HF2 := Lib.hid (HFi.out w1 hd)
        have HT := Lib.hid (touch_calls gw m.o m.u n w1 hd.win (HG.out.mem n))
        have HD := Lib.hid hd
        have HC := Lib.hid hc
        clear hd hc
        go_wp2_with fail
        refine HF2.out.mono ?_
        rintro e1 w2 ⟨rfl, rfl⟩
        go_wp2_with fail
        refine HT.out.mono ?_
        rintro e1 w2 ⟨rfl, hw, hcw⟩
        have hd2 := HD.out.wins hw hcw
        have h6b := hd2.c6
        have HAt := Lib.hid (at_calls gw m.o (wTouch m.u n) n w2 hw)
        have HHe := Lib.hid (held_calls n c hd2 (by show 0 ≤ wAt m.o n; rw [← HX.out]; omega) (by show wAt m.o n ≤ c; rw [← HX.out]; omega) (by show c - wAt m.o n < 128; rw [← HX.out]; omega) h1)
        have e3 : wAt ({ m with o := m.o, u := wTouch m.u n } : E).o n = x := HX.out.symm
        rw [e3] at HHe
        rw [← HX.out] at HAt
        have HD2 := Lib.hid hd2
        have HC2 := Lib.hid (efs_gw (g := g) hcw)
        clear hw hcw hd2 e3
        go_wp2_with fail
        refine HAt.out.mono ?_
        rintro e1 w3 ⟨rfl, rfl⟩
        go_wp2_with fail
        refine (HH.out _).mono ?_
        rintro e1 w3 ⟨rfl, rfl⟩
        have h8 := HD2.out.c8
        have f8 := HD2.out.fz 8
        have hs3 := HD2.out.set 8 (.int .i64 n) (b' := b) (l' := l) (m' := { m with u := wTouch m.u n, act := n }) rfl rfl rfl
        have hhe3 := held_calls n c hs3 (by show 0 ≤ wAt m.o n; rw [← HX.out]; omega) (by show wAt m.o n ≤ c; rw [← HX.out]; omega) (by show c - wAt m.o n < 128; rw [← HX.out]; omega) h1
        have e3 : wAt ({ m with u := wTouch m.u n, act := n } : E).o n = x := HX.out.symm
        rw [e3] at hhe3
        have HHe3 := Lib.hid hhe3
        have hk3 := keep_calls [16 + n, 128 + c - x] hs3 (by omega) (by simp)
        have hsz3 : (w2.setCell ⟨g, 8, none⟩ (.int .i64 n)).heap.size = w2.heap.size := by simp [World.setCell]
        rw [hsz3] at hk3
        have HK := Lib.hid hk3
        clear hs3 hhe3 e3 hk3 hsz3
        go_wp2_with fail
        refine HHe3.out.mono ?_
        rintro e1 w3 ⟨rfl, rfl⟩
        go_wp2_with fail
        refine HK.out.mono ?_
        rintro e w9 ⟨rfl, hd9, hc9⟩
        have HD9 := Lib.hid hd9
        have HC9 := Lib.hid hc9
        clear hd9 hc9
        go_wp2_with fail
        go_end0
        exact ⟨rfl, HD9.out, ((HC.out.trans HC2.out).trans (efs_g 8 _)).trans HC9.out⟩
    · rw [if_neg hf]
      have hfF : (wFind m.o c).2 = false := by simpa using hf
      have HFi := Lib.hid (fun (w : World) (h : EncAt w g gw b l m) => find_calls gw m.o m.u c w h.win HG.out.rng h0 (by omega))
      rw [hfF] at HFi
      generalize (wFind m.o c).1 = n at HFi
      clear hf hfF
      have HTw := Lib.hid (fun w => twins_calls c d w h0 (by omega) d0 d1)
      have HSt := Lib.hid (fun w => cstatic_calls c w h0 (by omega))
      have HSp := Lib.hid (fun h => static_spec (c := c) h)
      have HOt := Lib.hid (fun h => own_of_twins (c := c) (d := d) h)
      have HSo := Lib.hid (fun (w : World) (h : EncAt w g gw b l m) => soft_calls d h HG.out.rng d0 d1)
      have HTg := Lib.hid (fun w => tagged_calls c w)
      generalize twinsB c d = T at HTw HOt ⊢
      generalize softB m.o d = S at HSo ⊢
      generalize tagB c = G at HTg ⊢
      generalize staticC c = r at HSt HSp ⊢
      obtain ⟨sn, so, sk⟩ := r
      simp only at HSt HSp ⊢
      cases T with
      | true =>
        rw [if_neg (by simp), if_pos (by simp)]
        go_enter Try.func42, Try.ntmps42
        go_wp2_with fail
        refine HSi.out.mono ?_
        rintro e1 w1 ⟨rfl, hd, hc⟩
        have h6 := hd.c6
        have HF2 := Lib.hid (HFi.out w1 hd)
        have HD := Lib.hid hd
        have HC := Lib.hid hc
        clear hd hc
        go_wp2_with fail
        refine HF2.out.mono ?_
        rintro e1 w2 ⟨rfl, rfl⟩
        go_wp2_with fail
        refine (HSt.out _).mono ?_
        rintro e1 w2 ⟨rfl, rfl⟩
        go_wp2_with fail
        refine (HTw.out _).mono ?_
        rintro e1 w2 ⟨rfl, hb⟩
        have HD2 := Lib.hid (HD.out.below hb)
        have HB2 := Lib.hid (HC.out.trans (Chg.of_below (S := EFS g gw) hb))
        clear hb
        go_wp2_with fail
        refine (HTw.out _).mono ?_
        rintro e1 w3 ⟨rfl, hb⟩
        have HD3 := Lib.hid (HD2.out.below hb)
        have HB3 := Lib.hid (HB2.out.trans (Chg.of_below (S := EFS g gw) hb))
        clear hb
        have HK := Lib.hid (lay_calls c 24 11 HD3.out HG.out h0 h1 (by omega) (HOt.out (by trivial)) (by decide) (by decide) (by decide) (by decide))
        go_wp2_with fail
        refine HK.out.mono ?_
        rintro e w9 ⟨rfl, hd9, hc9⟩
        have HD9 := Lib.hid hd9
        have HC9 := Lib.hid hc9
        clear hd9 hc9
        go_wp2_with fail
        go_end0
        exact ⟨rfl, HD9.out, HB3.out.trans HC9.out⟩
      | false =>
        cases sk with
        | true =>
          rw [if_pos (by simp)]
          obtain ⟨s1, s2, s3, s4, s5⟩ := HSp.out rfl
          rw [hld_iff] at s5
          obtain ⟨s5, s6⟩ := s5
          go_enter Try.func42, Try.ntmps42
          go_wp2_with fail
          refine HSi.out.mono ?_
          rintro e1 w1 ⟨rfl, hd, hc⟩
          have h6 := hd.c6
          have HF2 := Lib.hid (HFi.out w1 hd)
          have HD := Lib.hid hd
          have HC := Lib.hid hc
          clear hd hc
          go_wp2_with fail
          refine HF2.out.mono ?_
          rintro e1 w2 ⟨rfl, rfl⟩
          go_wp2_with fail
          refine (HSt.out _).mono ?_
          rintro e1 w2 ⟨rfl, rfl⟩
          go_wp2_with fail
          refine (HTw.out _).mono ?_
          rintro e1 w2 ⟨rfl, hb⟩
          have HD2 := Lib.hid (HD.out.below hb)
          have HB2 := Lib.hid (HC.out.trans (Chg.of_below (S := EFS g gw) hb))
          clear hb
          have HK := Lib.hid (keep_calls [1 + sn, c - so] HD2.out (by omega) (by simp))
          go_wp2_with fail
          refine HK.out.mono ?_
          rintro e w9 ⟨rfl, hd9, hc9⟩
          have HD9 := Lib.hid hd9
          have HC9 := Lib.hid hc9
          clear hd9 hc9
          go_wp2_with fail
          go_end0
          exact ⟨rfl, HD9.out, HB2.out.trans HC9.out⟩
        | false =>
          rw [if_neg (by simp)]
          by_cases hc6 : 65536 ≤ c
          · cases S with
            | true =>
              rw [if_pos (by simp [hc6])]
              go_enter Try.func42, Try.ntmps42
              go_wp2_with fail
              refine HSi.out.mono ?_
              rintro e1 w1 ⟨rfl, hd, hc⟩
              have h6 := hd.c6
              have HF2 := Lib.hid (HFi.out w1 hd)
              have HD := Lib.hid hd
              have HC := Lib.hid hc
              clear hd hc
              go_wp2_with fail
              refine HF2.out.mono ?_
              rintro e1 w2 ⟨rfl, rfl⟩
              go_wp2_with fail
              refine (HSt.out _).mono ?_
              rintro e1 w2 ⟨rfl, rfl⟩
              go_wp2_with fail
              refine (HTw.out _).mono ?_
              rintro e1 w2 ⟨rfl, hb⟩
              have HD2 := Lib.hid (HD.out.below hb)
              have HB2 := Lib.hid (HC.out.trans (Chg.of_below (S := EFS g gw) hb))
              clear hb
              go_wp2_with fail
              refine (HTw.out _).mono ?_
              rintro e1 w3 ⟨rfl, hb⟩
              have HD3 := Lib.hid (HD2.out.below hb)
              have HB3 := Lib.hid (HB2.out.trans (Chg.of_below (S := EFS g gw) hb))
              clear hb
              go_wp2_with fail
              refine (HSo.out w3 HD3.out).mono ?_
              rintro e1 w4 ⟨rfl, rfl⟩
              have HK := Lib.hid (lay_calls c 24 11 HD3.out HG.out h0 h1 (by omega) (own_of_big hc6) (by decide) (by decide) (by decide) (by decide))
              go_wp2_with fail
              refine HK.out.mono ?_
              rintro e w9 ⟨rfl, hd9, hc9⟩
              have HD9 := Lib.hid hd9
              have HC9 := Lib.hid hc9
              clear hd9 hc9
              go_wp2_with fail
              go_end0
              exact ⟨rfl, HD9.out, HB3.out.trans HC9.out⟩
            | false =>
              rw [if_neg (by simp), if_neg (by simp; intro h; omega)]
              go_enter Try.func42, Try.ntmps42
              go_wp2_with fail
              refine HSi.out.mono ?_
              rintro e1 w1 ⟨rfl, hd, hc⟩
              have h6 := hd.c6
              have HF2 := Lib.hid (HFi.out w1 hd)
              have HD := Lib.hid hd
              have HC := Lib.hid hc
              clear hd hc
              go_wp2_with fail
              refine HF2.out.mono ?_
              rintro e1 w2 ⟨rfl, rfl⟩
              go_wp2_with fail
              refine (HSt.out _).mono ?_
              rintro e1 w2 ⟨rfl, rfl⟩
              go_wp2_with fail
              refine (HTw.out _).mono ?_
              rintro e1 w2 ⟨rfl, hb⟩
              have HD2 := Lib.hid (HD.out.below hb)
              have HB2 := Lib.hid (HC.out.trans (Chg.of_below (S := EFS g gw) hb))
              clear hb
              go_wp2_with fail
              refine (HTw.out _).mono ?_
              rintro e1 w3 ⟨rfl, hb⟩
              have HD3 := Lib.hid (HD2.out.below hb)
              have HB3 := Lib.hid (HB2.out.trans (Chg.of_below (S := EFS g gw) hb))
              clear hb
              go_wp2_with fail
              refine (HSo.out w3 HD3.out).mono ?_
              rintro e1 w4 ⟨rfl, rfl⟩
              have HK := Lib.hid (double_calls c HD3.out h0 h1 (by omega))
              go_wp2_with fail
              refine HK.out.mono ?_
              rintro e w9 ⟨rfl, hd9, hc9⟩
              have HD9 := Lib.hid hd9
              have HC9 := Lib.hid hc9
              clear hd9 hc9
              go_wp2_with fail
              go_end0
              exact ⟨rfl, HD9.out, HB3.out.trans HC9.out⟩
          · cases S with
            | true =>
              rw [if_neg (by simp [hc6]), if_pos (by simp; omega)]
              go_enter Try.func42, Try.ntmps42
              go_wp2_with fail
              refine HSi.out.mono ?_
              rintro e1 w1 ⟨rfl, hd, hc⟩
              have h6 := hd.c6
              have HF2 := Lib.hid (HFi.out w1 hd)
              have HD := Lib.hid hd
              have HC := Lib.hid hc
              clear hd hc
              go_wp2_with fail
              refine HF2.out.mono ?_
              rintro e1 w2 ⟨rfl, rfl⟩
              go_wp2_with fail
              refine (HSt.out _).mono ?_
              rintro e1 w2 ⟨rfl, rfl⟩
              go_wp2_with fail
              refine (HTw.out _).mono ?_
              rintro e1 w2 ⟨rfl, hb⟩
              have HD2 := Lib.hid (HD.out.below hb)
              have HB2 := Lib.hid (HC.out.trans (Chg.of_below (S := EFS g gw) hb))
              clear hb
              go_wp2_with fail
              refine (HTw.out _).mono ?_
              rintro e1 w3 ⟨rfl, hb⟩
              have HD3 := Lib.hid (HD2.out.below hb)
              have HB3 := Lib.hid (HB2.out.trans (Chg.of_below (S := EFS g gw) hb))
              clear hb
              go_wp2_with fail
              refine (HSo.out w3 HD3.out).mono ?_
              rintro e1 w4 ⟨rfl, rfl⟩
              have HK := Lib.hid (keep_calls [14, c / 256, c % 256] HD3.out (by omega) (by simp))
              have w8 : IntKind.u8.wrap c = c % 256 := by rw [IntKind.wrap_u8]
              go_wp2_with fail
              refine HK.out.mono ?_
              rintro e w9 ⟨rfl, hd9, hc9⟩
              have HD9 := Lib.hid hd9
              have HC9 := Lib.hid hc9
              clear hd9 hc9
              go_wp2_with fail
              go_end0
              exact ⟨rfl, HD9.out, HB3.out.trans HC9.out⟩
            | false =>
              cases G with
              | true =>
                rw [if_neg (by simp), if_pos (by simp; omega)]
                go_enter Try.func42, Try.ntmps42
                go_wp2_with fail
                refine HSi.out.mono ?_
                rintro e1 w1 ⟨rfl, hd, hc⟩
                have h6 := hd.c6
                have HF2 := Lib.hid (HFi.out w1 hd)
                have HD := Lib.hid hd
                have HC := Lib.hid hc
                clear hd hc
                go_wp2_with fail
                refine HF2.out.mono ?_
                rintro e1 w2 ⟨rfl, rfl⟩
                go_wp2_with fail
                refine (HSt.out _).mono ?_
                rintro e1 w2 ⟨rfl, rfl⟩
                go_wp2_with fail
                refine (HTw.out _).mono ?_
                rintro e1 w2 ⟨rfl, hb⟩
                have HD2 := Lib.hid (HD.out.below hb)
                have HB2 := Lib.hid (HC.out.trans (Chg.of_below (S := EFS g gw) hb))
                clear hb
                go_wp2_with fail
                refine (HTw.out _).mono ?_
                rintro e1 w3 ⟨rfl, hb⟩
                have HD3 := Lib.hid (HD2.out.below hb)
                have HB3 := Lib.hid (HB2.out.trans (Chg.of_below (S := EFS g gw) hb))
                clear hb
                go_wp2_with fail
                refine (HSo.out w3 HD3.out).mono ?_
                rintro e1 w4 ⟨rfl, rfl⟩
                go_wp2_with fail
                refine (HTg.out _).mono ?_
                rintro e1 w4 ⟨rfl, rfl⟩
                have HK := Lib.hid (keep_calls [14, c / 256, c % 256] HD3.out (by omega) (by simp))
                have w8 : IntKind.u8.wrap c = c % 256 := by rw [IntKind.wrap_u8]
                go_wp2_with fail
                refine HK.out.mono ?_
                rintro e w9 ⟨rfl, hd9, hc9⟩
                have HD9 := Lib.hid hd9
                have HC9 := Lib.hid hc9
                clear hd9 hc9
                go_wp2_with fail
                go_end0
                exact ⟨rfl, HD9.out, HB3.out.trans HC9.out⟩
              | false =>
                rw [if_neg (by simp), if_neg (by simp)]
                go_enter Try.func42, Try.ntmps42
                go_wp2_with fail
                refine HSi.out.mono ?_
                rintro e1 w1 ⟨rfl, hd, hc⟩
                have h6 := hd.c6
                have HF2 := Lib.hid (HFi.out w1 hd)
                have HD := Lib.hid hd
                have HC := Lib.hid hc
                clear hd hc
                go_wp2_with fail
                refine HF2.out.mono ?_
                rintro e1 w2 ⟨rfl, rfl⟩
                go_wp2_with fail
                refine (HSt.out _).mono ?_
                rintro e1 w2 ⟨rfl, rfl⟩
                go_wp2_with fail
                refine (HTw.out _).mono ?_
                rintro e1 w2 ⟨rfl, hb⟩
                have HD2 := Lib.hid (HD.out.below hb)
                have HB2 := Lib.hid (HC.out.trans (Chg.of_below (S := EFS g gw) hb))
                clear hb
                go_wp2_with fail
                refine (HTw.out _).mono ?_
                rintro e1 w3 ⟨rfl, hb⟩
                have HD3 := Lib.hid (HD2.out.below hb)
                have HB3 := Lib.hid (HB2.out.trans (Chg.of_below (S := EFS g gw) hb))
                clear hb
                go_wp2_with fail
                refine (HSo.out w3 HD3.out).mono ?_
                rintro e1 w4 ⟨rfl, rfl⟩
                go_wp2_with fail
                refine (HTg.out _).mono ?_
                rintro e1 w4 ⟨rfl, rfl⟩
                have HK := Lib.hid (double_calls c HD3.out h0 h1 (by omega))
                go_wp2_with fail
                refine HK.out.mono ?_
                rintro e w9 ⟨rfl, hd9, hc9⟩
                have HD9 := Lib.hid hd9
                have HC9 := Lib.hid hc9
                clear hd9 hc9
                go_wp2_with fail
                go_end0
                exact ⟨rfl, HD9.out, HB3.out.trans HC9.out⟩
end
end Go.Proofs.Ytkfiahildoljfaa.Enc
