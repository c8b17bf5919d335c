/- The compressor: a scalar in the single mode. The compressor: a scalar is worked off. The compressor: made, flushed, ended; is it done? The compressor as a machine over scalars; plain; and what a feeding has done. The compressor: fed. codec.Encode by the encoder compress.Encoder. The compressor, as Encode needs it. Encode by SCSU, by either profile. TopFrames: every codec; the arguments, as the row hands them over. -/
import Derived.Test.YtooiooledeblmaaGreatF10
import Derived.Deep.CutBlock
import Derived.Deep.DeepCutAuto
section
namespace Go.Proofs.YtooiooledeblmaaGreat.Enc
open Go.RowKit Go.Proofs.YtooiooledeblmaaGreat.Win Go.Proofs.YtooiooledeblmaaGreat.Stp Go.Proofs.YtooiooledeblmaaGreatW.PrintMore
set_option linter.unusedVariables false
set_option linter.unusedSimpArgs false
theorem findFrom_spec {c : Int} : ∀ {l : List Int} {k : Nat}, (findFrom c k l).2 = true → ∃ j : Nat, j < l.length ∧ (findFrom c k l).1 = ((k + j : Nat) : Int) ∧ hld (l.getD j 0) c = true
  | [], k, h => by cases h
  | x :: l, k, h => by
    unfold findFrom at h ⊢
    by_cases hx : hld x c = true
    · rw [if_pos hx]
      exact ⟨0, by simp, by simp, hx⟩
    · rw [if_neg hx] at h ⊢
      obtain ⟨j, h1, h2, h3⟩ := findFrom_spec h
      refine ⟨j + 1, by simpa using h1, ?_, h3⟩
      rw [h2]
      have : k + 1 + j = k + (j + 1) := by omega
      rw [this]
theorem find_spec {m : E} (hG : EG m) {c : Int} (h : (wFind m.o c).2 = true) : 0 ≤ (wFind m.o c).1 ∧ (wFind m.o c).1 < 8 ∧ hld (wAt m.o (wFind m.o c).1) c = true := by
  unfold wFind at h ⊢
  obtain ⟨j, h1, h2, h3⟩ := findFrom_spec h
  rw [hG.lo] at h1
  rw [h2, Nat.zero_add]
  refine ⟨by omega, by omega, ?_⟩
  unfold wAt
  rw [if_pos (by omega)]
  simpa using h3
theorem static_spec {c : Int} (h : (staticC c).2.2 = true) : 1 ≤ (staticC c).1 ∧ (staticC c).1 < 8 ∧ 0 ≤ (staticC c).2.1 ∧ (staticC c).2.1 ≤ 12288 ∧ hld (staticC c).2.1 c = true := by
  unfold staticC at h ⊢
  by_cases hf : (findFrom c 1 (statics.drop 1)).2 = true
  · rw [if_pos hf]
    obtain ⟨j, h1, h2, h3⟩ := findFrom_spec hf
    have h7 : (statics.drop 1).length = 7 := rfl
    rw [h7] at h1
    have e : ((1 + j : Nat) : Int).toNat = 1 + j := by omega
    have e2 : (statics.drop 1).getD j 0 = statics.getD (1 + j) 0 := by rw [List.getD_eq_getElem?_getD, List.getD_eq_getElem?_getD, List.getElem?_drop]
    have := static_rng2 (k := 1 + j) (by omega)
    simp only [h2, e]
    rw [e2] at h3
    exact ⟨by omega, by omega, this.1, this.2, h3⟩
  · rw [if_neg hf] at h
    cases h
def singleC (m : E) (c d : Int) : E × List Int :=
  match simpleC m c with
  | some e => (m, e)
  | none =>
    if (wFind m.o c).2 = true then
      if ((d != 2147483648) && hld (wAt m.o (wFind m.o c).1) d) = true then ({ m with u := wTouch m.u (wFind m.o c).1, act := (wFind m.o c).1 }, [16 + (wFind m.o c).1, 128 + c - wAt m.o (wFind m.o c).1])
      else ({ m with u := wTouch m.u (wFind m.o c).1 }, [1 + (wFind m.o c).1, 128 + c - wAt m.o (wFind m.o c).1])
    else if (!twinsB c d && (staticC c).2.2) = true then (m, [1 + (staticC c).1, c - (staticC c).2.1])
    else if (twinsB c d || (decide (65536 ≤ c) && softB m.o d)) = true then (layM m c, layE m c 24 11)
    else if (decide (c < 65536) && (softB m.o d || tagB c)) = true then (m, [14, c / 256, c % 256])
    else ({ m with uni := true }, 15 :: unitsC c)
theorem own_of_twins {c d : Int} (h : twinsB c d = true) : (ownC c).2 = true := by
  unfold twinsB at h
  simp only [Bool.and_eq_true] at h
  exact h.1.1
theorem own_of_big {c : Int} (h : 65536 ≤ c) : (ownC c).2 = true := by unfold ownC; rw [if_pos h]
section
variable {w : World} {g gw : Nat} {b : B4} {l : List Int} {m : E}
set_option maxRecDepth 100000 in
set_option maxHeartbeats 16000000 in
theorem single_calls (c d : Int) (h : EncAt w g gw b l m) (hG : EG m) (h0 : 0 ≤ c) (h1 : c ≤ 1114111) (d0 : 0 ≤ d) (d1 : d ≤ 4294967295) (hl : l.length < 999900) :
    Calls Tryz.prog 205 #[.pointer (some ⟨g, 0, none⟩), .int .u32 c, .int .u32 d] w (KeepPost w g gw b (l ++ (singleC m c d).2) (singleC m c d).1) := by
  have hsi := simple_calls c h hG h0 h1 (by omega)
  have HG := Lib.hid hG
  unfold singleC
  clear h hG
  cases hs : simpleC m c with
  | some e =>
    rw [hs] at hsi
    have HSi := Lib.hid hsi
    clear hs hsi
    go_enter Tryz.func205, Tryz.ntmps205
    go_wp2_with fail
    refine HSi.out.mono ?_
    rintro e1 w1 ⟨rfl, hd, hc⟩
    have HD := Lib.hid hd
    have HC := Lib.hid hc
    clear hd hc
    go_wp2_with fail
    go_end0
    exact ⟨rfl, HD.out, HC.out⟩
  | none =>
    rw [hs] at hsi
    have HSi := Lib.hid hsi
    clear hs hsi
    simp only
    by_cases hf : (wFind m.o c).2 = true
    · rw [if_pos hf]
      have hsp := find_spec HG.out hf
      have HFi := Lib.hid (fun (w : World) (h : EncAt w g gw b l m) => find_calls gw m.o m.u c w h.win HG.out.rng h0 (by omega))
      have hat := HG.out.at_ hsp.1 hsp.2.1
      generalize hff : wFind m.o c = r at hf hsp HFi hat ⊢
      obtain ⟨n, ok⟩ := r
      simp only at hf hsp hat ⊢
      subst hf
      obtain ⟨n0, n8, hh⟩ := hsp
      rw [hld_iff] at hh
      obtain ⟨x, hx⟩ : ∃ x, x = wAt m.o n := ⟨_, rfl⟩
      have HX := Lib.hid hx
      rw [← hx] at hh hat ⊢
      clear hff hx
      obtain ⟨hh1, hh2⟩ := hh
      obtain ⟨a1, a2⟩ := hat
      have HH := Lib.hid (fun w => holds_calls x d w (by omega) (by omega) d0 d1)
      have hcs : (d != 2147483648) = false ∨ ((d != 2147483648) = true ∧ hld x d = false) ∨ ((d != 2147483648) = true ∧ hld x d = true) := by cases (d != 2147483648) <;> cases hld x d <;> simp
      rcases hcs with k1 | ⟨k1, k2⟩ | ⟨k1, k2⟩
      · rw [k1, Bool.false_and, if_neg (by decide)]
        go_enter Tryz.func205, Tryz.ntmps205
        go_wp2_with fail
        refine HSi.out.mono ?_
        rintro e1 w1 ⟨rfl, hd, hc⟩
        have h6 := hd.c6
        have HF2 := Lib.hid (HFi.out w1 hd)
        have HT := Lib.hid (touch_calls gw m.o m.u n w1 hd.win (HG.out.mem n))
        have HD := Lib.hid hd
        have HC := Lib.hid hc
        clear hd hc
        go_wp2_with fail
        refine HF2.out.mono ?_
        rintro e1 w2 ⟨rfl, rfl⟩
        go_wp2_with fail
        refine HT.out.mono ?_
        rintro e1 w2 ⟨rfl, hw, hcw⟩
        have hd2 := HD.out.wins hw hcw
        have h6b := hd2.c6
        have HAt := Lib.hid (at_calls gw m.o (wTouch m.u n) n w2 hw)
        have HHe := Lib.hid (held_calls n c hd2 (by show 0 ≤ wAt m.o n; rw [← HX.out]; omega) (by show wAt m.o n ≤ c; rw [← HX.out]; omega) (by show c - wAt m.o n < 128; rw [← HX.out]; omega) h1)
        have e3 : wAt ({ m with o := m.o, u := wTouch m.u n } : E).o n = x := HX.out.symm
        rw [e3] at HHe
        rw [← HX.out] at HAt
        have HD2 := Lib.hid hd2
        have HC2 := Lib.hid (efs_gw (g := g) hcw)
        clear hw hcw hd2 e3
        go_wp2_with fail
        refine HHe.out.mono ?_
        rintro e1 w3 ⟨rfl, rfl⟩
        have HK := Lib.hid (keep_calls [1 + n, 128 + c - x] HD2.out (by omega) (by simp))
        go_wp2_with fail
        refine HK.out.mono ?_
        rintro e w9 ⟨rfl, hd9, hc9⟩
        have HD9 := Lib.hid hd9
        have HC9 := Lib.hid hc9
        clear hd9 hc9
        go_wp2_with fail
        go_end0
        exact ⟨rfl, HD9.out, (HC.out.trans HC2.out).trans HC9.out⟩
      · rw [k1, k2, Bool.true_and, if_neg (by decide)]
        rw [k2] at HH
        clear k2
        go_enter Tryz.func205, Tryz.ntmps205
        go_wp2_with fail
        refine HSi.out.mono ?_
        rintro e1 w1 ⟨rfl, hd, hc⟩
        have h6 := hd.c6
        have HF2 := Lib.hid (HFi.out w1 hd)
        have HT := Lib.hid (touch_calls gw m.o m.u n w1 hd.win (HG.out.mem n))
        have HD := Lib.hid hd
        have HC := Lib.hid hc
        clear hd hc
        go_wp2_with fail
        refine HF2.out.mono ?_
        rintro e1 w2 ⟨rfl, rfl⟩
        go_wp2_with fail
        refine HT.out.mono ?_
        rintro e1 w2 ⟨rfl, hw, hcw⟩
        have hd2 := HD.out.wins hw hcw
        have h6b := hd2.c6
        have HAt := Lib.hid (at_calls gw m.o (wTouch m.u n) n w2 hw)
        have HHe := Lib.hid (held_calls n c hd2 (by show 0 ≤ wAt m.o n; rw [← HX.out]; omega) (by show wAt m.o n ≤ c; rw [← HX.out]; omega) (by show c - wAt m.o n < 128; rw [← HX.out]; omega) h1)
        have e3 : wAt ({ m with o := m.o, u := wTouch m.u n } : E).o n = x := HX.out.symm
        rw [e3] at HHe
        rw [← HX.out] at HAt
        have HD2 := Lib.hid hd2
        have HC2 := Lib.hid (efs_gw (g := g) hcw)
        clear hw hcw hd2 e3
        go_wp2_with fail
        refine HAt.out.mono ?_
        rintro e1 w3 ⟨rfl, rfl⟩
        go_wp2_with fail
        refine (HH.out _).mono ?_
        rintro e1 w3 ⟨rfl, rfl⟩
        go_wp2_with fail
        refine HHe.out.mono ?_
        rintro e1 w3 ⟨rfl, rfl⟩
        have HK := Lib.hid (keep_calls [1 + n, 128 + c - x] HD2.out (by omega) (by simp))
        go_wp2_with fail
        refine HK.out.mono ?_
        rintro e w9 ⟨rfl, hd9, hc9⟩
        have HD9 := Lib.hid hd9
        have HC9 := Lib.hid hc9
        clear hd9 hc9
        go_wp2_with fail
        go_end0
        exact ⟨rfl, HD9.out, (HC.out.trans HC2.out).trans HC9.out⟩
      · rw [k1, k2, Bool.true_and, if_pos rfl]
        rw [k2] at HH
        clear k2
        go_enter Tryz.func205, Tryz.ntmps205
        go_wp2_with fail
        refine HSi.out.mono ?_
        rintro e1 w1 ⟨rfl, hd, hc⟩
        have h6 := hd.c6
        have HF2 := Lib.hid (HFi.out w1 hd)
        have HT := Lib.hid (touch_calls gw m.o m.u n w1 hd.win (HG.out.mem n))
        have HD := Lib.hid hd
        have HC := Lib.hid hc
        clear hd hc
        go_wp2_with fail
        refine HF2.out.mono ?_
        rintro e1 w2 ⟨rfl, rfl⟩
        go_wp2_with fail
        refine HT.out.mono ?_
        rintro e1 w2 ⟨rfl, hw, hcw⟩
        have hd2 := HD.out.wins hw hcw
        have h6b := hd2.c6
        have HAt := Lib.hid (at_calls gw m.o (wTouch m.u n) n w2 hw)
        have HHe := Lib.hid (held_calls n c hd2 (by show 0 ≤ wAt m.o n; rw [← HX.out]; omega) (by show wAt m.o n ≤ c; rw [← HX.out]; omega) (by show c - wAt m.o n < 128; rw [← HX.out]; omega) h1)
        have e3 : wAt ({ m with o := m.o, u := wTouch m.u n } : E).o n = x := HX.out.symm
        rw [e3] at HHe
        rw [← HX.out] at HAt
        have HD2 := Lib.hid hd2
        have HC2 := Lib.hid (efs_gw (g := g) hcw)
        clear hw hcw hd2 e3
        go_wp2_with fail
        refine HAt.out.mono ?_
        rintro e1 w3 ⟨rfl, rfl⟩
        go_wp2_with fail
        refine (HH.out _).mono ?_
        rintro e1 w3 ⟨rfl, rfl⟩
        have h8 := HD2.out.c8
        have f8 := HD2.out.fz 8
        have hs3 := HD2.out.set 8 (.int .i64 n) (b' := b) (l' := l) (m' := { m with u := wTouch m.u n, act := n }) rfl rfl rfl
        have hhe3 := held_calls n c hs3 (by show 0 ≤ wAt m.o n; rw [← HX.out]; omega) (by show wAt m.o n ≤ c; rw [← HX.out]; omega) (by show c - wAt m.o n < 128; rw [← HX.out]; omega) h1
        have e3 : wAt ({ m with u := wTouch m.u n, act := n } : E).o n = x := HX.out.symm
        rw [e3] at hhe3
        have HHe3 := Lib.hid hhe3
        have hk3 := keep_calls [16 + n, 128 + c - x] hs3 (by omega) (by simp)
        have hsz3 : (w2.setCell ⟨g, 8, none⟩ (.int .i64 n)).heap.size = w2.heap.size := by simp [World.setCell]
        rw [hsz3] at hk3
        have HK := Lib.hid hk3
        clear hs3 hhe3 e3 hk3 hsz3
        go_wp2_with fail
        refine HHe3.out.mono ?_
        rintro e1 w3 ⟨rfl, rfl⟩
        go_wp2_with fail
        refine HK.out.mono ?_
        rintro e w9 ⟨rfl, hd9, hc9⟩
        have HD9 := Lib.hid hd9
        have HC9 := Lib.hid hc9
        clear hd9 hc9
        go_wp2_with fail
        go_end0
        exact ⟨rfl, HD9.out, ((HC.out.trans HC2.out).trans (efs_g 8 _)).trans HC9.out⟩
    · rw [if_neg hf]
      have hfF : (wFind m.o c).2 = false := by simpa using hf
      have HFi := Lib.hid (fun (w : World) (h : EncAt w g gw b l m) => find_calls gw m.o m.u c w h.win HG.out.rng h0 (by omega))
      rw [hfF] at HFi
      generalize (wFind m.o c).1 = n at HFi
      clear hf hfF
      have HTw := Lib.hid (fun w => twins_calls c d w h0 (by omega) d0 d1)
      have HSt := Lib.hid (fun w => cstatic_calls c w h0 (by omega))
      have HSp := Lib.hid (fun h => static_spec (c := c) h)
      have HOt := Lib.hid (fun h => own_of_twins (c := c) (d := d) h)
      have HSo := Lib.hid (fun (w : World) (h : EncAt w g gw b l m) => soft_calls d h HG.out.rng d0 d1)
      have HTg := Lib.hid (fun w => tagged_calls c w)
      generalize twinsB c d = T at HTw HOt ⊢
      generalize softB m.o d = S at HSo ⊢
      generalize tagB c = G at HTg ⊢
      generalize staticC c = r at HSt HSp ⊢
      obtain ⟨sn, so, sk⟩ := r
      simp only at HSt HSp ⊢
      cases T with
      | true =>
        rw [if_neg (by simp), if_pos (by simp)]
        go_enter Tryz.func205, Tryz.ntmps205
        go_wp2_with fail
        refine HSi.out.mono ?_
        rintro e1 w1 ⟨rfl, hd, hc⟩
        have h6 := hd.c6
        have HF2 := Lib.hid (HFi.out w1 hd)
        have HD := Lib.hid hd
        have HC := Lib.hid hc
        clear hd hc
        go_wp2_with fail
        refine HF2.out.mono ?_
        rintro e1 w2 ⟨rfl, rfl⟩
        go_wp2_with fail
        refine (HSt.out _).mono ?_
        rintro e1 w2 ⟨rfl, rfl⟩
        go_wp2_with fail
        refine (HTw.out _).mono ?_
        rintro e1 w2 ⟨rfl, hb⟩
        have HD2 := Lib.hid (HD.out.below hb)
        have HB2 := Lib.hid (HC.out.trans (Chg.of_below (S := EFS g gw) hb))
        clear hb
        go_wp2_with fail
        refine (HTw.out _).mono ?_
        rintro e1 w3 ⟨rfl, hb⟩
        have HD3 := Lib.hid (HD2.out.below hb)
        have HB3 := Lib.hid (HB2.out.trans (Chg.of_below (S := EFS g gw) hb))
        clear hb
        have HK := Lib.hid (lay_calls c 24 11 HD3.out HG.out h0 h1 (by omega) (HOt.out (by trivial)) (by decide) (by decide) (by decide) (by decide))
        go_wp2_with fail
        refine HK.out.mono ?_
        rintro e w9 ⟨rfl, hd9, hc9⟩
        have HD9 := Lib.hid hd9
        have HC9 := Lib.hid hc9
        clear hd9 hc9
        go_wp2_with fail
        go_end0
        exact ⟨rfl, HD9.out, HB3.out.trans HC9.out⟩
      | false =>
        cases sk with
        | true =>
          rw [if_pos (by simp)]
          obtain ⟨s1, s2, s3, s4, s5⟩ := HSp.out rfl
          rw [hld_iff] at s5
          obtain ⟨s5, s6⟩ := s5
          go_enter Tryz.func205, Tryz.ntmps205
          go_wp2_with fail
          refine HSi.out.mono ?_
          rintro e1 w1 ⟨rfl, hd, hc⟩
          have h6 := hd.c6
          have HF2 := Lib.hid (HFi.out w1 hd)
          have HD := Lib.hid hd
          have HC := Lib.hid hc
          clear hd hc
          go_wp2_with fail
          refine HF2.out.mono ?_
          rintro e1 w2 ⟨rfl, rfl⟩
          go_wp2_with fail
          refine (HSt.out _).mono ?_
          rintro e1 w2 ⟨rfl, rfl⟩
          go_wp2_with fail
          refine (HTw.out _).mono ?_
          rintro e1 w2 ⟨rfl, hb⟩
          have HD2 := Lib.hid (HD.out.below hb)
          have HB2 := Lib.hid (HC.out.trans (Chg.of_below (S := EFS g gw) hb))
          clear hb
          have HK := Lib.hid (keep_calls [1 + sn, c - so] HD2.out (by omega) (by simp))
          go_wp2_with fail
          refine HK.out.mono ?_
          rintro e w9 ⟨rfl, hd9, hc9⟩
          have HD9 := Lib.hid hd9
          have HC9 := Lib.hid hc9
          clear hd9 hc9
          go_wp2_with fail
          go_end0
          exact ⟨rfl, HD9.out, HB2.out.trans HC9.out⟩
        | false =>
          rw [if_neg (by simp)]
          by_cases hc6 : 65536 ≤ c
          · cases S with
            | true =>
              rw [if_pos (by simp [hc6])]
              go_enter Tryz.func205, Tryz.ntmps205
              go_wp2_with fail
              refine HSi.out.mono ?_
              rintro e1 w1 ⟨rfl, hd, hc⟩
              have h6 := hd.c6
              have HF2 := Lib.hid (HFi.out w1 hd)
              have HD := Lib.hid hd
              have HC := Lib.hid hc
              clear hd hc
              go_wp2_with fail
              refine HF2.out.mono ?_
              rintro e1 w2 ⟨rfl, rfl⟩
              go_wp2_with fail
              refine (HSt.out _).mono ?_
              rintro e1 w2 ⟨rfl, rfl⟩
              go_wp2_with fail
              refine (HTw.out _).mono ?_
              rintro e1 w2 ⟨rfl, hb⟩
              have HD2 := Lib.hid (HD.out.below hb)
              have HB2 := Lib.hid (HC.out.trans (Chg.of_below (S := EFS g gw) hb))
              clear hb
              go_wp2_with fail
              refine (HTw.out _).mono ?_
              rintro e1 w3 ⟨rfl, hb⟩
              have HD3 := Lib.hid (HD2.out.below hb)
              have HB3 := Lib.hid (HB2.out.trans (Chg.of_below (S := EFS g gw) hb))
              clear hb
              go_wp2_with fail
              refine (HSo.out w3 HD3.out).mono ?_
              rintro e1 w4 ⟨rfl, rfl⟩
              have HK := Lib.hid (lay_calls c 24 11 HD3.out HG.out h0 h1 (by omega) (own_of_big hc6) (by decide) (by decide) (by decide) (by decide))
              go_wp2_with fail
              refine HK.out.mono ?_
              rintro e w9 ⟨rfl, hd9, hc9⟩
              have HD9 := Lib.hid hd9
              have HC9 := Lib.hid hc9
              clear hd9 hc9
              go_wp2_with fail
              go_end0
              exact ⟨rfl, HD9.out, HB3.out.trans HC9.out⟩
            | false =>
              rw [if_neg (by simp), if_neg (by simp; intro h; omega)]
              go_enter Tryz.func205, Tryz.ntmps205
              go_wp2_with fail
              refine HSi.out.mono ?_
              rintro e1 w1 ⟨rfl, hd, hc⟩
              have h6 := hd.c6
              have HF2 := Lib.hid (HFi.out w1 hd)
              have HD := Lib.hid hd
              have HC := Lib.hid hc
              clear hd hc
              go_wp2_with fail
              refine HF2.out.mono ?_
              rintro e1 w2 ⟨rfl, rfl⟩
              go_wp2_with fail
              refine (HSt.out _).mono ?_
              rintro e1 w2 ⟨rfl, rfl⟩
              go_wp2_with fail
              refine (HTw.out _).mono ?_
              rintro e1 w2 ⟨rfl, hb⟩
              have HD2 := Lib.hid (HD.out.below hb)
              have HB2 := Lib.hid (HC.out.trans (Chg.of_below (S := EFS g gw) hb))
              clear hb
              go_wp2_with fail
              refine (HTw.out _).mono ?_
              rintro e1 w3 ⟨rfl, hb⟩
              have HD3 := Lib.hid (HD2.out.below hb)
              have HB3 := Lib.hid (HB2.out.trans (Chg.of_below (S := EFS g gw) hb))
              clear hb
              go_wp2_with fail
              refine (HSo.out w3 HD3.out).mono ?_
              rintro e1 w4 ⟨rfl, rfl⟩
              have HK := Lib.hid (double_calls c HD3.out h0 h1 (by omega))
              go_wp2_with fail
              refine HK.out.mono ?_
              rintro e w9 ⟨rfl, hd9, hc9⟩
              have HD9 := Lib.hid hd9
              have HC9 := Lib.hid hc9
              clear hd9 hc9
              go_wp2_with fail
              go_end0
              exact ⟨rfl, HD9.out, HB3.out.trans HC9.out⟩
          · cases S with
            | true =>
              rw [if_neg (by simp [hc6]), if_pos (by simp; omega)]
              go_enter Tryz.func205, Tryz.ntmps205
              go_wp2_with fail
              refine HSi.out.mono ?_
              rintro e1 w1 ⟨rfl, hd, hc⟩
              have h6 := hd.c6
              have HF2 := Lib.hid (HFi.out w1 hd)
              have HD := Lib.hid hd
              have HC := Lib.hid hc
              clear hd hc
              go_wp2_with fail
              refine HF2.out.mono ?_
              rintro e1 w2 ⟨rfl, rfl⟩
              go_wp2_with fail
              refine (HSt.out _).mono ?_
              rintro e1 w2 ⟨rfl, rfl⟩
              go_wp2_with fail
              refine (HTw.out _).mono ?_
              rintro e1 w2 ⟨rfl, hb⟩
              have HD2 := Lib.hid (HD.out.below hb)
              have HB2 := Lib.hid (HC.out.trans (Chg.of_below (S := EFS g gw) hb))
              clear hb
              go_wp2_with fail
              refine (HTw.out _).mono ?_
              rintro e1 w3 ⟨rfl, hb⟩
              have HD3 := Lib.hid (HD2.out.below hb)
              have HB3 := Lib.hid (HB2.out.trans (Chg.of_below (S := EFS g gw) hb))
              clear hb
              go_wp2_with fail
              refine (HSo.out w3 HD3.out).mono ?_
              rintro e1 w4 ⟨rfl, rfl⟩
              have HK := Lib.hid (keep_calls [14, c / 256, c % 256] HD3.out (by omega) (by simp))
              have w8 : IntKind.u8.wrap c = c % 256 := by rw [IntKind.wrap_u8]
              go_wp2_with fail
              refine HK.out.mono ?_
              rintro e w9 ⟨rfl, hd9, hc9⟩
              have HD9 := Lib.hid hd9
              have HC9 := Lib.hid hc9
              clear hd9 hc9
              go_wp2_with fail
              go_end0
              exact ⟨rfl, HD9.out, HB3.out.trans HC9.out⟩
            | false =>
              cases G with
              | true =>
                rw [if_neg (by simp), if_pos (by simp; omega)]
                go_enter Tryz.func205, Tryz.ntmps205
                go_wp2_with fail
                refine HSi.out.mono ?_
                rintro e1 w1 ⟨rfl, hd, hc⟩
                have h6 := hd.c6
                have HF2 := Lib.hid (HFi.out w1 hd)
                have HD := Lib.hid hd
                have HC := Lib.hid hc
                clear hd hc
                go_wp2_with fail
                refine HF2.out.mono ?_
                rintro e1 w2 ⟨rfl, rfl⟩
                go_wp2_with fail
                refine (HSt.out _).mono ?_
                rintro e1 w2 ⟨rfl, rfl⟩
                go_wp2_with fail
                refine (HTw.out _).mono ?_
                rintro e1 w2 ⟨rfl, hb⟩
                have HD2 := Lib.hid (HD.out.below hb)
                have HB2 := Lib.hid (HC.out.trans (Chg.of_below (S := EFS g gw) hb))
                clear hb
                go_wp2_with fail
                refine (HTw.out _).mono ?_
                rintro e1 w3 ⟨rfl, hb⟩
                have HD3 := Lib.hid (HD2.out.below hb)
                have HB3 := Lib.hid (HB2.out.trans (Chg.of_below (S := EFS g gw) hb))
                clear hb
                go_wp2_with fail
                refine (HSo.out w3 HD3.out).mono ?_
                rintro e1 w4 ⟨rfl, rfl⟩
                go_wp2_with fail
                refine (HTg.out _).mono ?_
                rintro e1 w4 ⟨rfl, rfl⟩
                have HK := Lib.hid (keep_calls [14, c / 256, c % 256] HD3.out (by omega) (by simp))
                have w8 : IntKind.u8.wrap c = c % 256 := by rw [IntKind.wrap_u8]
                go_wp2_with fail
                refine HK.out.mono ?_
                rintro e w9 ⟨rfl, hd9, hc9⟩
                have HD9 := Lib.hid hd9
                have HC9 := Lib.hid hc9
                clear hd9 hc9
                go_wp2_with fail
                go_end0
                exact ⟨rfl, HD9.out, HB3.out.trans HC9.out⟩
              | false =>
                rw [if_neg (by simp), if_neg (by simp)]
                go_enter Tryz.func205, Tryz.ntmps205
                go_wp2_with fail
                refine HSi.out.mono ?_
                rintro e1 w1 ⟨rfl, hd, hc⟩
                have h6 := hd.c6
                have HF2 := Lib.hid (HFi.out w1 hd)
                have HD := Lib.hid hd
                have HC := Lib.hid hc
                clear hd hc
                go_wp2_with fail
                refine HF2.out.mono ?_
                rintro e1 w2 ⟨rfl, rfl⟩
                go_wp2_with fail
                refine (HSt.out _).mono ?_
                rintro e1 w2 ⟨rfl, rfl⟩
                go_wp2_with fail
                refine (HTw.out _).mono ?_
                rintro e1 w2 ⟨rfl, hb⟩
                have HD2 := Lib.hid (HD.out.below hb)
                have HB2 := Lib.hid (HC.out.trans (Chg.of_below (S := EFS g gw) hb))
                clear hb
                go_wp2_with fail
                refine (HTw.out _).mono ?_
                rintro e1 w3 ⟨rfl, hb⟩
                have HD3 := Lib.hid (HD2.out.below hb)
                have HB3 := Lib.hid (HB2.out.trans (Chg.of_below (S := EFS g gw) hb))
                clear hb
                go_wp2_with fail
                refine (HSo.out w3 HD3.out).mono ?_
                rintro e1 w4 ⟨rfl, rfl⟩
                go_wp2_with fail
                refine (HTg.out _).mono ?_
                rintro e1 w4 ⟨rfl, rfl⟩
                have HK := Lib.hid (double_calls c HD3.out h0 h1 (by omega))
                go_wp2_with fail
                refine HK.out.mono ?_
                rintro e w9 ⟨rfl, hd9, hc9⟩
                have HD9 := Lib.hid hd9
                have HC9 := Lib.hid hc9
                clear hd9 hc9
                go_wp2_with fail
                go_end0
                exact ⟨rfl, HD9.out, HB3.out.trans HC9.out⟩
end
end Go.Proofs.YtooiooledeblmaaGreat.Enc
end
section
namespace Go.Proofs.YtooiooledeblmaaGreat.Enc
open Go.RowKit Go.Proofs.YtooiooledeblmaaGreat.Win Go.Proofs.YtooiooledeblmaaGreat.Stp Go.Proofs.YtooiooledeblmaaGreatW.PrintMore
set_option linter.unusedVariables false
set_option linter.unusedSimpArgs false
theorem touch_eg {u : List Int} {n : Int} (n0 : 0 ≤ n) (n8 : n < 8) (mem : ∀ n : Int, 0 ≤ n → n < 8 → n ∈ u) (lu : u.length = 8) (ru : ∀ n ∈ u, 0 ≤ n ∧ n < 8) : (∀ k : Int, 0 ≤ k → k < 8 → k ∈ wTouch u n) ∧ (wTouch u n).length = 8 ∧ ∀ k ∈ wTouch u n, 0 ≤ k ∧ k < 8 := by
  unfold wTouch
  rw [if_pos ⟨n0, n8⟩]
  refine ⟨fun k k0 k8 => ?_, ?_, fun k hk => ?_⟩
  · by_cases hkn : k = n
    · rw [hkn]; simp
    · rw [List.mem_append]; exact .inl ((List.mem_erase_of_ne hkn).2 (mem k k0 k8))
  · rw [List.length_append, List.length_erase_of_mem (mem n n0 n8), lu]; rfl
  · rcases List.mem_append.1 hk with hk | hk
    · exact ru k (List.mem_of_mem_erase hk)
    · rw [List.mem_singleton.1 hk]; exact ⟨n0, n8⟩
theorem EG.same {m m' : E} (h : EG m) (ho : m'.o = m.o) (hu : m'.u = m.u) (ha : m'.act = m.act) : EG m' := ⟨by rw [ho]; exact h.lo, by rw [ho]; exact h.ro, by rw [hu]; exact h.mem, by rw [hu]; exact h.lu, by rw [hu]; exact h.ru, by rw [ha]; exact h.act⟩
theorem EG.touch {m m' : E} {n : Int} (h : EG m) (n0 : 0 ≤ n) (n8 : n < 8) (ho : m'.o = m.o) (hu : m'.u = wTouch m.u n) (ha : 0 ≤ m'.act ∧ m'.act < 8) : EG m' := by
  obtain ⟨t1, t2, t3⟩ := touch_eg n0 n8 h.mem h.lu h.ru
  exact ⟨by rw [ho]; exact h.lo, by rw [ho]; exact h.ro, by rw [hu]; exact t1, by rw [hu]; exact t2, by rw [hu]; exact t3, ha⟩
theorem off_rng2 {x : Int} (h0 : 0 ≤ x) (h1 : x ≤ 255) (h : (wOffset x).2 = true) : 128 ≤ (wOffset x).1 := by
  have key : ∀ b : Fin 256, (wOffset (b.val : Int)).2 = true → 128 ≤ (wOffset (b.val : Int)).1 := by decide +kernel
  have := key ⟨x.toNat, by omega⟩
  simp only [Int.toNat_of_nonneg h0] at this
  exact this h
theorem own_rng2 {c : Int} (h0 : 0 ≤ c) (h1 : c ≤ 1114111) (h : (ownC c).2 = true) : 128 ≤ (ownC c).1 ∧ (ownC c).1 ≤ 1114000 := by
  unfold ownC at h ⊢
  by_cases hc : 65536 ≤ c
  · rw [if_pos hc]; simp only; omega
  · rw [if_neg hc] at h ⊢
    have hr := idx_rng (c := c) h0 (by omega)
    have := off_rng hr.1 hr.2
    have := off_rng2 hr.1 hr.2 (index_own h0 h).2
    simp only; omega
theorem EG.lay {m : E} {c : Int} (h : EG m) (h0 : 0 ≤ c) (h1 : c ≤ 1114111) (ho : (ownC c).2 = true) : EG (layM m c) := by
  have hn := old_rng h
  obtain ⟨t1, t2, t3⟩ := touch_eg hn.1 hn.2 h.mem h.lu h.ru
  have hr := own_rng2 h0 h1 ho
  refine ⟨by unfold layM; simp [h.lo], fun x hx => ?_, t1, t2, t3, hn⟩
  rcases List.mem_or_eq_of_mem_set hx with hx | rfl
  · exact h.ro x hx
  · exact hr
theorem EG.single {m : E} {c d : Int} (h : EG m) (h0 : 0 ≤ c) (h1 : c ≤ 1114111) : EG (singleC m c d).1 := by
  unfold singleC
  cases simpleC m c with
  | some e => exact h
  | none =>
    simp only
    split
    · rename_i hf
      have hsp := find_spec h hf
      split
      · exact h.touch hsp.1 hsp.2.1 rfl rfl ⟨hsp.1, hsp.2.1⟩
      · exact h.touch hsp.1 hsp.2.1 rfl rfl h.act
    · split
      · exact h
      · split
        · rename_i hc
          refine h.lay h0 h1 ?_
          simp only [Bool.or_eq_true, Bool.and_eq_true, decide_eq_true_eq] at hc
          rcases hc with hc | hc
          · exact own_of_twins hc
          · exact own_of_big hc.1
        · split
          · exact h
          · exact h.same rfl rfl rfl
def backC (m : E) (c : Int) : E := { m with beh := true, act := if (wFind m.o c).2 = true then (wFind m.o c).1 else m.act, u := wTouch m.u (if (wFind m.o c).2 = true then (wFind m.o c).1 else m.act), uni := false }
def workC (m : E) (c d : Int) : E × List Int :=
  if (!m.beh && (c == 65279)) = true then ({ m with beh := true }, [14, 254, 255])
  else if m.plain = true then
    if m.uni = true then ({ m with beh := true }, unitsC c)
    else match simpleC { m with beh := true } c with
      | some e => ({ m with beh := true }, e)
      | none => ({ m with beh := true, uni := true }, 15 :: unitsC c)
  else if m.uni = false then singleC { m with beh := true } c d
  else if (easyB m.o c && softB m.o d) = true then (backC m c, (224 + (backC m c).act) :: (simpleC (backC m c) c).getD [])
  else if twinsB c d = true then (layM { m with beh := true } c, layE { m with beh := true } c 232 241)
  else ({ m with beh := true }, unitsC c)
theorem EG.back {m : E} {c : Int} (h : EG m) : EG (backC m c) := by
  have hr : 0 ≤ (backC m c).act ∧ (backC m c).act < 8 := by
    unfold backC
    simp only
    split
    · rename_i hf
      have := find_spec h hf
      exact ⟨this.1, this.2.1⟩
    · exact h.act
  exact h.touch (n := (backC m c).act) hr.1 hr.2 rfl rfl hr
theorem EG.work {m : E} {c d : Int} (h : EG m) (h0 : 0 ≤ c) (h1 : c ≤ 1114111) : EG (workC m c d).1 := by
  have hb : EG { m with beh := true } := h.same rfl rfl rfl
  unfold workC
  split
  · exact hb
  · split
    · split
      · exact hb
      · split
        · exact hb
        · exact h.same rfl rfl rfl
    · split
      · exact hb.single h0 h1
      · split
        · exact h.back
        · split
          · rename_i ht
            exact hb.lay h0 h1 (own_of_twins ht)
          · exact hb
section
variable {w : World} {g gw : Nat} {b : B4} {l : List Int} {m : E}
set_option maxRecDepth 100000 in
set_option maxHeartbeats 16000000 in
theorem work_calls (c d : Int) (h : EncAt w g gw b l m) (hG : EG m) (h0 : 0 ≤ c) (h1 : c ≤ 1114111) (d0 : 0 ≤ d) (d1 : d ≤ 4294967295) (hl : l.length < 999800) :
    Calls Tryz.prog 200 #[.pointer (some ⟨g, 0, none⟩), .int .u32 c, .int .u32 d] w (KeepPost w g gw b (l ++ (workC m c d).2) (workC m c d).1) := by
  have h9 := h.c9
  have f9 := h.fz 9
  obtain ⟨bb, hbb⟩ : ∃ bb, bb = m.beh := ⟨_, rfl⟩
  rw [← hbb] at h9
  have hs := h.set 9 (.bool true) (b' := b) (l' := l) (m' := { m with beh := true }) rfl rfl rfl
  have hsz : (w.setCell ⟨g, 9, none⟩ (.bool true)).heap.size = w.heap.size := by simp [World.setCell]
  have HGb := Lib.hid (show EG { m with beh := true } from hG.same rfl rfl rfl)
  have HG := Lib.hid hG
  have HC0 := Lib.hid (efs_g (g := g) (gw := gw) (w := w) 9 (.bool true))
  have HS := Lib.hid hs
  have HSZ := Lib.hid hsz
  obtain ⟨R, hR⟩ : ∃ R, R = workC m c d := ⟨_, rfl⟩
  rw [← hR]
  unfold workC at hR
  rw [← hbb] at hR
  obtain ⟨q, hq⟩ : ∃ q, q = (!bb && (c == 65279)) := ⟨_, rfl⟩
  rw [← hq] at hR
  have HR := Lib.hid hR
  have HQ := Lib.hid hq
  clear h hG hs hsz hq hR hbb
  go_enter Tryz.func200, Tryz.ntmps200
  go_upto_region 3 with fail
  go_cut [20] (fun v wx => v = .bool q ∧ wx = w.setCell ⟨g, 9, none⟩ (.bool true))
  case first =>
    have hq := HQ.out
    cases bb <;> cases hcc : (c == 65279)
    all_goals
      rw [hcc] at hq
      subst hq
      go_wp2_with fail
      go_meet
      exact ⟨rfl, rfl⟩
  case rest =>
    obtain ⟨rfl, rfl⟩ := hcut
    obtain ⟨w1, hw1⟩ : ∃ w1, w1 = w.setCell ⟨g, 9, none⟩ (.bool true) := ⟨_, rfl⟩
    have H1 := Lib.hid (show EncAt w1 g gw b l { m with beh := true } by rw [hw1]; exact HS.out)
    have HC1 := Lib.hid (show Chg (EFS g gw) w w1 by rw [hw1]; exact HC0.out)
    rw [← hw1]
    clear hw1
    have c5 := H1.out.c5
    have c6 := H1.out.c6
    have c7 := H1.out.c7
    have c8 := H1.out.c8
    simp only at c5 c6 c7 c8
    cases q with
    | true =>
      have hr := HR.out
      rw [if_pos rfl] at hr
      replace HR := Lib.hid hr
      clear hr
      have HK := Lib.hid (keep_calls [14, 254, 255] H1.out (by omega) (by simp))
      go_wp2_with fail
      refine HK.out.mono ?_
      rintro e w9 ⟨rfl, hd9, hc9⟩
      have HD9 := Lib.hid hd9
      have HC9 := Lib.hid hc9
      clear hd9 hc9
      go_wp2_with fail
      go_end0
      refine ⟨rfl, ?_, HC1.out.trans HC9.out⟩
      rw [HR.out]
      exact HD9.out
    | false =>
      have hr := HR.out
      rw [if_neg (by simp)] at hr
      replace HR := Lib.hid hr
      clear hr
      cases hp : m.plain with
      | true =>
        have hr := HR.out
        rw [if_pos hp] at hr
        replace HR := Lib.hid hr
        clear hr
        rw [hp] at c5
        cases hu : m.uni with
        | true =>
          have hr := HR.out
          rw [if_pos hu] at hr
          replace HR := Lib.hid hr
          clear hr
          rw [hu] at c7
          have HK := Lib.hid (units_calls c H1.out h0 h1 (by omega))
          clear hp hu
          go_wp2_with fail
          refine HK.out.mono ?_
          rintro e w9 ⟨rfl, hd9, hc9⟩
          have HD9 := Lib.hid hd9
          have HC9 := Lib.hid hc9
          clear hd9 hc9
          go_wp2_with fail
          go_end0
          refine ⟨rfl, ?_, HC1.out.trans HC9.out⟩
          rw [HR.out]
          exact HD9.out
        | false =>
          have hr := HR.out
          rw [if_neg (by simp [hu])] at hr
          replace HR := Lib.hid hr
          clear hr
          rw [hu] at c7
          have hsi := simple_calls c H1.out HGb.out h0 h1 (by omega)
          cases hsc : simpleC { m with beh := true } c with
          | some e =>
            have hr := HR.out
            rw [hsc] at hsi hr
            replace HR := Lib.hid hr
            have HSi := Lib.hid hsi
            clear hp hu hsc hsi hr
            go_wp2_with fail
            refine HSi.out.mono ?_
            rintro e1 w2 ⟨rfl, hd, hc⟩
            have HD := Lib.hid hd
            have HC := Lib.hid hc
            clear hd hc
            go_wp2_with fail
            go_end0
            refine ⟨rfl, ?_, HC1.out.trans HC.out⟩
            rw [HR.out]
            exact HD.out
          | none =>
            have hr := HR.out
            rw [hsc] at hsi hr
            replace HR := Lib.hid hr
            have HSi := Lib.hid hsi
            clear hp hu hsc hsi hr
            go_wp2_with fail
            refine HSi.out.mono ?_
            rintro e1 w2 ⟨rfl, hd, hc⟩
            have HK := Lib.hid (double_calls c hd h0 h1 (by omega))
            have HC := Lib.hid hc
            clear hd hc
            go_wp2_with fail
            refine HK.out.mono ?_
            rintro e w9 ⟨rfl, hd9, hc9⟩
            have HD9 := Lib.hid hd9
            have HC9 := Lib.hid hc9
            clear hd9 hc9
            go_wp2_with fail
            go_end0
            refine ⟨rfl, ?_, (HC1.out.trans HC.out).trans HC9.out⟩
            rw [HR.out]
            exact HD9.out
      | false =>
        have hr := HR.out
        rw [if_neg (by simp [hp])] at hr
        replace HR := Lib.hid hr
        clear hr
        rw [hp] at c5
        cases hu : m.uni with
        | false =>
          have hr := HR.out
          rw [if_pos hu] at hr
          replace HR := Lib.hid hr
          clear hr
          rw [hu] at c7
          have HK := Lib.hid (single_calls c d H1.out HGb.out h0 h1 d0 d1 (by omega))
          clear hp hu
          go_wp2_with fail
          refine HK.out.mono ?_
          rintro e w9 ⟨rfl, hd9, hc9⟩
          have HD9 := Lib.hid hd9
          have HC9 := Lib.hid hc9
          clear hd9 hc9
          go_wp2_with fail
          go_end0
          refine ⟨rfl, ?_, HC1.out.trans HC9.out⟩
          rw [HR.out]
          exact HD9.out
        | true =>
          have hr := HR.out
          rw [if_neg (by simp [hu])] at hr
          replace HR := Lib.hid hr
          clear hr
          rw [hu] at c7
          have HEa := Lib.hid (easy_calls c H1.out HGb.out.rng h0 (by omega))
          have HSo := Lib.hid (soft_calls d H1.out HGb.out.rng d0 d1)
          have HTw := Lib.hid (fun w => twins_calls c d w h0 (by omega) d0 d1)
          have HOt := Lib.hid (fun h => own_of_twins (c := c) (d := d) h)
          have HFi := Lib.hid (find_calls gw m.o m.u c w1 H1.out.win HG.out.rng h0 (by omega))
          clear hp hu
          simp only at HEa HSo
          have hcs : (easyB m.o c && softB m.o d) = false ∨ (easyB m.o c = true ∧ softB m.o d = true) := by cases easyB m.o c <;> cases softB m.o d <;> simp
          rcases hcs with hes | ⟨he, hso⟩
          · have hr := HR.out
            rw [hes, if_neg (by simp)] at hr
            replace HR := Lib.hid hr
            clear hr
            have hes2 : easyB m.o c = false ∨ (easyB m.o c = true ∧ softB m.o d = false) := by
              cases h1 : easyB m.o c
              · exact .inl rfl
              · rw [h1] at hes; exact .inr ⟨rfl, by simpa using hes⟩
            clear hes
            generalize easyB m.o c = ea at HEa hes2
            generalize softB m.o d = so at HSo hes2
            have hr := HR.out
            generalize twinsB c d = T at HTw HOt hr
            replace HR := Lib.hid hr
            clear hr
            rcases hes2 with rfl | ⟨rfl, rfl⟩
            · cases T with
              | true =>
                have hr := HR.out
                rw [if_pos rfl] at hr
                replace HR := Lib.hid hr
                clear hr
                go_wp2_with fail
                refine HEa.out.mono ?_
                rintro e1 w2 ⟨rfl, rfl⟩
                go_wp2_with fail
                refine (HTw.out _).mono ?_
                rintro e1 w2 ⟨rfl, hb⟩
                have HK := Lib.hid (lay_calls c 232 241 (H1.out.below hb) HGb.out h0 h1 (by omega) (HOt.out (by trivial)) (by decide) (by decide) (by decide) (by decide))
                have HB := Lib.hid (Chg.of_below (S := EFS g gw) hb)
                clear hb
                go_wp2_with fail
                refine HK.out.mono ?_
                rintro e w9 ⟨rfl, hd9, hc9⟩
                have HD9 := Lib.hid hd9
                have HC9 := Lib.hid hc9
                clear hd9 hc9
                go_wp2_with fail
                go_end0
                refine ⟨rfl, ?_, (HC1.out.trans HB.out).trans HC9.out⟩
                rw [HR.out]
                exact HD9.out
              | false =>
                have hr := HR.out
                rw [if_neg (by simp)] at hr
                replace HR := Lib.hid hr
                clear hr
                go_wp2_with fail
                refine HEa.out.mono ?_
                rintro e1 w2 ⟨rfl, rfl⟩
                go_wp2_with fail
                refine (HTw.out _).mono ?_
                rintro e1 w2 ⟨rfl, hb⟩
                have HK := Lib.hid (units_calls c (H1.out.below hb) h0 h1 (by omega))
                have HB := Lib.hid (Chg.of_below (S := EFS g gw) hb)
                clear hb
                go_wp2_with fail
                refine HK.out.mono ?_
                rintro e w9 ⟨rfl, hd9, hc9⟩
                have HD9 := Lib.hid hd9
                have HC9 := Lib.hid hc9
                clear hd9 hc9
                go_wp2_with fail
                go_end0
                refine ⟨rfl, ?_, (HC1.out.trans HB.out).trans HC9.out⟩
                rw [HR.out]
                exact HD9.out
            · cases T with
              | true =>
                have hr := HR.out
                rw [if_pos rfl] at hr
                replace HR := Lib.hid hr
                clear hr
                go_wp2_with fail
                refine HEa.out.mono ?_
                rintro e1 w2 ⟨rfl, rfl⟩
                go_wp2_with fail
                refine HSo.out.mono ?_
                rintro e1 w2 ⟨rfl, rfl⟩
                go_wp2_with fail
                refine (HTw.out _).mono ?_
                rintro e1 w2 ⟨rfl, hb⟩
                have HK := Lib.hid (lay_calls c 232 241 (H1.out.below hb) HGb.out h0 h1 (by omega) (HOt.out (by trivial)) (by decide) (by decide) (by decide) (by decide))
                have HB := Lib.hid (Chg.of_below (S := EFS g gw) hb)
                clear hb
                go_wp2_with fail
                refine HK.out.mono ?_
                rintro e w9 ⟨rfl, hd9, hc9⟩
                have HD9 := Lib.hid hd9
                have HC9 := Lib.hid hc9
                clear hd9 hc9
                go_wp2_with fail
                go_end0
                refine ⟨rfl, ?_, (HC1.out.trans HB.out).trans HC9.out⟩
                rw [HR.out]
                exact HD9.out
              | false =>
                have hr := HR.out
                rw [if_neg (by simp)] at hr
                replace HR := Lib.hid hr
                clear hr
                go_wp2_with fail
                refine HEa.out.mono ?_
                rintro e1 w2 ⟨rfl, rfl⟩
                go_wp2_with fail
                refine HSo.out.mono ?_
                rintro e1 w2 ⟨rfl, rfl⟩
                go_wp2_with fail
                refine (HTw.out _).mono ?_
                rintro e1 w2 ⟨rfl, hb⟩
                have HK := Lib.hid (units_calls c (H1.out.below hb) h0 h1 (by omega))
                have HB := Lib.hid (Chg.of_below (S := EFS g gw) hb)
                clear hb
                go_wp2_with fail
                refine HK.out.mono ?_
                rintro e w9 ⟨rfl, hd9, hc9⟩
                have HD9 := Lib.hid hd9
                have HC9 := Lib.hid hc9
                clear hd9 hc9
                go_wp2_with fail
                go_end0
                refine ⟨rfl, ?_, (HC1.out.trans HB.out).trans HC9.out⟩
                rw [HR.out]
                exact HD9.out
          · have hr := HR.out
            rw [he, hso, if_pos (by simp)] at hr
            rw [he] at HEa
            rw [hso] at HSo
            clear he hso
            have hbr := HG.out.back (c := c)
            obtain ⟨n, hn⟩ : ∃ n, n = (backC m c).act := ⟨_, rfl⟩
            have hnr := hbr.act
            rw [← hn] at hnr hr
            replace HR := Lib.hid hr
            clear hr
            obtain ⟨n0, n8⟩ := hnr
            have hbe : backC m c = { m with beh := true, act := n, u := wTouch m.u n, uni := false } := by rw [hn]; rfl
            have hnn : ((wFind m.o c).2 = true ∧ (wFind m.o c).1 = n) ∨ ((wFind m.o c).2 = false ∧ m.act = n) := by
              rw [hn]
              unfold backC
              simp only
              cases h2 : (wFind m.o c).2
              · right; simp
              · left; simp
            have HBE := Lib.hid hbe
            have HBR := Lib.hid hbr
            have HU := Lib.hid (use_calls n H1.out (HGb.out.mem n))
            clear hbr hn hbe
            have hrest : ∀ w2 : World, EncAt w2 g gw b l { m with beh := true, act := n, u := wTouch m.u n } → Chg (EFS g gw) w1 w2 → EncAt (w2.setCell ⟨g, 7, none⟩ (.bool false)) g gw b l (backC m c) := fun w2 hd hc => by
              rw [HBE.out]
              exact hd.set 7 (.bool false) rfl rfl rfl
            have HRest := Lib.hid hrest
            clear hrest
            generalize wFind m.o c = r at HFi hnn
            obtain ⟨fn, fk⟩ := r
            simp only at hnn
            rcases hnn with ⟨rfl, rfl⟩ | ⟨rfl, rfl⟩
            · go_wp2_with fail
              refine HEa.out.mono ?_
              rintro e1 w2 ⟨rfl, rfl⟩
              go_wp2_with fail
              refine HSo.out.mono ?_
              rintro e1 w2 ⟨rfl, rfl⟩
              go_wp2_with fail
              refine HFi.out.mono ?_
              rintro e1 w2 ⟨rfl, rfl⟩
              go_wp2_with fail
              refine HU.out.mono ?_
              rintro e1 w2 ⟨rfl, hd, hc⟩
              have c7b := hd.c7
              have f7b := hd.fz 7
              have hb2 := HRest.out w2 hd hc
              have hsz2 : (w2.setCell ⟨g, 7, none⟩ (.bool false)).heap.size = w2.heap.size := by simp [World.setCell]
              have hk := keep_calls [224 + fn] hb2 (by omega) (by simp)
              rw [hsz2] at hk
              have HK := Lib.hid hk
              have HC2 := Lib.hid (HC1.out.trans (hc.trans (efs_g 7 (.bool false))))
              clear hd hc hb2 hsz2 hk
              go_wp2_with fail
              refine HK.out.mono ?_
              rintro e1 w3 ⟨rfl, hd3, hc3⟩
              have hsi := simple_calls c hd3 HBR.out h0 h1 (by rw [List.length_append]; simp; omega)
              have HC3 := Lib.hid (HC2.out.trans hc3)
              cases hsc : simpleC (backC m c) c with
              | some e =>
                have hr := HR.out
                rw [hsc] at hsi hr
                replace HR := Lib.hid hr
                have HSi := Lib.hid hsi
                clear hsi hsc hd3 hc3 hr
                go_wp2_with fail
                refine HSi.out.mono ?_
                rintro e1 w4 ⟨rfl, hd4, hc4⟩
                have HD4 := Lib.hid hd4
                have HC4 := Lib.hid hc4
                clear hd4 hc4
                go_wp2_with fail
                go_end0
                refine ⟨rfl, ?_, HC3.out.trans HC4.out⟩
                rw [HR.out]
                have := HD4.out
                rw [List.append_assoc] at this
                exact this
              | none =>
                have hr := HR.out
                rw [hsc] at hsi hr
                replace HR := Lib.hid hr
                have HSi := Lib.hid hsi
                clear hsi hsc hd3 hc3 hr
                go_wp2_with fail
                refine HSi.out.mono ?_
                rintro e1 w4 ⟨rfl, hd4, hc4⟩
                have HD4 := Lib.hid hd4
                have HC4 := Lib.hid hc4
                clear hd4 hc4
                go_wp2_with fail
                go_end0
                refine ⟨rfl, ?_, HC3.out.trans HC4.out⟩
                rw [HR.out]
                exact HD4.out
            · go_wp2_with fail
              refine HEa.out.mono ?_
              rintro e1 w2 ⟨rfl, rfl⟩
              go_wp2_with fail
              refine HSo.out.mono ?_
              rintro e1 w2 ⟨rfl, rfl⟩
              go_wp2_with fail
              refine HFi.out.mono ?_
              rintro e1 w2 ⟨rfl, rfl⟩
              go_wp2_with fail
              refine HU.out.mono ?_
              rintro e1 w2 ⟨rfl, hd, hc⟩
              have c7b := hd.c7
              have f7b := hd.fz 7
              have hb2 := HRest.out w2 hd hc
              have hsz2 : (w2.setCell ⟨g, 7, none⟩ (.bool false)).heap.size = w2.heap.size := by simp [World.setCell]
              have hk := keep_calls [224 + m.act] hb2 (by omega) (by simp)
              rw [hsz2] at hk
              have HK := Lib.hid hk
              have HC2 := Lib.hid (HC1.out.trans (hc.trans (efs_g 7 (.bool false))))
              clear hd hc hb2 hsz2 hk
              go_wp2_with fail
              refine HK.out.mono ?_
              rintro e1 w3 ⟨rfl, hd3, hc3⟩
              have hsi := simple_calls c hd3 HBR.out h0 h1 (by rw [List.length_append]; simp; omega)
              have HC3 := Lib.hid (HC2.out.trans hc3)
              cases hsc : simpleC (backC m c) c with
              | some e =>
                have hr := HR.out
                rw [hsc] at hsi hr
                replace HR := Lib.hid hr
                have HSi := Lib.hid hsi
                clear hsi hsc hd3 hc3 hr
                go_wp2_with fail
                refine HSi.out.mono ?_
                rintro e1 w4 ⟨rfl, hd4, hc4⟩
                have HD4 := Lib.hid hd4
                have HC4 := Lib.hid hc4
                clear hd4 hc4
                go_wp2_with fail
                go_end0
                refine ⟨rfl, ?_, HC3.out.trans HC4.out⟩
                rw [HR.out]
                have := HD4.out
                rw [List.append_assoc] at this
                exact this
              | none =>
                have hr := HR.out
                rw [hsc] at hsi hr
                replace HR := Lib.hid hr
                have HSi := Lib.hid hsi
                clear hsi hsc hd3 hc3 hr
                go_wp2_with fail
                refine HSi.out.mono ?_
                rintro e1 w4 ⟨rfl, hd4, hc4⟩
                have HD4 := Lib.hid hd4
                have HC4 := Lib.hid hc4
                clear hd4 hc4
                go_wp2_with fail
                go_end0
                refine ⟨rfl, ?_, HC3.out.trans HC4.out⟩
                rw [HR.out]
                exact HD4.out
end
end Go.Proofs.YtooiooledeblmaaGreat.Enc
end
section
namespace Go.Proofs.YtooiooledeblmaaGreat.Enc
open Go.RowKit Go.Proofs.YtooiooledeblmaaGreat.Win Go.Proofs.YtooiooledeblmaaGreat.Stp Go.Proofs.YtooiooledeblmaaGreatW.PrintMore
set_option linter.unusedVariables false
set_option linter.unusedSimpArgs false
def isB (c : Int) : Bool := decide (c ≤ 1114111) && (decide (c < 55296) || decide (57343 < c))
theorem sis_calls (c : Int) (w : World) : Calls Tryz.prog 77 #[.int .u32 c] w fun e w' => e = .returned (.bool (isB c)) ∧ w = w' := by
  unfold isB
  by_cases h1 : c ≤ 1114111
  · by_cases h2 : c < 55296
    · rw [decide_eq_true h1, decide_eq_true h2]
      go_enter Tryz.func77, Tryz.ntmps77
      go_wp2
      go_ret
      exact ⟨rfl, rfl⟩
    · rw [decide_eq_true h1, decide_eq_false h2]
      go_enter Tryz.func77, Tryz.ntmps77
      go_wp2
      go_ret
      exact ⟨rfl, rfl⟩
  · rw [decide_eq_false h1]
    go_enter Tryz.func77, Tryz.ntmps77
    go_wp2
    go_ret
    exact ⟨rfl, rfl⟩
def e0 (p : Bool) : E := { o := firsts, u := used0, plain := p, uni := false, act := 0, beh := false, wt := 2147483648 }
def b40 : B4 := { at_ := 0, err := 0, pl := 0, fin := false }
theorem eg0 (p : Bool) : EG (e0 p) := by
  have h2 : ∀ x ∈ firsts, 128 ≤ x ∧ x ≤ 1114000 := by decide +kernel
  have h5 : ∀ n ∈ used0, 0 ≤ n ∧ n < 8 := by decide +kernel
  refine ⟨rfl, h2, fun n h0 h8 => ?_, rfl, h5, ⟨Int.le_refl 0, by show (0 : Int) < 8; decide⟩⟩
  show n ∈ used0
  have : n = 0 ∨ n = 1 ∨ n = 2 ∨ n = 3 ∨ n = 4 ∨ n = 5 ∨ n = 6 ∨ n = 7 := by omega
  rcases this with rfl | rfl | rfl | rfl | rfl | rfl | rfl | rfl <;> decide
theorem newEncoder_calls (p : Bool) (w : World) : Calls Tryz.prog 68 #[.bool p] w fun e w' => e = .returned (.pointer (some ⟨w.heap.size + 1, 0, none⟩)) ∧ EncAt w' (w.heap.size + 1) w.heap.size b40 [] (e0 p) ∧ Below w.heap.size w w' ∧ w'.heap.size = w.heap.size + 2 := by
  have hn : Calls Tryz.prog 107 #[] w fun e w' => e = .returned (.pointer (some ⟨w.heap.size, 0, none⟩)) ∧ w' = w.alloc (.cells (winCells firsts used0).toArray 229) := by
    go_enter Tryz.func107, Tryz.ntmps107
    go_wp2
    go_ret
    exact ⟨rfl, rfl⟩
  go_enter Tryz.func68, Tryz.ntmps68
  go_wp2_with (go_at_call 107; refine hn.mono ?_; rintro e w1 ⟨rfl, rfl⟩)
  go_ret
  have e1 : (w.alloc (.cells (winCells firsts used0).toArray 229)).heap.size = w.heap.size + 1 := by simp
  refine ⟨rfl, ⟨?_, ⟨?_, rfl, rfl⟩⟩, ((Below.refl _ _).alloc (Nat.le_refl _) _).alloc (by simp) _, by simp⟩
  · rw [← e1]; exact heap_alloc_new _ _
  · rw [Below.heap_alloc _ _ _ (by simp)]; exact heap_alloc_new _ _
/-- What waits: nothing, or a scalar. -/
def Wt (m : E) : Prop := m.wt = 2147483648 ∨ 0 ≤ m.wt ∧ m.wt ≤ 1114111
def flushC (m : E) : E × List Int := if m.wt = 2147483648 then (m, []) else ({ (workC m m.wt 2147483648).1 with wt := 2147483648 }, (workC m m.wt 2147483648).2)
theorem EG.flush {m : E} (h : EG m) (hw : Wt m) : EG (flushC m).1 := by
  unfold flushC
  split
  · exact h
  · rename_i hne
    rcases hw with h1 | ⟨h1, h2⟩
    · exact absurd h1 hne
    · exact (h.work h1 h2).same rfl rfl rfl
section
variable {w : World} {g gw : Nat} {b : B4} {l : List Int} {m : E}
theorem flush_calls (h : EncAt w g gw b l m) (hG : EG m) (hw : Wt m) (hl : l.length < 999800) :
    Calls Tryz.prog 199 #[.pointer (some ⟨g, 0, none⟩)] w (KeepPost w g gw b (l ++ (flushC m).2) (flushC m).1) := by
  have h10 := h.c10
  unfold flushC
  by_cases hn : m.wt = 2147483648
  · rw [if_pos hn]
    have hb : (m.wt != 2147483648) = false := by simp [hn]
    have H := Lib.hid h
    clear h hG hw hn
    go_enter Tryz.func199, Tryz.ntmps199
    go_wp2_with fail
    go_end0
    refine ⟨rfl, ?_, Chg.refl _⟩
    simp only [List.append_nil]
    exact H.out
  · rw [if_neg hn]
    have hb : (m.wt != 2147483648) = true := by simp [hn]
    have hr : 0 ≤ m.wt ∧ m.wt ≤ 1114111 := by
      rcases hw with h1 | h1
      · exact absurd h1 hn
      · exact h1
    have HW := Lib.hid (work_calls m.wt 2147483648 h hG hr.1 hr.2 (by decide) (by decide) hl)
    clear h hG hw hn hr
    go_enter Tryz.func199, Tryz.ntmps199
    go_wp2_with fail
    refine HW.out.mono ?_
    rintro e w1 ⟨rfl, hd, hc⟩
    have h10b := hd.c10
    have f10b := hd.fz 10
    have HD := Lib.hid hd
    have HC := Lib.hid hc
    clear hd hc
    go_wp2_with fail
    go_end0
    exact ⟨rfl, HD.out.set 10 (.int .u32 2147483648) rfl rfl rfl, HC.out.trans (efs_g 10 _)⟩
def endM (b : B4) (m : E) : E := if b.going = true then (flushC m).1 else m
def endE (b : B4) (m : E) : List Int := if b.going = true then (flushC m).2 else []
def finB (b : B4) : B4 := if b.going = true then { b with fin := true } else b
theorem bend_enc (h : EncAt w g gw b l m) : Calls Tryz.prog 139 #[.pointer (some ⟨g, 0, none⟩)] w fun e w' => e = .returned (.tuple #[]) ∧ EncAt w' g gw (finB b) l m ∧ Chg (EFS g gw) w w' := by
  refine (bend_calls g b w h.base).mono ?_
  rintro e w' ⟨rfl, rfl⟩
  unfold finB
  cases hg : b.going with
  | true => rw [if_pos rfl, if_pos rfl]; exact ⟨rfl, h.set 3 (.bool true) rfl rfl rfl, efs_g 3 _⟩
  | false => rw [if_neg (by decide), if_neg (by decide)]; exact ⟨rfl, h, Chg.refl _⟩
theorem end_calls (h : EncAt w g gw b l m) (hG : EG m) (hw : Wt m) (hl : l.length < 999800) :
    Calls Tryz.prog 197 #[.pointer (some ⟨g, 0, none⟩)] w fun e w' => e = .returned (.tuple #[]) ∧ EncAt w' g gw (finB b) (l ++ endE b m) (endM b m) ∧ Chg (EFS g gw) w w' := by
  have hgo := going_calls g b w h.base
  unfold endE endM
  cases hg : b.going with
  | true =>
    rw [hg] at hgo
    rw [if_pos rfl, if_pos rfl]
    have HGo := Lib.hid hgo
    have HF := Lib.hid (flush_calls h hG hw hl)
    clear h hG hw hg hgo
    go_enter Tryz.func197, Tryz.ntmps197
    go_wp2_with fail
    refine HGo.out.mono ?_
    rintro e w1 ⟨rfl, rfl⟩
    go_wp2_with fail
    refine HF.out.mono ?_
    rintro e w1 ⟨rfl, hd, hc⟩
    have HB := Lib.hid (bend_enc hd)
    have HC := Lib.hid hc
    clear hd hc
    go_wp2_with fail
    refine HB.out.mono ?_
    rintro e w2 ⟨rfl, hd, hc⟩
    have HD2 := Lib.hid hd
    have HC2 := Lib.hid hc
    clear hd hc
    go_wp2_with fail
    go_end0
    exact ⟨rfl, HD2.out, HC.out.trans HC2.out⟩
  | false =>
    rw [hg] at hgo
    rw [if_neg (by simp), if_neg (by simp), List.append_nil]
    have HGo := Lib.hid hgo
    have HB := Lib.hid (bend_enc h)
    clear h hG hw hg hgo
    go_enter Tryz.func197, Tryz.ntmps197
    go_wp2_with fail
    refine HGo.out.mono ?_
    rintro e w1 ⟨rfl, rfl⟩
    go_wp2_with fail
    refine HB.out.mono ?_
    rintro e w2 ⟨rfl, hd, hc⟩
    have HD2 := Lib.hid hd
    have HC2 := Lib.hid hc
    clear hd hc
    go_wp2_with fail
    go_end0
    exact ⟨rfl, HD2.out, HC2.out⟩
theorem done_calls (h : EncAt w g gw b l m) (hl : l.length ≤ 1000000) :
    Calls Tryz.prog 138 #[.pointer (some ⟨g, 0, none⟩)] w fun e w' => e = .returned (.bool (!b.going && decide (l = []))) ∧ w = w' := by
  have hgo := going_calls g b w h.base
  have HK := Lib.hid (kept_calls h hl)
  cases hg : b.going with
  | true =>
    rw [hg] at hgo
    have HGo := Lib.hid hgo
    clear h hg hgo
    go_enter Tryz.func138, Tryz.ntmps138
    go_wp2_with (first | (go_at_call 143; refine HGo.out.mono ?_; rintro e w1 ⟨rfl, rfl⟩) | (go_at_call 142; refine HK.out.mono ?_; rintro e w1 ⟨rfl, rfl⟩))
    go_ret
    exact ⟨rfl, rfl⟩
  | false =>
    rw [hg] at hgo
    have HGo := Lib.hid hgo
    have hle : decide (l = []) = ((l.length : Int) == 0) := by
      rw [Bool.eq_iff_iff]
      simp
    rw [hle]
    clear h hg hgo hle
    obtain ⟨n, hn⟩ : ∃ n, n = l.length := ⟨_, rfl⟩
    rw [← hn] at HK ⊢
    clear hn
    go_enter Tryz.func138, Tryz.ntmps138
    go_wp2_with (first | (go_at_call 143; refine HGo.out.mono ?_; rintro e w1 ⟨rfl, rfl⟩) | (go_at_call 142; refine HK.out.mono ?_; rintro e w1 ⟨rfl, rfl⟩))
    go_ret
    exact ⟨rfl, rfl⟩
end
end Go.Proofs.YtooiooledeblmaaGreat.Enc
end
section
namespace Go.Proofs.YtooiooledeblmaaGreat.Enc
open Go.RowKit Go.Proofs.YtooiooledeblmaaGreat.Win Go.Proofs.YtooiooledeblmaaGreat.Stp Go.Proofs.YtooiooledeblmaaGreat.Lst
set_option linter.unusedVariables false
set_option linter.unusedSimpArgs false
def pushC (m : E) (c : Int) : E × List Int := if m.wt = 2147483648 then ({ m with wt := c }, []) else ({ (workC m m.wt c).1 with wt := c }, (workC m m.wt c).2)
def pushes (m : E) : List Int → E × List Int
  | [] => (m, [])
  | c :: cs => ((pushes (pushC m c).1 cs).1, (pushC m c).2 ++ (pushes (pushC m c).1 cs).2)
theorem pushes_snoc (c : Int) : ∀ (cs : List Int) (m : E), pushes m (cs ++ [c]) = ((pushC (pushes m cs).1 c).1, (pushes m cs).2 ++ (pushC (pushes m cs).1 c).2)
  | [], m => by simp [pushes]
  | x :: cs, m => by
    have ih := pushes_snoc c cs (pushC m x).1
    simp only [pushes, List.cons_append]
    rw [ih]
    simp
theorem simple_len {m : E} {c : Int} {e : List Int} (h : simpleC m c = some e) : e.length ≤ 2 := by
  unfold simpleC at h
  split at h
  · injection h with h; rw [← h]; simp
  · split at h
    · injection h with h; rw [← h]; simp
    · split at h
      · injection h with h; rw [← h]; simp
      · cases h
theorem units_len (c : Int) : (unitsC c).length ≤ 4 := by
  unfold unitsC
  split
  · simp
  · split <;> simp
theorem lay_len (m : E) (c ix pr : Int) : (layE m c ix pr).length ≤ 4 := by
  unfold layE
  split <;> simp
theorem single_len (m : E) (c d : Int) : (singleC m c d).2.length ≤ 5 := by
  unfold singleC
  cases hs : simpleC m c with
  | some e => have := simple_len hs; simp only; omega
  | none =>
    simp only
    split
    · split <;> simp
    · split
      · simp
      · split
        · have := lay_len m c 24 11; simp only; omega
        · split
          · simp
          · have := units_len c; simp only [List.length_cons]; omega
theorem work_len (m : E) (c d : Int) : (workC m c d).2.length ≤ 10 := by
  unfold workC
  split
  · simp
  · split
    · split
      · have := units_len c; simp only; omega
      · split
        · rename_i e hs; have := simple_len hs; simp only; omega
        · have := units_len c; simp only [List.length_cons]; omega
    · split
      · have := single_len { m with beh := true } c d; omega
      · split
        · cases hs : simpleC (backC m c) c with
          | some e => have := simple_len hs; simp; omega
          | none => simp
        · split
          · have := lay_len { m with beh := true } c 232 241; simp only; omega
          · have := units_len c; simp only; omega
theorem push_len (m : E) (c : Int) : (pushC m c).2.length ≤ 10 := by
  unfold pushC
  split
  · simp
  · exact work_len _ _ _
theorem pushes_len : ∀ (cs : List Int) (m : E), (pushes m cs).2.length ≤ 10 * cs.length
  | [], m => by simp [pushes]
  | x :: cs, m => by
    have h1 := push_len m x
    have h2 := pushes_len cs (pushC m x).1
    simp only [pushes, List.length_append, List.length_cons]
    omega
theorem flush_len (m : E) : (flushC m).2.length ≤ 10 := by
  unfold flushC
  split
  · simp
  · exact work_len _ _ _
theorem isB_rng {c : Int} (h : isB c = true) : c ≤ 1114111 := by
  unfold isB at h
  simp only [Bool.and_eq_true, decide_eq_true_eq] at h
  exact h.1
theorem EG.push {m : E} {c : Int} (h : EG m) (hw : Wt m) : EG (pushC m c).1 := by
  unfold pushC
  split
  · exact h.same rfl rfl rfl
  · rename_i hne
    rcases hw with h1 | ⟨h1, h2⟩
    · exact absurd h1 hne
    · exact (h.work h1 h2).same rfl rfl rfl
theorem wt_push (m : E) (c : Int) : (pushC m c).1.wt = c := by
  unfold pushC
  split <;> rfl
/-- What a feeding has done. -/
structure FedE (b : B4) (m : E) (p : List Int) (l : List Int) (room : Int) (n : Nat) (S : List Int) (b' : B4) (m' : E) (p' : List Int) : Prop where
  le : n ≤ l.length
  sc : ∀ c ∈ l.take n, isB c = true
  fits : (S.length : Int) ≤ room ∨ S = []
  full : p' = [] ∨ room ≤ (S.length : Int)
  go : n ≠ 0 → b.going = true
  way : (b.going = true ∧ n < l.length ∧ isB (l.getD n 0) = false ∧ m' = (flushC (pushes m (l.take n)).1).1 ∧ S ++ p' = p ++ (pushes m (l.take n)).2 ++ (flushC (pushes m (l.take n)).1).2 ∧ b' = { b with at_ := b.at_ + n, err := 2, pl := b.at_ + n }) ∨
    (m' = (pushes m (l.take n)).1 ∧ S ++ p' = p ++ (pushes m (l.take n)).2 ∧ b' = { b with at_ := b.at_ + n } ∧ (n = l.length ∨ p' ≠ [] ∨ b.going = false))
theorem clip_spec (r : Int) (n : Nat) : clipN r n ≤ n ∧ ((clipN r n : Int) ≤ r ∨ clipN r n = 0) ∧ (clipN r n = n ∨ r ≤ (clipN r n : Int)) := by
  unfold clipN
  refine ⟨?_, ?_, ?_⟩ <;> (repeat' (first | omega | split))
/-- More is given. -/
theorem give_more {S q : List Int} {room : Int} (h1 : (S.length : Int) ≤ room ∨ S = []) :
    (((S ++ q.take (clipN (room - S.length) q.length)).length : Int) ≤ room ∨ S ++ q.take (clipN (room - S.length) q.length) = []) ∧
    (q.drop (clipN (room - S.length) q.length) = [] ∨ room ≤ ((S ++ q.take (clipN (room - S.length) q.length)).length : Int)) ∧
    (S ++ q.take (clipN (room - S.length) q.length)) ++ q.drop (clipN (room - S.length) q.length) = S ++ q := by
  obtain ⟨c1, c2, c3⟩ := clip_spec (room - S.length) q.length
  generalize clipN (room - S.length) q.length = k at c1 c2 c3
  have hl : (S ++ q.take k).length = S.length + k := by rw [List.length_append, List.length_take, Nat.min_eq_left c1]
  refine ⟨?_, ?_, by rw [List.append_assoc, List.take_append_drop]⟩
  · rw [hl]
    rcases c2 with c2 | c2
    · left; omega
    · rcases h1 with h1 | h1
      · left; omega
      · right; rw [h1, c2]; simp
  · rw [hl]
    rcases c3 with c3 | c3
    · left; rw [c3, List.drop_length]
    · right; omega
end Go.Proofs.YtooiooledeblmaaGreat.Enc
end
section
namespace Go.Proofs.YtooiooledeblmaaGreat.Enc
open Go.RowKit Go.Proofs.YtooiooledeblmaaGreat.Win Go.Proofs.YtooiooledeblmaaGreat.Stp Go.Proofs.YtooiooledeblmaaGreat.Lst
set_option linter.unusedVariables false
set_option linter.unusedSimpArgs false
def FeedRel (w : World) (g gw : Nat) (b : B4) (m : E) (p l : List Int) (room : Int) (vo i : Value) (wr : World) : Prop :=
  ∃ (n : Nat) (S p' : List Int) (m' : E), i = .int .i64 n ∧ vo = .string (strOfNums S) ∧ n ≤ l.length ∧ EncAt wr g gw { b with at_ := b.at_ + n } p' m' ∧ EG m' ∧ Wt m' ∧ Chg (EFS g gw) w wr ∧ (∀ c ∈ l.take n, isB c = true) ∧
    ((S.length : Int) ≤ room ∨ S = []) ∧ (p' = [] ∨ room ≤ (S.length : Int)) ∧ (n ≠ 0 → b.going = true) ∧ m' = (pushes m (l.take n)).1 ∧ S ++ p' = p ++ (pushes m (l.take n)).2
def FeedMid (w : World) (g gw : Nat) (b : B4) (m : E) (p l : List Int) (room : Int) (vo i : Value) (wr : World) : Prop :=
  ∃ (n : Nat) (S p' : List Int) (b' : B4) (m' : E), i = .int .i64 n ∧ vo = .string (strOfNums S) ∧ EncAt wr g gw b' p' m' ∧ EG m' ∧ Wt m' ∧ Chg (EFS g gw) w wr ∧ FedE b m p l room n S b' m' p'
def FeedPost (w : World) (g gw : Nat) (b : B4) (m : E) (p l : List Int) (room : Int) (e : Ending) (wr : World) : Prop :=
  ∃ (n : Nat) (S p' : List Int) (b' : B4) (m' : E), e = .returned (.tuple #[.int .i64 n, .string (strOfNums S)]) ∧ EncAt wr g gw b' p' m' ∧ EG m' ∧ Wt m' ∧ Chg (EFS g gw) w wr ∧ FedE b m p l room n S b' m' p'
set_option maxRecDepth 100000 in
set_option maxHeartbeats 16000000 in
theorem feed_calls {w : World} {g gw : Nat} {b : B4} {p l : List Int} {m : E} {A : Option Addr} {cap : Nat} (room : Int) (h : EncAt w g gw b p m) (hG : EG m) (hw : Wt m) (hp : p.length ≤ 200000) (hl : l.length ≤ 10000)
    (hA : ∀ wr, Chg (EFS g gw) w wr → Lst wr .u32 A l) (hr : ∀ x ∈ l, 0 ≤ x ∧ x ≤ 4294967295) (r0 : 0 ≤ room) (r1 : room ≤ 1000000) (hb0 : 0 ≤ b.at_) (hb1 : b.at_ ≤ 1000000) :
    Calls Tryz.prog 198 #[.pointer (some ⟨g, 0, none⟩), .slice A l.length cap, .int .i64 room] w (FeedPost w g gw b m p l room) := by
  have hgi := give_calls room h (by omega)
  obtain ⟨k, hk⟩ : ∃ k, k = clipN room p.length := ⟨_, rfl⟩
  rw [← hk] at hgi
  have hgm := give_more (S := []) (q := p) (room := room) (.inr rfl)
  rw [show room - (([] : List Int).length : Int) = room by simp, ← hk] at hgm
  simp only [List.nil_append] at hgm
  have H := Lib.hid h
  have HG := Lib.hid hG
  have HW := Lib.hid hw
  have HA := Lib.hid hA
  have HR := Lib.hid hr
  have HGi := Lib.hid hgi
  have HGm := Lib.hid hgm
  clear h hG hw hA hr hgi hgm hk
  go_enter Tryz.func198, Tryz.ntmps198
  go_wp2_with fail
  refine HGi.out.mono ?_
  rintro e w1 ⟨rfl, rfl⟩
  have h1 := H.out.set 4 (.string (strOfNums (p.drop k))) (b' := b) (l' := p.drop k) (m' := m) rfl rfl rfl
  obtain ⟨w1, hw1⟩ : ∃ w1, w1 = w.setCell ⟨g, 4, none⟩ (.string (strOfNums (p.drop k))) := ⟨_, rfl⟩
  rw [← hw1] at h1 ⊢
  have HC1 := Lib.hid (show Chg (EFS g gw) w w1 by rw [hw1]; exact efs_g 4 _)
  have H1 := Lib.hid h1
  clear h1 hw1
  go_upto_block 0 with fail
  go_cut [8, 9] (fun vo i wx => FeedMid w g gw b m p l room vo i wx)
  case first =>
    go_wp2_with fail
    go_loopw [8, 9] (fun vo i wr => FeedRel w g gw b m p l room vo i wr) (fun _ i _ => l.length - (intOf i).toNat)
    case atStart =>
      refine ⟨0, p.take k, p.drop k, m, rfl, rfl, Nat.zero_le _, ?_, HG.out, HW.out, HC1.out, (fun c hc => by cases hc), HGm.out.1, HGm.out.2.1, fun h => absurd rfl h, rfl, ?_⟩
      · have := H1.out
        simpa using this
      · rw [HGm.out.2.2]
        first | done | simp [pushes]
    case round =>
      obtain ⟨n, S, p', m', rfl, rfl, hn, hd, hg, hwt, hc, hsc, hfit, hfull, hgo, hm, hS⟩ := hrel
      have hsl : S.length ≤ 400000 ∧ p'.length ≤ 400000 := by
        have h1 := pushes_len (l.take n) m
        have h2 : (S ++ p').length = (p ++ (pushes m (l.take n)).2).length := by rw [hS]
        rw [List.length_append, List.length_append] at h2
        rw [List.length_take] at h1
        omega
      obtain ⟨hs1, hs2⟩ := hsl
      have hXs := str_size S
      have HD := Lib.hid hd
      have HGr := Lib.hid hg
      have HWt := Lib.hid hwt
      have HC := Lib.hid hc
      have HSc := Lib.hid hsc
      have HFit := Lib.hid hfit
      have HFull := Lib.hid hfull
      have HGo := Lib.hid hgo
      have HM := Lib.hid hm
      have HS := Lib.hid hS
      have HKe := Lib.hid (kept_calls hd (by omega))
      have hgoing := going_calls g _ wr hd.base
      have hge : (({ b with at_ := b.at_ + n } : B4)).going = b.going := rfl
      rw [hge] at hgoing
      clear hd hg hwt hc hsc hfit hfull hgo hm hS hge
      by_cases hlt : n < l.length
      · by_cases hpe : p' = []
        · have hpl : ((p'.length : Int) == 0) = true := by rw [hpe]; rfl
          cases hbg : b.going with
          | true =>
            rw [hbg] at hgoing
            have HGg := Lib.hid hgoing
            have HBG := Lib.hid hbg
            have HPE := Lib.hid hpe
            obtain ⟨a, rfl, q⟩ := (HA.out wr HC.out) n hlt
            have hrx := HR.out (l.getD n 0) (by rw [List.getD_eq_getElem?_getD, List.getElem?_eq_getElem hlt]; exact List.getElem_mem _)
            obtain ⟨x, hx⟩ : ∃ x, x = l.getD n 0 := ⟨_, rfl⟩
            rw [← hx] at q hrx
            obtain ⟨x0, x1⟩ := hrx
            have HX := Lib.hid hx
            have hisx := sis_calls x
            have c10 := HD.out.c10
            have f10 := HD.out.fz 10
            clear hgoing hbg hpe hx
            cases hix : isB x with
            | true =>
              rw [hix] at hisx
              have HIs := Lib.hid hisx
              have HIx := Lib.hid hix
              clear hisx hix
              have HTk := Lib.hid (show l.take (n + 1) = l.take n ++ [x] by rw [List.take_succ_eq_append_getElem hlt, HX.out, List.getD_eq_getElem?_getD, List.getElem?_eq_getElem hlt]; rfl)
              by_cases hwn : m'.wt = 2147483648
              · have hwb : (m'.wt != 2147483648) = false := by simp [hwn]
                have hpc : pushC m' x = ({ m' with wt := x }, []) := by unfold pushC; rw [if_pos hwn]
                have HPC := Lib.hid hpc
                clear hwn hpc
                go_wp2_with fail
                refine HKe.out.mono ?_
                rintro e w2 ⟨rfl, rfl⟩
                go_wp2_with fail
                refine HGg.out.mono ?_
                rintro e w2 ⟨rfl, rfl⟩
                go_wp2_with fail
                refine (HIs.out _).mono ?_
                rintro e w2 ⟨rfl, rfl⟩
                go_wp2_with fail
                have hdw : EncAt (wr.setCell ⟨g, 10, none⟩ (.int .u32 x)) g gw { b with at_ := b.at_ + n } (p' ++ (pushC m' x).2) (pushC m' x).1 := by
                  rw [HPC.out, List.append_nil]
                  exact HD.out.set 10 (.int .u32 x) rfl rfl rfl
                have hcw : Chg (EFS g gw) w (wr.setCell ⟨g, 10, none⟩ (.int .u32 x)) := HC.out.trans (efs_g 10 _)
                have h0c := hdw.fz 0
                have hd5 := hdw.set 0 (.int .i64 (b.at_ + n + 1)) (b' := { b with at_ := b.at_ + n + 1 }) (l' := p' ++ (pushC m' x).2) (m' := (pushC m' x).1) rfl rfl rfl
                have HEt := Lib.hid (eat_calls g _ 1 (wr.setCell ⟨g, 10, none⟩ (.int .u32 x)) hdw.base (show (({ b with at_ := b.at_ + n } : B4)).going = true from HBG.out) (by decide) (by decide) (show 0 ≤ b.at_ + n by omega) (show b.at_ + n ≤ 1000000000 by omega))
                have hpl2 := push_len m' x
                have hgi3 := give_calls (room - S.length) hd5 (by rw [List.length_append]; omega)
                have hgm3 := give_more (S := S) (q := p' ++ (pushC m' x).2) (room := room) HFit.out
                have hql : (p' ++ (pushC m' x).2).length ≤ 500000 := by rw [List.length_append]; omega
                obtain ⟨q2, hq2⟩ : ∃ q2, q2 = p' ++ (pushC m' x).2 := ⟨_, rfl⟩
                rw [← hq2] at hgi3 hgm3 hql hd5
                obtain ⟨k2, hk2⟩ : ∃ k2, k2 = clipN (room - S.length) q2.length := ⟨_, rfl⟩
                rw [← hk2] at hgi3 hgm3
                have hT := str_size (q2.take k2)
                have happ := str_append S (q2.take k2)
                have hTl : (q2.take k2).length ≤ 500000 := by rw [List.length_take]; omega
                obtain ⟨T, hTT⟩ : ∃ T, T = q2.take k2 := ⟨_, rfl⟩
                rw [← hTT] at hgi3 hgm3 hT happ hTl
                have HGi3 := Lib.hid hgi3
                have HGm3 := Lib.hid hgm3
                have HD5 := Lib.hid hd5
                have HQ2 := Lib.hid hq2
                have HC5 := Lib.hid hcw
                clear hdw hcw hd5 hgi3 hgm3 hq2 hk2 hTT hpl2 hql h0c
                go_wp2_with fail
                refine HEt.out.mono ?_
                rintro e w6 ⟨rfl, rfl⟩
                go_wp2_with fail
                refine HGi3.out.mono ?_
                rintro e w7 ⟨rfl, rfl⟩
                go_wp2_with fail
                go_roundw
                case rel =>
                  refine ⟨n + 1, S ++ T, q2.drop k2, (pushC m' x).1, by go_num, rfl, hlt, ?_, HGr.out.push HWt.out, .inr ?_, (HC5.out.trans (efs_g 0 _)).trans (efs_g 4 _), ?_, HGm3.out.1, HGm3.out.2.1, fun _ => HBG.out, ?_, ?_⟩
                  · have := HD5.out.set 4 (.string (strOfNums (q2.drop k2))) (b' := { b with at_ := b.at_ + n + 1 }) (l' := q2.drop k2) (m' := (pushC m' x).1) rfl rfl rfl
                    have e2 : b.at_ + ((n + 1 : Nat) : Int) = b.at_ + n + 1 := by omega
                    rw [e2]
                    exact this
                  · rw [wt_push]; exact ⟨x0, isB_rng HIx.out⟩
                  · rw [HTk.out]
                    intro c hc
                    rcases List.mem_append.1 hc with hc | hc
                    · exact HSc.out c hc
                    · rw [List.mem_singleton.1 hc]; exact HIx.out
                  · rw [HTk.out, pushes_snoc, ← HM.out]
                  · rw [HGm3.out.2.2, HQ2.out, HTk.out, pushes_snoc, ← HM.out, ← List.append_assoc, HS.out, List.append_assoc] <;> rfl
                case measure => simp [intOf]; omega
              · have hwb : (m'.wt != 2147483648) = true := by simp [hwn]
                have hpc : pushC m' x = ({ (workC m' m'.wt x).1 with wt := x }, (workC m' m'.wt x).2) := by unfold pushC; rw [if_neg hwn]
                have hwr : 0 ≤ m'.wt ∧ m'.wt ≤ 1114111 := by
                  rcases HWt.out with h1 | h1
                  · exact absurd h1 hwn
                  · exact h1
                have HWk := Lib.hid (work_calls m'.wt x (HD.out.drewN 1) HGr.out hwr.1 hwr.2 x0 x1 (by omega))
                have HPC := Lib.hid hpc
                have HLs := Lib.hid (HA.out wr HC.out)
                clear hwn hpc hwr
                go_wp2_with fail
                refine HKe.out.mono ?_
                rintro e w2 ⟨rfl, rfl⟩
                go_wp2_with fail
                refine HGg.out.mono ?_
                rintro e w2 ⟨rfl, rfl⟩
                go_wp2_with fail
                refine (HIs.out _).mono ?_
                rintro e w2 ⟨rfl, rfl⟩
                go_wp2_with fail
                go_region_with (go_at_call 200; refine HWk.out.mono ?_; rintro e w2 ⟨rfl, hd2, hc2⟩; have HDC := Lib.hid (And.intro hd2 hc2); clear hd2 hc2)
                all_goals
                  obtain ⟨hd2, hc2⟩ := HDC.out
                  have hcc2 : Chg (EFS g gw) w w2 := (HC.out.trans (Chg.drew wr)).trans hc2
                  obtain ⟨a2, ha2, q2c⟩ := (HA.out w2 hcc2) n hlt
                  obtain rfl : a2 = a := by injection ha2 with h; exact h.symm
                  rw [← HX.out] at q2c
                  have c10b := hd2.c10
                  have f10b := hd2.fz 10
                  have hdw : EncAt (w2.setCell ⟨g, 10, none⟩ (.int .u32 x)) g gw { b with at_ := b.at_ + n } (p' ++ (pushC m' x).2) (pushC m' x).1 := by
                    rw [HPC.out]
                    exact hd2.set 10 (.int .u32 x) rfl rfl rfl
                  have hcw : Chg (EFS g gw) w (w2.setCell ⟨g, 10, none⟩ (.int .u32 x)) := hcc2.trans (efs_g 10 _)
                  clear hd2 hc2 hcc2 ha2
                  go_wp2_with fail
                  have h0c := hdw.fz 0
                  have hd5 := hdw.set 0 (.int .i64 (b.at_ + n + 1)) (b' := { b with at_ := b.at_ + n + 1 }) (l' := p' ++ (pushC m' x).2) (m' := (pushC m' x).1) rfl rfl rfl
                  have HEt := Lib.hid (eat_calls g _ 1 (w2.setCell ⟨g, 10, none⟩ (.int .u32 x)) hdw.base (show (({ b with at_ := b.at_ + n } : B4)).going = true from HBG.out) (by decide) (by decide) (show 0 ≤ b.at_ + n by omega) (show b.at_ + n ≤ 1000000000 by omega))
                  have hpl2 := push_len m' x
                  have hgi3 := give_calls (room - S.length) hd5 (by rw [List.length_append]; omega)
                  have hgm3 := give_more (S := S) (q := p' ++ (pushC m' x).2) (room := room) HFit.out
                  have hql : (p' ++ (pushC m' x).2).length ≤ 500000 := by rw [List.length_append]; omega
                  obtain ⟨q2, hq2⟩ : ∃ q2, q2 = p' ++ (pushC m' x).2 := ⟨_, rfl⟩
                  rw [← hq2] at hgi3 hgm3 hql hd5
                  obtain ⟨k2, hk2⟩ : ∃ k2, k2 = clipN (room - S.length) q2.length := ⟨_, rfl⟩
                  rw [← hk2] at hgi3 hgm3
                  have hT := str_size (q2.take k2)
                  have happ := str_append S (q2.take k2)
                  have hTl : (q2.take k2).length ≤ 500000 := by rw [List.length_take]; omega
                  obtain ⟨T, hTT⟩ : ∃ T, T = q2.take k2 := ⟨_, rfl⟩
                  rw [← hTT] at hgi3 hgm3 hT happ hTl
                  have HGi3 := Lib.hid hgi3
                  have HGm3 := Lib.hid hgm3
                  have HD5 := Lib.hid hd5
                  have HQ2 := Lib.hid hq2
                  have HC5 := Lib.hid hcw
                  clear hdw hcw hd5 hgi3 hgm3 hq2 hk2 hTT hpl2 hql h0c
                  go_wp2_with fail
                  refine HEt.out.mono ?_
                  rintro e w6 ⟨rfl, rfl⟩
                  go_wp2_with fail
                  refine HGi3.out.mono ?_
                  rintro e w7 ⟨rfl, rfl⟩
                  go_wp2_with fail
                  go_roundw
                  case rel =>
                    refine ⟨n + 1, S ++ T, q2.drop k2, (pushC m' x).1, by go_num, rfl, hlt, ?_, HGr.out.push HWt.out, .inr ?_, (HC5.out.trans (efs_g 0 _)).trans (efs_g 4 _), ?_, HGm3.out.1, HGm3.out.2.1, fun _ => HBG.out, ?_, ?_⟩
                    · have := HD5.out.set 4 (.string (strOfNums (q2.drop k2))) (b' := { b with at_ := b.at_ + n + 1 }) (l' := q2.drop k2) (m' := (pushC m' x).1) rfl rfl rfl
                      have e2 : b.at_ + ((n + 1 : Nat) : Int) = b.at_ + n + 1 := by omega
                      rw [e2]
                      exact this
                    · rw [wt_push]; exact ⟨x0, isB_rng HIx.out⟩
                    · rw [HTk.out]
                      intro c hc
                      rcases List.mem_append.1 hc with hc | hc
                      · exact HSc.out c hc
                      · rw [List.mem_singleton.1 hc]; exact HIx.out
                    · rw [HTk.out, pushes_snoc, ← HM.out]
                    · rw [HGm3.out.2.2, HQ2.out, HTk.out, pushes_snoc, ← HM.out, ← List.append_assoc, HS.out, List.append_assoc] <;> rfl
                  case measure => simp [intOf]; omega
            | false =>
              rw [hix] at hisx
              have HIs := Lib.hid hisx
              have HIx := Lib.hid hix
              have HFl := Lib.hid (flush_calls HD.out HGr.out HWt.out (by omega))
              clear hisx hix
              go_wp2_with fail
              refine HKe.out.mono ?_
              rintro e w2 ⟨rfl, rfl⟩
              go_wp2_with fail
              refine HGg.out.mono ?_
              rintro e w2 ⟨rfl, rfl⟩
              go_wp2_with fail
              refine (HIs.out _).mono ?_
              rintro e w2 ⟨rfl, rfl⟩
              go_wp2_with fail
              refine HFl.out.mono ?_
              rintro e w2 ⟨rfl, hd2, hc2⟩
              have HSt := Lib.hid (stop_calls g _ 2 w2 hd2.base (show (({ b with at_ := b.at_ + n } : B4)).going = true from HBG.out) (by decide))
              have hd3 := (hd2.set 1 (.int .i64 2) (b' := { b with at_ := b.at_ + n, err := 2 }) (l' := p' ++ (flushC m').2) (m' := (flushC m').1) rfl rfl rfl).set 2 (.int .i64 (b.at_ + n)) (b' := { b with at_ := b.at_ + n, err := 2, pl := b.at_ + n }) (l' := p' ++ (flushC m').2) (m' := (flushC m').1) rfl rfl rfl
              have HC2 := Lib.hid hc2
              have HD3 := Lib.hid hd3
              have hfl := flush_len m'
              have hgi3 := give_calls (room - S.length) hd3 (by rw [List.length_append]; omega)
              have hgm3 := give_more (S := S) (q := p' ++ (flushC m').2) (room := room) HFit.out
              have hql : (p' ++ (flushC m').2).length ≤ 500000 := by rw [List.length_append]; omega
              obtain ⟨q2, hq2⟩ : ∃ q2, q2 = p' ++ (flushC m').2 := ⟨_, rfl⟩
              rw [← hq2] at hgi3 hgm3 hql hd3
              obtain ⟨k2, hk2⟩ : ∃ k2, k2 = clipN (room - S.length) q2.length := ⟨_, rfl⟩
              rw [← hk2] at hgi3 hgm3
              have hT := str_size (q2.take k2)
              have happ := str_append S (q2.take k2)
              have hTl : (q2.take k2).length ≤ 500000 := by rw [List.length_take]; omega
              obtain ⟨T, hTT⟩ : ∃ T, T = q2.take k2 := ⟨_, rfl⟩
              rw [← hTT] at hgi3 hgm3 hT happ hTl
              have HGi3 := Lib.hid hgi3
              have HGm3 := Lib.hid hgm3
              have HD3' := Lib.hid hd3
              have HQ2 := Lib.hid hq2
              clear hd2 hc2 hd3 hgi3 hgm3 hq2 hk2 hTT hfl hql
              go_wp2_with fail
              refine HSt.out.mono ?_
              rintro e w3 ⟨rfl, rfl⟩
              go_wp2_with fail
              refine HGi3.out.mono ?_
              rintro e w4 ⟨rfl, rfl⟩
              go_wp2_with fail
              go_meet
              refine ⟨n, S ++ T, q2.drop k2, _, (flushC m').1, rfl, rfl, HD3'.out.set 4 (.string (strOfNums (q2.drop k2))) (b' := { b with at_ := b.at_ + n, err := 2, pl := b.at_ + n }) (l' := q2.drop k2) (m' := (flushC m').1) rfl rfl rfl, HGr.out.flush HWt.out, ?_, ?_, hn, HSc.out, HGm3.out.1, HGm3.out.2.1, HGo.out, .inl ⟨HBG.out, hlt, by rw [← HX.out]; exact HIx.out, by rw [HM.out], ?_, rfl⟩⟩
              · unfold flushC
                split
                · exact HWt.out
                · exact .inl rfl
              · exact (((HC.out.trans HC2.out).trans (efs_g 1 _)).trans (efs_g 2 _)).trans (efs_g 4 _)
              · rw [HGm3.out.2.2, HQ2.out, ← List.append_assoc, HS.out, HM.out]
          | false =>
            rw [hbg] at hgoing
            have HGg := Lib.hid hgoing
            have HBG := Lib.hid hbg
            clear hgoing hbg hpe
            go_wp2_with fail
            refine HKe.out.mono ?_
            rintro e w2 ⟨rfl, rfl⟩
            go_wp2_with fail
            refine HGg.out.mono ?_
            rintro e w2 ⟨rfl, rfl⟩
            go_wp2_with fail
            go_meet
            exact ⟨n, S, p', _, m', rfl, rfl, HD.out, HGr.out, HWt.out, HC.out, hn, HSc.out, HFit.out, HFull.out, HGo.out, .inr ⟨HM.out, HS.out, rfl, .inr (.inr HBG.out)⟩⟩
        · have hpl : ((p'.length : Int) == 0) = false := by
            rw [beq_eq_false_iff_ne]
            intro e
            exact hpe (List.eq_nil_of_length_eq_zero (by omega))
          have HPE := Lib.hid hpe
          clear hgoing hpe
          go_wp2_with fail
          refine HKe.out.mono ?_
          rintro e w2 ⟨rfl, rfl⟩
          go_wp2_with fail
          go_meet
          exact ⟨n, S, p', _, m', rfl, rfl, HD.out, HGr.out, HWt.out, HC.out, hn, HSc.out, HFit.out, HFull.out, HGo.out, .inr ⟨HM.out, HS.out, rfl, .inr (.inl HPE.out)⟩⟩
      · obtain rfl : n = l.length := by omega
        clear hgoing hlt
        go_wp2_with fail
        go_meet
        exact ⟨l.length, S, p', _, m', rfl, rfl, HD.out, HGr.out, HWt.out, HC.out, hn, HSc.out, HFit.out, HFull.out, HGo.out, .inr ⟨HM.out, HS.out, rfl, .inl rfl⟩⟩
  case rest =>
    obtain ⟨n, S, p', b', m', rfl, rfl, hd, hg, hwt, hc, hf⟩ := hcut
    have HAll := Lib.hid (And.intro hd (And.intro hg (And.intro hwt (And.intro hc hf))))
    clear hd hg hwt hc hf
    go_wp2_with fail
    go_ret2
    exact ⟨n, S, p', b', m', rfl, HAll.out.1, HAll.out.2.1, HAll.out.2.2.1, HAll.out.2.2.2.1, HAll.out.2.2.2.2⟩
end Go.Proofs.YtooiooledeblmaaGreat.Enc
end
section
namespace Go.Proofs.YtooiooledeblmaaGreat.Out
open Go.RowKit Go.Proofs.YtooiooledeblmaaGreat.Win Go.Proofs.YtooiooledeblmaaGreat.Stp Go.Proofs.YtooiooledeblmaaGreat.Lst
set_option linter.unusedVariables false
set_option linter.unusedSimpArgs false
theorem mk_compress (v : Value) (w : World) : (Instr.makeInterface 123 v).run Tryz.prog w = .ok (.iface 123 v) w := run_makeInterface w 123 v (by kernel_rfl)
theorem feed_compress (g : Nat) (w : World) : (method 407 123 (.pointer (some ⟨g, 0, none⟩)) "Feed").run Tryz.prog w = .ok (198, .pointer (some ⟨g, 0, none⟩)) w := by kernel_rfl
theorem end_compress (g : Nat) (w : World) : (method 407 123 (.pointer (some ⟨g, 0, none⟩)) "End").run Tryz.prog w = .ok (197, .pointer (some ⟨g, 0, none⟩)) w := by kernel_rfl
theorem done_compress (g : Nat) (w : World) : (method 407 123 (.pointer (some ⟨g, 0, none⟩)) "Done").run Tryz.prog w = .ok (138, .pointer (some ⟨g, 0, none⟩)) w := by kernel_rfl
theorem fail_compress (g : Nat) (w : World) : (method 407 123 (.pointer (some ⟨g, 0, none⟩)) "Fail").run Tryz.prog w = .ok (140, .pointer (some ⟨g, 0, none⟩)) w := by kernel_rfl
attribute [local go_sem] mk_compress feed_compress end_compress done_compress fail_compress
/-- The second loop: what was told so far, and whether the rest was. -/
def LoopE_compress (w : World) (b : Nat) (S1 S2 : List Int) (P2 P3 : World → Prop) (v : Value) (wr : World) : Prop :=
  (((P2 wr ∧ BldAt w.heap.size b (strOfNums S1) wr) ∧ S2 ≠ [] ∧ v = undef) ∨ ((P3 wr ∨ (P2 wr ∧ S2 = [])) ∧ BldAt w.heap.size b (strOfNums (S1 ++ S2)) wr)) ∧ wr.heap[w.heap.size]? = some (.cells #[.int .i64 0, .int .i64 0] 39 (0, 0)) ∧ Below w.heap.size w wr
def strM_compress : Value → Nat
  | .string _ => 0
  | _ => 1
set_option maxRecDepth 100000 in
set_option maxHeartbeats 8000000 in
theorem encode2_compress {c : Int} {l S1 S2 : List Int} {w : World} {A : Option Addr} {cap : Nat} (hnew : ∀ wx, Calls Tryz.prog 34 #[.int .i64 c] wx (NewPost2 123 198 197 l S1 S2 wx)) (hs1 : S1.length ≤ 100000) (hs2 : S2.length ≤ 100000)
    (hL : ∀ wx, Below w.heap.size w wx → Lst wx .u32 A l) (hl : l.length ≤ 600) (hcap : l.length ≤ cap) :
    Calls Tryz.prog 17 #[.int .i64 c, .slice A l.length cap] w (EncPost w (S1 ++ S2)) := by
  have HL := Lib.hid hL
  have HNew := Lib.hid hnew
  clear hL hnew
  go_enter Tryz.func17, Tryz.ntmps17
  go_wp2_with fail
  refine (HNew.out _).mono ?_
  rintro e w1 ⟨g, S, P0, P1, P2, P3, hm, rfl, hb, hp0, hS⟩
  obtain ⟨w0, hw0⟩ : ∃ w0, w0 = w.alloc (.cells #[.int .i64 0, .int .i64 0] 39) := ⟨_, rfl⟩
  rw [← hw0] at hb hS
  have hz0 : w0.heap.size = w.heap.size + 1 := by rw [hw0]; simp
  have hr0 : w0.heap[w.heap.size]? = some (.cells #[.int .i64 0, .int .i64 0] 39 (0, 0)) := by rw [hw0]; exact heap_alloc_new _ _
  have hb0 : Below w.heap.size w w0 := by rw [hw0]; exact (Below.refl _ _).alloc (Nat.le_refl _) _
  have hr1 := (hb.block w.heap.size (by omega)).trans hr0
  have hb1 := hb0.trans (Below.mono hb (by omega))
  have HM := Lib.hid hm
  have HP0 := Lib.hid hp0
  have HR1 := Lib.hid hr1
  have HB1 := Lib.hid hb1
  have HFs := Lib.hid (show ∀ i, S i → w.heap.size ≤ i from fun i hi => by have := hS i hi; omega)
  clear hm hb hw0 hz0 hr0 hb0 hS hr1 hb1 hp0
  go_upto_block 0 with fail
  obtain ⟨b, hbd⟩ : ∃ b, b = w1.heap.size := ⟨_, rfl⟩
  obtain ⟨w2, hw2⟩ : ∃ w2, w2 = w1.alloc (.cells #[.pointer none, .slice none 0 0] 70) := ⟨_, rfl⟩
  have hb12 : Below w1.heap.size w1 w2 := by rw [hw2]; exact (Below.refl _ _).alloc (Nat.le_refl _) _
  have HBl := Lib.hid (show BldAt w.heap.size b ByteArray.empty w2 by rw [hw2, hbd]; exact bld_new _ _ HB1.out.size)
  have HP2 := Lib.hid (HM.out.b0 _ _ HP0.out hb12)
  have HR2 := Lib.hid ((hb12.block w.heap.size (Array.getElem?_eq_some_iff.1 HR1.out).1).trans HR1.out)
  have HB2 := Lib.hid (HB1.out.trans (Below.mono hb12 HB1.out.size))
  rw [← hw2, ← hbd]
  clear hbd hw2 hb12 HR1 HB1 HP0
  go_wp2_with fail
  go_loopw [1] (fun v wr => v = .slice A l.length cap ∧ w2 = wr) (fun _ _ => 0)
  case atStart => exact ⟨rfl, rfl⟩
  case round =>
    obtain ⟨rfl, rfl⟩ := hrel
    have HFd := Lib.hid (HM.out.feed w2 A cap HP2.out (fun wr hc => HL.out wr (Chg.below HB2.out hc HFs.out)))
    have hsz := str_size S1
    go_wp2_with fail
    refine HFd.out.mono ?_
    rintro e w3 ⟨rfl, hp3, hc3⟩
    have hb3 := HM.out.k0.bld HP2.out HBl.out hc3
    have hr3 := HM.out.k0.res HP2.out HR2.out hc3
    have hbw3 := Chg.below HB2.out hc3 HFs.out
    have HWr := Lib.hid (bld_write (strOfNums S1) hb3 (by decide) (by omega) hbw3.size)
    have HP3 := Lib.hid hp3
    have HR3 := Lib.hid hr3
    have HB3 := Lib.hid hbw3
    have HBl3 := Lib.hid hb3
    clear hp3 hc3 hb3 hr3 hbw3
    go_wp2_with fail
    refine HWr.out.mono ?_
    rintro e w4 ⟨rfl, hb4, hbe4, hot4⟩
    rw [ByteArray.empty_append] at hb4
    have hp4 := HM.out.o1.use HP3.out HBl3.out hot4
    have hr4 := oth_res hot4 HBl3.out HR3.out
    have HEnd := Lib.hid (HM.out.fin w4 hp4)
    have HP4 := Lib.hid hp4
    have HBl4 := Lib.hid hb4
    have HB4 := Lib.hid (HB3.out.trans hbe4)
    have HR4 := Lib.hid hr4
    clear hb4 hbe4 hot4 hr4 hp4
    go_upto_region 7 with fail
    go_cut [1] from 22 to 41 (fun v wx => (∃ A' c', v = .slice A' 0 c') ∧ w4 = wx)
    case first =>
      go_wp2_with fail
      all_goals
        go_meet
        exact ⟨⟨_, _, rfl⟩, rfl⟩
    case rest =>
      obtain ⟨⟨A', c', rfl⟩, rfl⟩ := hcut
      go_wp2_with fail
      refine HEnd.out.mono ?_
      rintro e w5 ⟨rfl, hp5, hc5⟩
      have hb5 := HM.out.k1.bld HP4.out HBl4.out hc5
      have hr5 := HM.out.k1.res HP4.out HR4.out hc5
      have hbw5 := Chg.below HB4.out hc5 HFs.out
      have HLo := Lib.hid (show LoopE_compress w b S1 S2 P2 P3 undef w5 from ⟨by
        by_cases h : S2 = []
        · exact .inr ⟨.inr ⟨hp5, h⟩, by rw [h, List.append_nil]; exact hb5⟩
        · exact .inl ⟨⟨hp5, hb5⟩, h, rfl⟩, hr5, hbw5⟩)
      have HP5 := Lib.hid hp5
      clear hp5 hc5 hb5 hr5 hbw5
      go_wp2_with fail
      go_loopw [12] (fun v wr => LoopE_compress w b S1 S2 P2 P3 v wr) (fun v _ => strM_compress v)
      case atStart => exact HLo.out
      case round =>
        obtain ⟨hst, hr6, hb6⟩ := hrel
        have HR6 := Lib.hid hr6
        have HB6 := Lib.hid hb6
        clear hr6 hb6
        rcases hst with ⟨⟨hp6, hbl6⟩, hne, rfl⟩ | ⟨hp6, hbl6⟩
        · have hdn := HM.out.don2 wr hp6
          rw [show S2.isEmpty = false from by cases S2 with | nil => exact absurd rfl hne | cons x xs => rfl] at hdn
          have HDn := Lib.hid hdn
          have HMo := Lib.hid (HM.out.more wr hp6 hne)
          have hsz2 := str_size S2
          have HP6 := Lib.hid hp6
          have HBl6 := Lib.hid hbl6
          clear hdn hp6 hbl6 hne
          go_wp2_with fail
          refine HDn.out.mono ?_
          rintro e w6 ⟨rfl, rfl⟩
          go_wp2_with fail
          refine HMo.out.mono ?_
          rintro e w7 ⟨rfl, hp7, hc7⟩
          have hb7 := HM.out.k2.bld HP6.out HBl6.out hc7
          have hr7 := HM.out.k2.res HP6.out HR6.out hc7
          have hbw7 := Chg.below HB6.out hc7 HFs.out
          have HWr2 := Lib.hid (bld_write (strOfNums S2) hb7 (by omega) (by omega) hbw7.size)
          have HP7 := Lib.hid hp7
          have HR7 := Lib.hid hr7
          have HB7 := Lib.hid hbw7
          have HBl7 := Lib.hid hb7
          clear hp7 hc7 hb7 hr7 hbw7
          go_wp2_with fail
          refine HWr2.out.mono ?_
          rintro e w8 ⟨rfl, hb8, hbe8, hot8⟩
          rw [str_append] at hb8
          have HLo8 := Lib.hid (show LoopE_compress w b S1 S2 P2 P3 (.string (strOfNums S2)) w8 from ⟨.inr ⟨.inl (HM.out.o3.use HP7.out HBl7.out hot8), hb8⟩, oth_res hot8 HBl7.out HR7.out, HB7.out.trans hbe8⟩)
          clear hb8 hbe8 hot8
          go_wp2_with fail
          go_roundw
          case rel => exact HLo8.out
          case measure => exact Nat.zero_lt_one
        · obtain ⟨bb, hbs, he0, he1⟩ : ∃ bb, BaseAt wr g bb ∧ bb.err = 0 ∧ bb.pl = 0 := by
            rcases hp6 with hp6 | hp6
            · exact HM.out.base3 wr hp6
            · exact HM.out.base2 wr hp6.1
          have hdn : Calls Tryz.prog 138 #[.pointer (some ⟨g, 0, none⟩)] wr fun e w' => e = .returned (.bool true) ∧ wr = w' := by
            rcases hp6 with hp6 | ⟨hp6, h⟩
            · exact HM.out.don3 wr hp6
            · have := HM.out.don2 wr hp6
              rw [h] at this
              exact this
          have HDn := Lib.hid hdn
          have HSt := Lib.hid (bld_string hbl6 HB6.out.size)
          have HBl6 := Lib.hid hbl6
          have HP6 := Lib.hid hp6
          have hE : (bb.err = 0 ∧ bb.pl = 0) := ⟨he0, he1⟩
          have HE := Lib.hid hE
          clear hdn hbl6 hp6 he0 he1 hE hbs
          go_wp2_with fail
          refine HDn.out.mono ?_
          rintro e w6 ⟨rfl, rfl⟩
          go_wp2_with fail
          refine HSt.out.mono ?_
          rintro e w6 ⟨rfl, hb6, hot6⟩
          have hr6 := oth_res hot6 HBl6.out HR6.out
          have hbs6 : ∃ b6, BaseAt w6 g b6 ∧ b6.err = 0 ∧ b6.pl = 0 := by
            rcases HP6.out with hp6 | hp6
            · exact HM.out.base3 w6 (HM.out.o3.use hp6 HBl6.out hot6)
            · exact HM.out.base2 w6 (HM.out.o2.use hp6.1 HBl6.out hot6)
          obtain ⟨b6, hb6s, q1, q2⟩ := hbs6
          have hfl := fail_calls g b6 w6 hb6s
          rw [q1, q2] at hfl
          have HFl := Lib.hid hfl
          have HR7 := Lib.hid hr6
          have HB7 := Lib.hid (HB6.out.trans hb6)
          clear hb6 hot6 hr6 hb6s q1 q2 hfl
          go_wp2_with fail
          refine HFl.out.mono ?_
          rintro e w7 ⟨rfl, rfl⟩
          obtain ⟨w7, hw7⟩ : ∃ w7, w7 = w6.alloc (.cells #[.int .i64 0, .int .i64 0] 39) := ⟨_, rfl⟩
          have hr7 : w7.heap[w.heap.size]? = some (.cells #[.int .i64 0, .int .i64 0] 39 (0, 0)) := by rw [hw7, Below.heap_alloc _ _ _ (Array.getElem?_eq_some_iff.1 HR7.out).1]; exact HR7.out
          have hb7 : Below w.heap.size w w7 := by rw [hw7]; exact HB7.out.alloc HB7.out.size _
          rw [← hw7]
          have c0 : w7.cell? ⟨w.heap.size, 0, none⟩ = some (.int .i64 0) := by rw [cell_of hr7]; rfl
          have c1 : w7.cell? ⟨w.heap.size, 1, none⟩ = some (.int .i64 0) := by rw [cell_of hr7]; rfl
          have f0 := frozen_of hr7 0
          have f1 := frozen_of hr7 1
          have HB8 := Lib.hid hb7
          clear hw7 hr7 hb7
          go_wp2_with fail
          have e0 : ((w7.setCell ⟨w.heap.size, 0, none⟩ (.int .i64 0)).setCell ⟨w.heap.size, 1, none⟩ (.int .i64 0)).cell? ⟨w.heap.size, 0, none⟩ = some (.int .i64 0) := by
            rw [World.cell?_setCell_other _ _ _ _ (by simp), World.cell?_setCell_same _ _ _ c0]
          have e1 : ((w7.setCell ⟨w.heap.size, 0, none⟩ (.int .i64 0)).setCell ⟨w.heap.size, 1, none⟩ (.int .i64 0)).cell? ⟨w.heap.size, 1, none⟩ = some (.int .i64 0) := by
            rw [World.cell?_setCell_same (u := .int .i64 0) _ _ _ (by rw [World.cell?_setCell_other _ _ _ _ (by simp)]; exact c1)]
          refine bodyPost_ret (v := .tuple #[.string (strOfNums (S1 ++ S2)), .agg #[.int .i64 0, .int .i64 0]]) (by simp [results, Tryz.results17, go_sem, e0, e1]) rfl ⟨rfl, (HB8.out.setCell (p := ⟨w.heap.size, 0, none⟩) (Nat.le_refl _) _).setCell (p := ⟨w.heap.size, 1, none⟩) (Nat.le_refl _) _⟩
end Go.Proofs.YtooiooledeblmaaGreat.Out
end
section
namespace Go.Proofs.YtooiooledeblmaaGreat.Enc
open Go.RowKit Go.Proofs.YtooiooledeblmaaGreat.Win Go.Proofs.YtooiooledeblmaaGreat.Stp Go.Proofs.YtooiooledeblmaaGreat.Lst
set_option linter.unusedVariables false
set_option linter.unusedSimpArgs false
def text1 (pl : Bool) (l : List Int) : List Int := (pushes (e0 pl) l).2
def text2 (pl : Bool) (l : List Int) : List Int := (flushC (pushes (e0 pl) l).1).2
/-- The text of a list, by either profile. -/
def textC (pl : Bool) (l : List Int) : List Int := text1 pl l ++ text2 pl l
theorem oth_keep {T : TypeId} {b i : Nat} {cs cs2 : Array Value} {w w' : World} (h : Out.Oth b w w') (hi : w.heap[i]? = some (.cells cs T (0, 0))) (hb : w.heap[b]? = some (.cells cs2 70 (0, 0))) (hT : T ≠ 5) (hT2 : T ≠ 70) : w'.heap[i]? = w.heap[i]? := by
  rw [hi]
  refine h i _ hi ?_ (by intro c fz h; injection h with h1 h2; exact hT h2)
  intro hh
  injection hh with hh
  subst hh
  rw [hi] at hb
  injection hb with hb
  injection hb with h1 h2
  exact hT2 h2
theorem enc_oth {w w' : World} {g gw b : Nat} {b4 : B4} {l : List Int} {m : E} {cs : Array Value} (h : EncAt w g gw b4 l m) (hb : w.heap[b]? = some (.cells cs 70 (0, 0))) (ho : Out.Oth b w w') : EncAt w' g gw b4 l m :=
  h.keep (oth_keep ho h.blk hb (by decide) (by decide)) (oth_keep ho h.win.blk hb (by decide) (by decide))
theorem enc_kin {w : World} {g gw : Nat} {b4 : B4} {l : List Int} {m : E} (h : EncAt w g gw b4 l m) {i : Nat} {cs : Array Value} {T : TypeId} {fz : Nat × Nat} (hi : w.heap[i]? = some (.cells cs T fz)) (hT : T = 5 ∨ T = 70 ∨ T = 39) : ¬ EFS g gw i := by
  rintro (rfl | rfl)
  · have := hi.symm.trans h.blk
    injection this with this
    injection this with h1 h2 h3
    rcases hT with rfl | rfl | rfl <;> cases h2
  · have := hi.symm.trans h.win.blk
    injection this with this
    injection this with h1 h2 h3
    rcases hT with rfl | rfl | rfl <;> cases h2
theorem simple_pos {m : E} {c : Int} {e : List Int} (h : simpleC m c = some e) : 1 ≤ e.length := by
  unfold simpleC at h
  split at h
  · injection h with h; rw [← h]; simp
  · split at h
    · injection h with h; rw [← h]; simp
    · split at h
      · injection h with h; rw [← h]; simp
      · cases h
theorem units_pos (c : Int) : 1 ≤ (unitsC c).length := by
  unfold unitsC
  split
  · simp
  · split <;> simp
theorem lay_pos (m : E) (c ix pr : Int) : 1 ≤ (layE m c ix pr).length := by
  unfold layE
  split <;> simp
theorem single_pos (m : E) (c d : Int) : 1 ≤ (singleC m c d).2.length := by
  unfold singleC
  cases hs : simpleC m c with
  | some e => have := simple_pos hs; simp only; omega
  | none =>
    simp only
    split
    · split <;> simp
    · split
      · simp
      · split
        · have := lay_pos m c 24 11; simp only; omega
        · split
          · simp
          · simp only [List.length_cons]; omega
theorem work_pos (m : E) (c d : Int) : 1 ≤ (workC m c d).2.length := by
  unfold workC
  split
  · simp
  · split
    · split
      · have := units_pos c; simp only; omega
      · split
        · rename_i e hs; have := simple_pos hs; simp only; omega
        · simp only [List.length_cons]; omega
    · split
      · have := single_pos { m with beh := true } c d; omega
      · split
        · simp only [List.length_cons]; omega
        · split
          · have := lay_pos { m with beh := true } c 232 241; simp only; omega
          · have := units_pos c; simp only; omega
theorem pushes_wt : ∀ (l : List Int) (m : E), 1 ≤ l.length → (∀ x ∈ l, 0 ≤ x ∧ isB x = true) → (pushes m l).1.wt ≠ 2147483648
  | [], _, h, _ => by simp at h
  | [x], m, _, hs => by
    simp only [pushes]
    rw [wt_push]
    have := isB_rng (hs x List.mem_cons_self).2
    omega
  | x :: y :: l, m, _, hs => by
    have := pushes_wt (y :: l) (pushC m x).1 (by simp) (fun z hz => hs z (List.mem_cons_of_mem _ hz))
    exact this
theorem text_pos (pl : Bool) {l : List Int} (h : 1 ≤ l.length) (hs : ∀ x ∈ l, 0 ≤ x ∧ isB x = true) : 1 ≤ (textC pl l).length := by
  unfold textC text2 flushC
  rw [if_neg (pushes_wt l (e0 pl) h hs), List.length_append]
  have := work_pos (pushes (e0 pl) l).1 (pushes (e0 pl) l).1.wt 2147483648
  simp only
  omega
theorem wt_flush {m : E} (h : Wt m) : Wt (flushC m).1 := by
  unfold flushC
  split
  · exact h
  · exact .inl rfl
def b1 (n : Nat) : B4 := { b40 with at_ := b40.at_ + n }
def b2 (n : Nat) : B4 := { b1 n with fin := true }
theorem mac_enc (pl : Bool) (g gw : Nat) {l : List Int} (hl : l.length ≤ 400) (hs : ∀ x ∈ l, 0 ≤ x ∧ isB x = true) :
    Out.Mac g (EFS g gw) 198 197 l (text1 pl l) (text2 pl l) (fun w => EncAt w g gw b40 [] (e0 pl)) (fun w => EncAt w g gw (b1 l.length) [] (pushes (e0 pl) l).1 ∧ EG (pushes (e0 pl) l).1 ∧ Wt (pushes (e0 pl) l).1)
      (fun w => EncAt w g gw (b2 l.length) (text2 pl l) (flushC (pushes (e0 pl) l).1).1 ∧ EG (flushC (pushes (e0 pl) l).1).1 ∧ Wt (flushC (pushes (e0 pl) l).1).1) (fun w => EncAt w g gw (b2 l.length) [] (flushC (pushes (e0 pl) l).1).1) := by
  have hr : ∀ x ∈ l, 0 ≤ x ∧ x ≤ 4294967295 := fun x hx => ⟨(hs x hx).1, by have := isB_rng (hs x hx).2; omega⟩
  have hp := pushes_len l (e0 pl)
  have hf := flush_len (pushes (e0 pl) l).1
  refine ⟨fun w w' h hb => h.below hb, fun w w' h hb => h.below hb, fun b w w' cs h hb ho => ⟨enc_oth h.1 hb ho, h.2⟩, fun b w w' cs h hb ho => ⟨enc_oth h.1 hb ho, h.2⟩, fun b w w' cs h hb ho => enc_oth h hb ho, fun w i cs T fz h hi hT => enc_kin h hi hT, fun w i cs T fz h hi hT => enc_kin h.1 hi hT, fun w i cs T fz h hi hT => enc_kin h.1 hi hT, ?_, ?_, ?_, ?_, ?_, ?_, ?_⟩
  · intro w A cap h hA
    refine (feed_calls (cap := cap) 4096 h (eg0 pl) (.inl rfl) (by simp) (by omega) hA hr (by decide) (by decide) (by decide) (by decide)).mono ?_
    rintro e w' ⟨n, S, p', b', m', rfl, he, hG, hw, hc, hfe⟩
    have hn := hfe.le
    rcases hfe.way with ⟨_, h2, h3, _⟩ | ⟨h1, h2, h3, h4⟩
    · have := (hs (l.getD n 0) (by rw [List.getD_eq_getElem?_getD, List.getElem?_eq_getElem h2]; exact List.getElem_mem _)).2
      rw [h3] at this
      cases this
    · have hlen := congrArg List.length h2
      rw [List.length_append, List.nil_append] at hlen
      have htk := pushes_len (l.take n) (e0 pl)
      rw [List.length_take] at htk
      have hp' : p' = [] := by
        rcases hfe.full with h5 | h5
        · exact h5
        · omega
      subst hp'
      have hnl : n = l.length := by
        rcases h4 with h4 | h4 | h4
        · exact h4
        · exact absurd rfl h4
        · cases h4
      subst hnl
      rw [List.take_length] at h1 h2
      rw [List.append_nil, List.nil_append] at h2
      subst h1 h2 h3
      exact ⟨rfl, ⟨he, hG, hw⟩, hc⟩
  · rintro w ⟨h, hG, hw⟩
    refine (end_calls h hG hw (by decide)).mono ?_
    rintro e w' ⟨rfl, he, hc⟩
    exact ⟨rfl, ⟨he, hG.flush hw, wt_flush hw⟩, hc⟩
  · rintro w ⟨h, hG, hw⟩
    refine (done_calls h (by have : (text2 pl l).length ≤ 10 := hf; omega)).mono ?_
    rintro e w' ⟨rfl, rfl⟩
    refine ⟨?_, rfl⟩
    have : (!(b2 l.length).going && decide (text2 pl l = [])) = (text2 pl l).isEmpty := by
      cases text2 pl l <;> rfl
    rw [this]
  · rintro w ⟨h, hG, hw⟩ hne
    have hf' : (text2 pl l).length ≤ 10 := hf
    refine (feed_calls (A := none) (cap := 0) (l := []) 4096 h hG hw (by omega) (by decide) (fun wr _ => Lst.nil _ _ _) (fun x hx => by cases hx) (by decide) (by decide) (by show (0 : Int) ≤ 0 + l.length; omega) (by show (0 : Int) + l.length ≤ 1000000; omega)).mono ?_
    rintro e w' ⟨n, S, p', b', m', rfl, he, hG', hw', hc, hfe⟩
    have hn : n = 0 := by have := hfe.le; simpa using this
    subst hn
    rcases hfe.way with ⟨h1, _⟩ | ⟨h1, h2, h3, h4⟩
    · cases h1
    · simp only [List.take_nil, pushes, List.append_nil] at h1 h2
      have hlen := congrArg List.length h2
      rw [List.length_append] at hlen
      have hp' : p' = [] := by
        rcases hfe.full with h5 | h5
        · exact h5
        · omega
      subst hp'
      rw [List.append_nil] at h2
      subst h1 h2 h3
      refine ⟨rfl, ?_, hc⟩
      have : ({ b2 l.length with at_ := (b2 l.length).at_ + ((0 : Nat) : Int) } : B4) = b2 l.length := by simp [b2]
      rw [this] at he
      exact he
  · intro w h
    refine (done_calls h (by decide)).mono ?_
    rintro e w' ⟨rfl, rfl⟩
    exact ⟨rfl, rfl⟩
  · rintro w ⟨h, _⟩
    exact ⟨_, h.base, rfl, rfl⟩
  · intro w h
    exact ⟨_, h.base, rfl, rfl⟩
end Go.Proofs.YtooiooledeblmaaGreat.Enc
end
section
namespace Go.Proofs.YtooiooledeblmaaGreat.Enc
open Go.RowKit Go.Proofs.YtooiooledeblmaaGreat.Win Go.Proofs.YtooiooledeblmaaGreat.Stp Go.Proofs.YtooiooledeblmaaGreat.Lst
set_option linter.unusedVariables false
set_option linter.unusedSimpArgs false
theorem mk_c (v : Value) (w : World) : (Instr.makeInterface 123 v).run Tryz.prog w = .ok (.iface 123 v) w := run_makeInterface w 123 v (by kernel_rfl)
section
attribute [local go_sem] mk_c
theorem new2_9 {l : List Int} (hl : l.length ≤ 400) (hs : ∀ x ∈ l, 0 ≤ x ∧ isB x = true) (w : World) : Calls Tryz.prog 34 #[.int .i64 9] w (Out.NewPost2 123 198 197 l (text1 false l) (text2 false l) w) := by
  go_enter Tryz.func34, Tryz.ntmps34
  go_wp2_with fail
  refine (newEncoder_calls false _).mono ?_
  rintro e w1 ⟨rfl, h1, h2, h3⟩
  go_wp2_with fail
  go_ret2
  refine ⟨_, _, _, _, _, _, mac_enc false _ _ hl hs, rfl, h2, h1, ?_⟩
  rintro i (rfl | rfl) <;> omega
theorem new2_10 {l : List Int} (hl : l.length ≤ 400) (hs : ∀ x ∈ l, 0 ≤ x ∧ isB x = true) (w : World) : Calls Tryz.prog 34 #[.int .i64 10] w (Out.NewPost2 123 198 197 l (text1 true l) (text2 true l) w) := by
  go_enter Tryz.func34, Tryz.ntmps34
  go_wp2_with fail
  refine (newEncoder_calls true _).mono ?_
  rintro e w1 ⟨rfl, h1, h2, h3⟩
  go_wp2_with fail
  go_ret2
  refine ⟨_, _, _, _, _, _, mac_enc true _ _ hl hs, rfl, h2, h1, ?_⟩
  rintro i (rfl | rfl) <;> omega
end
theorem encOK_scsu (pl : Bool) : Dcd.EncOK (if pl = true then 10 else 9) (textC pl) 400 := by
  have hl1 : ∀ l, (text1 pl l).length ≤ 10 * l.length := fun l => pushes_len l (e0 pl)
  have hl2 : ∀ l, (text2 pl l).length ≤ 10 := fun l => flush_len _
  refine ⟨by decide, by cases pl <;> decide, by cases pl <;> decide, fun l _ hl => ?_, fun l hs hl h1 => text_pos pl h1 hs, fun {w A cap l} hL hs hl hcap _ => ?_⟩
  · have := hl1 l
    have := hl2 l
    unfold textC
    rw [List.length_append]
    omega
  · have h1 := hl1 l
    have h2 := hl2 l
    cases pl with
    | false => exact Out.encode2_compress (new2_9 hl hs) (by omega) (by omega) hL (by omega) hcap
    | true => exact Out.encode2_compress (new2_10 hl hs) (by omega) (by omega) hL (by omega) hcap
end Go.Proofs.YtooiooledeblmaaGreat.Enc
end
section
set_option linter.unusedVariables false
set_option linter.unusedSimpArgs false
namespace Go.Proofs.YtooiooledeblmaaGreat.Dcd
open Go.RowKit Go.Proofs.YtooiooledeblmaaGreat.Win Go.Proofs.YtooiooledeblmaaGreat.Stp Go.Proofs.YtooiooledeblmaaGreat.Out Go.Proofs.YtooiooledeblmaaGreat.Lst Go.Proofs.YtooiooledeblmaaGreatW.PrintWords
/-- What each codec makes of a list. -/
def encF (c : Int) : List Int → List Int := if c = 7 then Pun.textP else if c = 9 then Enc.textC false else if c = 10 then Enc.textC true else encS c
theorem EncOK.le {c : Int} {enc : List Int → List Int} {M M' : Nat} (h : EncOK c enc M) (hm : M' ≤ M) : EncOK c enc M' :=
  ⟨Nat.le_trans hm h.top, h.lo, h.hi, fun l hs hl => h.len l hs (Nat.le_trans hl hm), fun l hs hl h1 => h.pos l hs (Nat.le_trans hl hm) h1, fun hL hs hl hcap hn => h.calls hL hs (Nat.le_trans hl hm) hcap hn⟩
theorem codecs : Codecs encF := by
  refine ⟨fun c h1 h2 => ?_, fun c h1 h2 xs ys => ?_⟩
  · unfold encF
    by_cases h7 : c = 7
    · subst h7
      rw [if_pos rfl]
      exact Pun.encOK_puny
    · rw [if_neg h7]
      by_cases h9 : c = 9
      · subst h9
        rw [if_pos rfl]
        exact (Enc.encOK_scsu false).le (by decide)
      · rw [if_neg h9]
        by_cases h10 : c = 10
        · subst h10
          rw [if_pos rfl]
          exact (Enc.encOK_scsu true).le (by decide)
        · rw [if_neg h10]
          exact (encOK_all (by omega)).le (by decide)
  · unfold encF
    rw [if_neg (by omega), if_neg (by omega), if_neg (by omega)]
    have : c = 1 ∨ c = 2 ∨ c = 3 ∨ c = 4 ∨ c = 5 ∨ c = 6 := by omega
    rcases this with rfl | rfl | rfl | rfl | rfl | rfl
    all_goals exact told_app _ _ xs ys ()
theorem topFrames_row (c n : Int) (A : Option Addr) (cap : Nat) (l : List Int) (w : World) (hwc : (Lit.int .i64 c).wf = true) (hwn : (Lit.int .i64 n).wf = true) (hr : (Kd.int .u32).C w A l.length l) (hc : l.length ≤ cap) (hm : l.length ≤ maxLen) (hg : ∀ x ∈ l, (Lit.int .u32 x).wf = true) (hn : A = none → cap = 0) :
    Calls Tryz.prog 7 #[.int .i64 c, .int .i64 n, .slice A l.length cap] w fun e w' => e = .returned (.bool true) ∧ Below w.heap.size w w' :=
  frames_law codecs (lst_arg hr) (u32_pos hg) hc hn
end Go.Proofs.YtooiooledeblmaaGreat.Dcd
end
