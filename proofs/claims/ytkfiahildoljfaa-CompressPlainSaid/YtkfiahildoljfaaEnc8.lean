/- The compressor: a scalar is worked off. -/
import Derived.Test.YtkfiahildoljfaaEnc7
namespace Go.Proofs.Ytkfiahildoljfaa.Enc
open Go.RowKit Go.Proofs.Ytkfiahildoljfaa.Win Go.Proofs.Ytkfiahildoljfaa.Stp Go.Proofs.YtkfiahildoljfaaW.PrintMore
set_option linter.unusedVariables false
set_option linter.unusedSimpArgs false
theorem touch_eg {u : List Int} {n : Int} (n0 : 0 ≤ n) (n8 : n < 8) (mem : ∀ n : Int, 0 ≤ n → n < 8 → n ∈ u) (lu : u.length = 8) (ru : ∀ n ∈ u, 0 ≤ n ∧ n < 8) : (∀ k : Int, 0 ≤ k → k < 8 → k ∈ wTouch u n) ∧ (wTouch u n).length = 8 ∧ ∀ k ∈ wTouch u n, 0 ≤ k ∧ k < 8 := by
  unfold wTouch
  rw [if_pos ⟨n0, n8⟩]
  refine ⟨fun k k0 k8 => ?_, ?_, fun k hk => ?_⟩
  · by_cases hkn : k = n
    · rw [hkn]; simp
    · rw [List.mem_append]; exact .inl ((List.mem_erase_of_ne hkn).2 (mem k k0 k8))
  · rw [List.length_append, List.length_erase_of_mem (mem n n0 n8), lu]; rfl
  · rcases List.mem_append.1 hk with hk | hk
    · exact ru k (List.mem_of_mem_erase hk)
    · rw [List.mem_singleton.1 hk]; exact ⟨n0, n8⟩
theorem EG.same {m m' : E} (h : EG m) (ho : m'.o = m.o) (hu : m'.u = m.u) (ha : m'.act = m.act) : EG m' := ⟨by rw [ho]; exact h.lo, by rw [ho]; exact h.ro, by rw [hu]; exact h.mem, by rw [hu]; exact h.lu, by rw [hu]; exact h.ru, by rw [ha]; exact h.act⟩
theorem EG.touch {m m' : E} {n : Int} (h : EG m) (n0 : 0 ≤ n) (n8 : n < 8) (ho : m'.o = m.o) (hu : m'.u = wTouch m.u n) (ha : 0 ≤ m'.act ∧ m'.act < 8) : EG m' := by
  obtain ⟨t1, t2, t3⟩ := touch_eg n0 n8 h.mem h.lu h.ru
  exact ⟨by rw [ho]; exact h.lo, by rw [ho]; exact h.ro, by rw [hu]; exact t1, by rw [hu]; exact t2, by rw [hu]; exact t3, ha⟩
theorem off_rng2 {x : Int} (h0 : 0 ≤ x) (h1 : x ≤ 255) (h : (wOffset x).2 = true) : 128 ≤ (wOffset x).1 := by
  have key : ∀ b : Fin 256, (wOffset (b.val : Int)).2 = true → 128 ≤ (wOffset (b.val : Int)).1 := by decide +kernel
  have := key ⟨x.toNat, by omega⟩
  simp only [Int.toNat_of_nonneg h0] at this
  exact this h
theorem own_rng2 {c : Int} (h0 : 0 ≤ c) (h1 : c ≤ 1114111) (h : (ownC c).2 = true) : 128 ≤ (ownC c).1 ∧ (ownC c).1 ≤ 1114000 := by
  unfold ownC at h ⊢
  by_cases hc : 65536 ≤ c
  · rw [if_pos hc]; simp only; omega
  · rw [if_neg hc] at h ⊢
    have hr := idx_rng (c := c) h0 (by omega)
    have := off_rng hr.1 hr.2
    have := off_rng2 hr.1 hr.2 (index_own h0 h).2
    simp only; omega
theorem EG.lay {m : E} {c : Int} (h : EG m) (h0 : 0 ≤ c) (h1 : c ≤ 1114111) (ho : (ownC c).2 = true) : EG (layM m c) := by
  have hn := old_rng h
  obtain ⟨t1, t2, t3⟩ := touch_eg hn.1 hn.2 h.mem h.lu h.ru
  have hr := own_rng2 h0 h1 ho
  refine ⟨by unfold layM; simp [h.lo], fun x hx => ?_, t1, t2, t3, hn⟩
  rcases List.mem_or_eq_of_mem_set hx with hx | rfl
  · exact h.ro x hx
  · exact hr
theorem EG.single {m : E} {c d : Int} (h : EG m) (h0 : 0 ≤ c) (h1 : c ≤ 1114111) : EG (singleC m c d).1 := by
  unfold singleC
  cases simpleC m c with
  | some e => exact h
  | none =>
    simp only
    split
    · rename_i hf
      have hsp := find_spec h hf
      split
      · exact h.touch hsp.1 hsp.2.1 rfl rfl ⟨hsp.1, hsp.2.1⟩
      · exact h.touch hsp.1 hsp.2.1 rfl rfl h.act
    · split
      · exact h
      · split
        · rename_i hc
          refine h.lay h0 h1 ?_
          simp only [Bool.or_eq_true, Bool.and_eq_true, decide_eq_true_eq] at hc
          rcases hc with hc | hc
          · exact own_of_twins hc
          · exact own_of_big hc.1
        · split
          · exact h
          · exact h.same rfl rfl rfl
def backC (m : E) (c : Int) : E := { m with beh := true, act := if (wFind m.o c).2 = true then (wFind m.o c).1 else m.act, u := wTouch m.u (if (wFind m.o c).2 = true then (wFind m.o c).1 else m.act), uni := false }
def workC (m : E) (c d : Int) : E × List Int :=
  if (!m.beh && (c == 65279)) = true then ({ m with beh := true }, [14, 254, 255])
  else if m.plain = true then
    if m.uni = true then ({ m with beh := true }, unitsC c)
    else match simpleC { m with beh := true } c with
      | some e => ({ m with beh := true }, e)
      | none => ({ m with beh := true, uni := true }, 15 :: unitsC c)
  else if m.uni = false then singleC { m with beh := true } c d
  else if (easyB m.o c && softB m.o d) = true then (backC m c, (224 + (backC m c).act) :: (simpleC (backC m c) c).getD [])
  else if twinsB c d = true then (layM { m with beh := true } c, layE { m with beh := true } c 232 241)
  else ({ m with beh := true }, unitsC c)
theorem EG.back {m : E} {c : Int} (h : EG m) : EG (backC m c) := by
  have hr : 0 ≤ (backC m c).act ∧ (backC m c).act < 8 := by
    unfold backC
    simp only
    split
    · rename_i hf
      have := find_spec h hf
      exact ⟨this.1, this.2.1⟩
    · exact h.act
  exact h.touch (n := (backC m c).act) hr.1 hr.2 rfl rfl hr
theorem EG.work {m : E} {c d : Int} (h : EG m) (h0 : 0 ≤ c) (h1 : c ≤ 1114111) : EG (workC m c d).1 := by
  have hb : EG { m with beh := true } := h.same rfl rfl rfl
  unfold workC
  split
  · exact hb
  · split
    · split
      · exact hb
      · split
        · exact hb
        · exact h.same rfl rfl rfl
    · split
      · exact hb.single h0 h1
      · split
        · exact h.back
        · split
          · rename_i ht
            exact hb.lay h0 h1 (own_of_twins ht)
          · exact hb
section
variable {w : World} {g gw : Nat} {b : B4} {l : List Int} {m : E}
set_option maxRecDepth 100000 in
set_option maxHeartbeats 16000000 in
theorem work_calls (c d : Int) (h : EncAt w g gw b l m) (hG : EG m) (h0 : 0 ≤ c) (h1 : c ≤ 1114111) (d0 : 0 ≤ d) (d1 : d ≤ 4294967295) (hl : l.length < 999800) :
    Calls Try.prog 32 #[.pointer (some ⟨g, 0, none⟩), .int .u32 c, .int .u32 d] w (KeepPost w g gw b (l ++ (workC m c d).2) (workC m c d).1) := by
  have h9 := h.c9
  have f9 := h.fz 9
  obtain ⟨bb, hbb⟩ : ∃ bb, bb = m.beh := ⟨_, rfl⟩
  rw [← hbb] at h9
  have hs := h.set 9 (.bool true) (b' := b) (l' := l) (m' := { m with beh := true }) rfl rfl rfl
  have hsz : (w.setCell ⟨g, 9, none⟩ (.bool true)).heap.size = w.heap.size := by simp [World.setCell]
  have HGb := Lib.hid (show EG { m with beh := true } from hG.same rfl rfl rfl)
  have HG := Lib.hid hG
  have HC0 := Lib.hid (efs_g (g := g) (gw := gw) (w := w) 9 (.bool true))
  have HS := Lib.hid hs
  have HSZ := Lib.hid hsz
  obtain ⟨R, hR⟩ : ∃ R, R = workC m c d := ⟨_, rfl⟩
  rw [← hR]
  unfold workC at hR
  rw [← hbb] at hR
  obtain ⟨q, hq⟩ : ∃ q, q = (!bb && (c == 65279)) := ⟨_, rfl⟩
  rw [← hq] at hR
  have HR := Lib.hid hR
  have HQ := Lib.hid hq
  clear h hG hs hsz hq hR hbb
  go_enter Try.func32, Try.ntmps32
  go_upto_region 3 with fail
  go_cut [20] (fun v wx => v = .bool q ∧ wx = w.setCell ⟨g, 9, none⟩ (.bool true))
  case first =>
    have hq := HQ.out
    cases bb <;> cases hcc : (c == 65279)
    all_goals
      rw [hcc] at hq
      subst hq
      go_wp2_with fail
      go_meet
      exact ⟨rfl, rfl⟩
  case rest =>
    obtain ⟨rfl, rfl⟩ := hcut
    obtain ⟨w1, hw1⟩ : ∃ w1, w1 = w.setCell ⟨g, 9, none⟩ (.bool true) := ⟨_, rfl⟩
    have H1 := Lib.hid (show EncAt w1 g gw b l { m with beh := true } by rw [hw1]; exact HS.out)
    have HC1 := Lib.hid (show Chg (EFS g gw) w w1 by rw [hw1]; exact HC0.out)
    rw [← hw1]
    clear hw1
    have c5 := H1.out.c5
    have c6 := H1.out.c6
    have c7 := H1.out.c7
    have c8 := H1.out.c8
    simp only at c5 c6 c7 c8
    cases q with
    | true =>
      have hr := HR.out
      rw [if_pos rfl] at hr
      replace HR := Lib.hid hr
      clear hr
      have HK := Lib.hid (keep_calls [14, 254, 255] H1.out (by omega) (by simp))
      go_wp2_with fail
      refine HK.out.mono ?_
      rintro e w9 ⟨rfl, hd9, hc9⟩
      have HD9 := Lib.hid hd9
      have HC9 := Lib.hid hc9
      clear hd9 hc9
      go_wp2_with fail
      go_end0
      refine ⟨rfl, ?_, HC1.out.trans HC9.out⟩
      rw [HR.out]
      exact HD9.out
    | false =>
      have hr := HR.out
      rw [if_neg (by simp)] at hr
      replace HR := Lib.hid hr
      clear hr
      cases hp : m.plain with
      | true =>
        have hr := HR.out
        rw [if_pos hp] at hr
        replace HR := Lib.hid hr
        clear hr
        rw [hp] at c5
        cases hu : m.uni with
        | true =>
          have hr := HR.out
          rw [if_pos hu] at hr
          replace HR := Lib.hid hr
          clear hr
          rw [hu] at c7
          have HK := Lib.hid (units_calls c H1.out h0 h1 (by omega))
          clear hp hu
          go_wp2_with fail
          refine HK.out.mono ?_
          rintro e w9 ⟨rfl, hd9, hc9⟩
          have HD9 := Lib.hid hd9
          have HC9 := Lib.hid hc9
          clear hd9 hc9
          go_wp2_with fail
          go_end0
          refine ⟨rfl, ?_, HC1.out.trans HC9.out⟩
          rw [HR.out]
          exact HD9.out
        | false =>
          have hr := HR.out
          rw [if_neg (by simp [hu])] at hr
          replace HR := Lib.hid hr
          clear hr
          rw [hu] at c7
          have hsi := simple_calls c H1.out HGb.out h0 h1 (by omega)
          cases hsc : simpleC { m with beh := true } c with
          | some e =>
            have hr := HR.out
            rw [hsc] at hsi hr
            replace HR := Lib.hid hr
            have HSi := Lib.hid hsi
            clear hp hu hsc hsi hr
            go_wp2_with fail
            refine HSi.out.mono ?_
            rintro e1 w2 ⟨rfl, hd, hc⟩
            have HD := Lib.hid hd
            have HC := Lib.hid hc
            clear hd hc
            go_wp2_with fail
            go_end0
            refine ⟨rfl, ?_, HC1.out.trans HC.out⟩
            rw [HR.out]
            exact HD.out
          | none =>
            have hr := HR.out
            rw [hsc] at hsi hr
            replace HR := Lib.hid hr
            have HSi := Lib.hid hsi
            clear hp hu hsc hsi hr
            go_wp2_with fail
            refine HSi.out.mono ?_
            rintro e1 w2 ⟨rfl, hd, hc⟩
            have HK := Lib.hid (double_calls c hd h0 h1 (by omega))
            have HC := Lib.hid hc
            clear hd hc
            go_wp2_with fail
            refine HK.out.mono ?_
            rintro e w9 ⟨rfl, hd9, hc9⟩
            have HD9 := Lib.hid hd9
            have HC9 := Lib.hid hc9
            clear hd9 hc9
            go_wp2_with fail
            go_end0
            refine ⟨rfl, ?_, (HC1.out.trans HC.out).trans HC9.out⟩
            rw [HR.out]
            exact HD9.out
      | false =>
        have hr := HR.out
        rw [if_neg (by simp [hp])] at hr
        replace HR := Lib.hid hr
        clear hr
        rw [hp] at c5
        cases hu : m.uni with
        | false =>
          have hr := HR.out
          rw [if_pos hu] at hr
          replace HR := Lib.hid hr
          clear hr
          rw [hu] at c7
          have HK := Lib.hid (single_calls c d H1.out HGb.out h0 h1 d0 d1 (by omega))
          clear hp hu
          go_wp2_with fail
          refine HK.out.mono ?_
          rintro e w9 ⟨rfl, hd9, hc9⟩
          have HD9 := Lib.hid hd9
          have HC9 := Lib.hid hc9
          clear hd9 hc9
          go_wp2_with fail
          go_end0
          refine ⟨rfl, ?_, HC1.out.trans HC9.out⟩
          rw [HR.out]
          exact HD9.out
        | true =>
          have hr := HR.out
          rw [if_neg (by simp [hu])] at hr
          replace HR := Lib.hid hr
          clear hr
          rw [hu] at c7
          have HEa := Lib.hid (easy_calls c H1.out HGb.out.rng h0 (by omega))
          have HSo := Lib.hid (soft_calls d H1.out HGb.out.rng d0 d1)
          have HTw := Lib.hid (fun w => twins_calls c d w h0 (by omega) d0 d1)
          have HOt := Lib.hid (fun h => own_of_twins (c := c) (d := d) h)
          have HFi := Lib.hid (find_calls gw m.o m.u c w1 H1.out.win HG.out.rng h0 (by omega))
          clear hp hu
          simp only at HEa HSo
          have hcs : (easyB m.o c && softB m.o d) = false ∨ (easyB m.o c = true ∧ softB m.o d = true) := by cases easyB m.o c <;> cases softB m.o d <;> simp
          rcases hcs with hes | ⟨he, hso⟩
          · have hr := HR.out
            rw [hes, if_neg (by simp)] at hr
            replace HR := Lib.hid hr
            clear hr
            have hes2 : easyB m.o c = false ∨ (easyB m.o c = true ∧ softB m.o d = false) := by
              cases h1 : easyB m.o c
              · exact .inl rfl
              · rw [h1] at hes; exact .inr ⟨rfl, by simpa using hes⟩
            clear hes
            generalize easyB m.o c = ea at HEa hes2
            generalize softB m.o d = so at HSo hes2
            have hr := HR.out
            generalize twinsB c d = T at HTw HOt hr
            replace HR := Lib.hid hr
            clear hr
            rcases hes2 with rfl | ⟨rfl, rfl⟩
            · cases T with
              | true =>
                have hr := HR.out
                rw [if_pos rfl] at hr
                replace HR := Lib.hid hr
                clear hr
                go_wp2_with fail
                refine HEa.out.mono ?_
                rintro e1 w2 ⟨rfl, rfl⟩
                go_wp2_with fail
                refine (HTw.out _).mono ?_
                rintro e1 w2 ⟨rfl, hb⟩
                have HK := Lib.hid (lay_calls c 232 241 (H1.out.below hb) HGb.out h0 h1 (by omega) (HOt.out (by trivial)) (by decide) (by decide) (by decide) (by decide))
                have HB := Lib.hid (Chg.of_below (S := EFS g gw) hb)
                clear hb
                go_wp2_with fail
                refine HK.out.mono ?_
                rintro e w9 ⟨rfl, hd9, hc9⟩
                have HD9 := Lib.hid hd9
                have HC9 := Lib.hid hc9
                clear hd9 hc9
                go_wp2_with fail
                go_end0
                refine ⟨rfl, ?_, (HC1.out.trans HB.out).trans HC9.out⟩
                rw [HR.out]
                exact HD9.out
              | false =>
                have hr := HR.out
                rw [if_neg (by simp)] at hr
                replace HR := Lib.hid hr
                clear hr
                go_wp2_with fail
                refine HEa.out.mono ?_
                rintro e1 w2 ⟨rfl, rfl⟩
                go_wp2_with fail
                refine (HTw.out _).mono ?_
                rintro e1 w2 ⟨rfl, hb⟩
                have HK := Lib.hid (units_calls c (H1.out.below hb) h0 h1 (by omega))
                have HB := Lib.hid (Chg.of_below (S := EFS g gw) hb)
                clear hb
                go_wp2_with fail
                refine HK.out.mono ?_
                rintro e w9 ⟨rfl, hd9, hc9⟩
                have HD9 := Lib.hid hd9
                have HC9 := Lib.hid hc9
                clear hd9 hc9
                go_wp2_with fail
                go_end0
                refine ⟨rfl, ?_, (HC1.out.trans HB.out).trans HC9.out⟩
                rw [HR.out]
                exact HD9.out
            · cases T with
              | true =>
                have hr := HR.out
                rw [if_pos rfl] at hr
                replace HR := Lib.hid hr
                clear hr
                go_wp2_with fail
                refine HEa.out.mono ?_
                rintro e1 w2 ⟨rfl, rfl⟩
                go_wp2_with fail
                refine HSo.out.mono ?_
                rintro e1 w2 ⟨rfl, rfl⟩
                go_wp2_with fail
                refine (HTw.out _).mono ?_
                rintro e1 w2 ⟨rfl, hb⟩
                have HK := Lib.hid (lay_calls c 232 241 (H1.out.below hb) HGb.out h0 h1 (by omega) (HOt.out (by trivial)) (by decide) (by decide) (by decide) (by decide))
                have HB := Lib.hid (Chg.of_below (S := EFS g gw) hb)
                clear hb
                go_wp2_with fail
                refine HK.out.mono ?_
                rintro e w9 ⟨rfl, hd9, hc9⟩
                have HD9 := Lib.hid hd9
                have HC9 := Lib.hid hc9
                clear hd9 hc9
                go_wp2_with fail
                go_end0
                refine ⟨rfl, ?_, (HC1.out.trans HB.out).trans HC9.out⟩
                rw [HR.out]
                exact HD9.out
              | false =>
                have hr := HR.out
                rw [if_neg (by simp)] at hr
                replace HR := Lib.hid hr
                clear hr
                go_wp2_with fail
                refine HEa.out.mono ?_
                rintro e1 w2 ⟨rfl, rfl⟩
                go_wp2_with fail
                refine HSo.out.mono ?_
                rintro e1 w2 ⟨rfl, rfl⟩
                go_wp2_with fail
                refine (HTw.out _).mono ?_
                rintro e1 w2 ⟨rfl, hb⟩
                have HK := Lib.hid (units_calls c (H1.out.below hb) h0 h1 (by omega))
                have HB := Lib.hid (Chg.of_below (S := EFS g gw) hb)
                clear hb
                go_wp2_with fail
                refine HK.out.mono ?_
                rintro e w9 ⟨rfl, hd9, hc9⟩
                have HD9 := Lib.hid hd9
                have HC9 := Lib.hid hc9
                clear hd9 hc9
                go_wp2_with fail
                go_end0
                refine ⟨rfl, ?_, (HC1.out.trans HB.out).trans HC9.out⟩
                rw [HR.out]
                exact HD9.out
          · have hr := HR.out
            rw [he, hso, if_pos (by simp)] at hr
            rw [he] at HEa
            rw [hso] at HSo
            clear he hso
            have hbr := HG.out.back (c := c)
            obtain ⟨n, hn⟩ : ∃ n, n = (backC m c).act := ⟨_, rfl⟩
            have hnr := hbr.act
            rw [← hn] at hnr hr
            replace HR := Lib.hid hr
            clear hr
            obtain ⟨n0, n8⟩ := hnr
            have hbe : backC m c = { m with beh := true, act := n, u := wTouch m.u n, uni := false } := by rw [hn]; rfl
            have hnn : ((wFind m.o c).2 = true ∧ (wFind m.o c).1 = n) ∨ ((wFind m.o c).2 = false ∧ m.act = n) := by
              rw [hn]
              unfold backC
              simp only
              cases h2 : (wFind m.o c).2
              · right; simp
              · left; simp
            have HBE := Lib.hid hbe
            have HBR := Lib.hid hbr
            have HU := Lib.hid (use_calls n H1.out (HGb.out.mem n))
            clear hbr hn hbe
            have hrest : ∀ w2 : World, EncAt w2 g gw b l { m with beh := true, act := n, u := wTouch m.u n } → Chg (EFS g gw) w1 w2 → EncAt (w2.setCell ⟨g, 7, none⟩ (.bool false)) g gw b l (backC m c) := fun w2 hd hc => by
              rw [HBE.out]
              exact hd.set 7 (.bool false) rfl rfl rfl
            have HRest := Lib.hid hrest
            clear hrest
            generalize wFind m.o c = r at HFi hnn
            obtain ⟨fn, fk⟩ := r
            simp only at hnn
            rcases hnn with ⟨rfl, rfl⟩ | ⟨rfl, rfl⟩
            · go_wp2_with fail
              refine HEa.out.mono ?_
              rintro e1 w2 ⟨rfl, rfl⟩
              go_wp2_with fail
              refine HSo.out.mono ?_
              rintro e1 w2 ⟨rfl, rfl⟩
              go_wp2_with fail
              refine HFi.out.mono ?_
              rintro e1 w2 ⟨rfl, rfl⟩
              go_wp2_with fail
              refine HU.out.mono ?_
              rintro e1 w2 ⟨rfl, hd, hc⟩
              have c7b := hd.c7
              have f7b := hd.fz 7
              have hb2 := HRest.out w2 hd hc
              have hsz2 : (w2.setCell ⟨g, 7, none⟩ (.bool false)).heap.size = w2.heap.size := by simp [World.setCell]
              have hk := keep_calls [224 + fn] hb2 (by omega) (by simp)
              rw [hsz2] at hk
              have HK := Lib.hid hk
              have HC2 := Lib.hid (HC1.out.trans (hc.trans (efs_g 7 (.bool false))))
              clear hd hc hb2 hsz2 hk
              go_wp2_with fail
              refine HK.out.mono ?_
              rintro e1 w3 ⟨rfl, hd3, hc3⟩
              have hsi := simple_calls c hd3 HBR.out h0 h1 (by rw [List.length_append]; simp; omega)
              have HC3 := Lib.hid (HC2.out.trans hc3)
              cases hsc : simpleC (backC m c) c with
              | some e =>
                have hr := HR.out
                rw [hsc] at hsi hr
                replace HR := Lib.hid hr
                have HSi := Lib.hid hsi
                clear hsi hsc hd3 hc3 hr
                go_wp2_with fail
                refine HSi.out.mono ?_
                rintro e1 w4 ⟨rfl, hd4, hc4⟩
                have HD4 := Lib.hid hd4
                have HC4 := Lib.hid hc4
                clear hd4 hc4
                go_wp2_with fail
                go_end0
                refine ⟨rfl, ?_, HC3.out.trans HC4.out⟩
                rw [HR.out]
                have := HD4.out
                rw [List.append_assoc] at this
                exact this
              | none =>
                have hr := HR.out
                rw [hsc] at hsi hr
                replace HR := Lib.hid hr
                have HSi := Lib.hid hsi
                clear hsi hsc hd3 hc3 hr
                go_wp2_with fail
                refine HSi.out.mono ?_
                rintro e1 w4 ⟨rfl, hd4, hc4⟩
                have HD4 := Lib.hid hd4
                have HC4 := Lib.hid hc4
                clear hd4 hc4
                go_wp2_with fail
                go_end0
                refine ⟨rfl, ?_, HC3.out.trans HC4.out⟩
                rw [HR.out]
                exact HD4.out
            · go_wp2_with fail
              refine HEa.out.mono ?_
              rintro e1 w2 ⟨rfl, rfl⟩
              go_wp2_with fail
              refine HSo.out.mono ?_
              rintro e1 w2 ⟨rfl, rfl⟩
              go_wp2_with fail
              refine HFi.out.mono ?_
              rintro e1 w2 ⟨rfl, rfl⟩
              go_wp2_with fail
              refine HU.out.mono ?_
              rintro e1 w2 ⟨rfl, hd, hc⟩
              have c7b := hd.c7
              have f7b := hd.fz 7
              have hb2 := HRest.out w2 hd hc
              have hsz2 : (w2.setCell ⟨g, 7, none⟩ (.bool false)).heap.size = w2.heap.size := by simp [World.setCell]
              have hk := keep_calls [224 + m.act] hb2 (by omega) (by simp)
              rw [hsz2] at hk
              have HK := Lib.hid hk
              have HC2 := Lib.hid (HC1.out.trans (hc.trans (efs_g 7 (.bool false))))
              clear hd hc hb2 hsz2 hk
              go_wp2_with fail
              refine HK.out.mono ?_
              rintro e1 w3 ⟨rfl, hd3, hc3⟩
              have hsi := simple_calls c hd3 HBR.out h0 h1 (by rw [List.length_append]; simp; omega)
              have HC3 := Lib.hid (HC2.out.trans hc3)
              cases hsc : simpleC (backC m c) c with
              | some e =>
                have hr := HR.out
                rw [hsc] at hsi hr
                replace HR := Lib.hid hr
                have HSi := Lib.hid hsi
                clear hsi hsc hd3 hc3 hr
                go_wp2_with fail
                refine HSi.out.mono ?_
                rintro e1 w4 ⟨rfl, hd4, hc4⟩
                have HD4 := Lib.hid hd4
                have HC4 := Lib.hid hc4
                clear hd4 hc4
                go_wp2_with fail
                go_end0
                refine ⟨rfl, ?_, HC3.out.trans HC4.out⟩
                rw [HR.out]
                have := HD4.out
                rw [List.append_assoc] at this
                exact this
              | none =>
                have hr := HR.out
                rw [hsc] at hsi hr
                replace HR := Lib.hid hr
                have HSi := Lib.hid hsi
                clear hsi hsc hd3 hc3 hr
                go_wp2_with fail
                refine HSi.out.mono ?_
                rintro e1 w4 ⟨rfl, hd4, hc4⟩
                have HD4 := Lib.hid hd4
                have HC4 := Lib.hid hc4
                clear hd4 hc4
                go_wp2_with fail
                go_end0
                refine ⟨rfl, ?_, HC3.out.trans HC4.out⟩
                rw [HR.out]
                exact HD4.out
end
end Go.Proofs.Ytkfiahildoljfaa.Enc
