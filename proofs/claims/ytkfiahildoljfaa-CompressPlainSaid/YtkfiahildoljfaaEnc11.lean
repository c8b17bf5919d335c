/- The compressor: fed. -/
import Derived.Test.YtkfiahildoljfaaEnc10
import Derived.Deep.CutBlock
import Derived.Deep.DeepCutAuto
namespace Go.Proofs.Ytkfiahildoljfaa.Enc
open Go.RowKit Go.Proofs.Ytkfiahildoljfaa.Win Go.Proofs.Ytkfiahildoljfaa.Stp Go.Proofs.Ytkfiahildoljfaa.Lst
set_option linter.unusedVariables false
set_option linter.unusedSimpArgs false
def FeedRel (w : World) (g gw : Nat) (b : B4) (m : E) (p l : List Int) (room : Int) (vo i : Value) (wr : World) : Prop :=
  ∃ (n : Nat) (S p' : List Int) (m' : E), i = .int .i64 n ∧ vo = .string (strOfNums S) ∧ n ≤ l.length ∧ EncAt wr g gw { b with at_ := b.at_ + n } p' m' ∧ EG m' ∧ Wt m' ∧ Chg (EFS g gw) w wr ∧ (∀ c ∈ l.take n, isB c = true) ∧
    ((S.length : Int) ≤ room ∨ S = []) ∧ (p' = [] ∨ room ≤ (S.length : Int)) ∧ (n ≠ 0 → b.going = true) ∧ m' = (pushes m (l.take n)).1 ∧ S ++ p' = p ++ (pushes m (l.take n)).2
def FeedMid (w : World) (g gw : Nat) (b : B4) (m : E) (p l : List Int) (room : Int) (vo i : Value) (wr : World) : Prop :=
  ∃ (n : Nat) (S p' : List Int) (b' : B4) (m' : E), i = .int .i64 n ∧ vo = .string (strOfNums S) ∧ EncAt wr g gw b' p' m' ∧ EG m' ∧ Wt m' ∧ Chg (EFS g gw) w wr ∧ FedE b m p l room n S b' m' p'
def FeedPost (w : World) (g gw : Nat) (b : B4) (m : E) (p l : List Int) (room : Int) (e : Ending) (wr : World) : Prop :=
  ∃ (n : Nat) (S p' : List Int) (b' : B4) (m' : E), e = .returned (.tuple #[.int .i64 n, .string (strOfNums S)]) ∧ EncAt wr g gw b' p' m' ∧ EG m' ∧ Wt m' ∧ Chg (EFS g gw) w wr ∧ FedE b m p l room n S b' m' p'
set_option maxRecDepth 100000 in
set_option maxHeartbeats 16000000 in
theorem feed_calls {w : World} {g gw : Nat} {b : B4} {p l : List Int} {m : E} {A : Option Addr} {cap : Nat} (room : Int) (h : EncAt w g gw b p m) (hG : EG m) (hw : Wt m) (hp : p.length ≤ 200000) (hl : l.length ≤ 10000)
    (hA : ∀ wr, Chg (EFS g gw) w wr → Lst wr .u32 A l) (hr : ∀ x ∈ l, 0 ≤ x ∧ x ≤ 4294967295) (r0 : 0 ≤ room) (r1 : room ≤ 1000000) (hb0 : 0 ≤ b.at_) (hb1 : b.at_ ≤ 1000000) :
    Calls Try.prog 17 #[.pointer (some ⟨g, 0, none⟩), .slice A l.length cap, .int .i64 room] w (FeedPost w g gw b m p l room) := by
  have hgi := give_calls room h (by omega)
  obtain ⟨k, hk⟩ : ∃ k, k = clipN room p.length := ⟨_, rfl⟩
  rw [← hk] at hgi
  have hgm := give_more (S := []) (q := p) (room := room) (.inr rfl)
  rw [show room - (([] : List Int).length : Int) = room by simp, ← hk] at hgm
  simp only [List.nil_append] at hgm
  have H := Lib.hid h
  have HG := Lib.hid hG
  have HW := Lib.hid hw
  have HA := Lib.hid hA
  have HR := Lib.hid hr
  have HGi := Lib.hid hgi
  have HGm := Lib.hid hgm
  clear h hG hw hA hr hgi hgm hk
  go_enter Try.func17, Try.ntmps17
  go_wp2_with fail
  refine HGi.out.mono ?_
  rintro e w1 ⟨rfl, rfl⟩
  have h1 := H.out.set 4 (.string (strOfNums (p.drop k))) (b' := b) (l' := p.drop k) (m' := m) rfl rfl rfl
  obtain ⟨w1, hw1⟩ : ∃ w1, w1 = w.setCell ⟨g, 4, none⟩ (.string (strOfNums (p.drop k))) := ⟨_, rfl⟩
  rw [← hw1] at h1 ⊢
  have HC1 := Lib.hid (show Chg (EFS g gw) w w1 by rw [hw1]; exact efs_g 4 _)
  have H1 := Lib.hid h1
  clear h1 hw1
  go_upto_block 0 with fail
  go_cut [8, 9] (fun vo i wx => FeedMid w g gw b m p l room vo i wx)
  case first =>
    go_wp2_with fail
    go_loopw [8, 9] (fun vo i wr => FeedRel w g gw b m p l room vo i wr) (fun _ i _ => l.length - (intOf i).toNat)
    case atStart =>
      refine ⟨0, p.take k, p.drop k, m, rfl, rfl, Nat.zero_le _, ?_, HG.out, HW.out, HC1.out, (fun c hc => by cases hc), HGm.out.1, HGm.out.2.1, fun h => absurd rfl h, rfl, ?_⟩
      · have := H1.out
        simpa using this
      · rw [HGm.out.2.2]
        first | done | simp [pushes]
    case round =>
      obtain ⟨n, S, p', m', rfl, rfl, hn, hd, hg, hwt, hc, hsc, hfit, hfull, hgo, hm, hS⟩ := hrel
      have hsl : S.length ≤ 400000 ∧ p'.length ≤ 400000 := by
        have h1 := pushes_len (l.take n) m
        have h2 : (S ++ p').length = (p ++ (pushes m (l.take n)).2).length := by rw [hS]
        rw [List.length_append, List.length_append] at h2
        rw [List.length_take] at h1
        omega
      obtain ⟨hs1, hs2⟩ := hsl
      have hXs := str_size S
      have HD := Lib.hid hd
      have HGr := Lib.hid hg
      have HWt := Lib.hid hwt
      have HC := Lib.hid hc
      have HSc := Lib.hid hsc
      have HFit := Lib.hid hfit
      have HFull := Lib.hid hfull
      have HGo := Lib.hid hgo
      have HM := Lib.hid hm
      have HS := Lib.hid hS
      have HKe := Lib.hid (kept_calls hd (by omega))
      have hgoing := going_calls g _ wr hd.base
      have hge : (({ b with at_ := b.at_ + n } : B4)).going = b.going := rfl
      rw [hge] at hgoing
      clear hd hg hwt hc hsc hfit hfull hgo hm hS hge
      by_cases hlt : n < l.length
      · by_cases hpe : p' = []
        · have hpl : ((p'.length : Int) == 0) = true := by rw [hpe]; rfl
          cases hbg : b.going with
          | true =>
            rw [hbg] at hgoing
            have HGg := Lib.hid hgoing
            have HBG := Lib.hid hbg
            have HPE := Lib.hid hpe
            obtain ⟨a, rfl, q⟩ := (HA.out wr HC.out) n hlt
            have hrx := HR.out (l.getD n 0) (by rw [List.getD_eq_getElem?_getD, List.getElem?_eq_getElem hlt]; exact List.getElem_mem _)
            obtain ⟨x, hx⟩ : ∃ x, x = l.getD n 0 := ⟨_, rfl⟩
            rw [← hx] at q hrx
            obtain ⟨x0, x1⟩ := hrx
            have HX := Lib.hid hx
            have hisx := sis_calls x
            have c10 := HD.out.c10
            have f10 := HD.out.fz 10
            clear hgoing hbg hpe hx
            cases hix : isB x with
            | true =>
              rw [hix] at hisx
              have HIs := Lib.hid hisx
              have HIx := Lib.hid hix
              clear hisx hix
              have HTk := Lib.hid (show l.take (n + 1) = l.take n ++ [x] by rw [List.take_succ_eq_append_getElem hlt, HX.out, List.getD_eq_getElem?_getD, List.getElem?_eq_getElem hlt]; rfl)
              by_cases hwn : m'.wt = 2147483648
              · have hwb : (m'.wt != 2147483648) = false := by simp [hwn]
                have hpc : pushC m' x = ({ m' with wt := x }, []) := by unfold pushC; rw [if_pos hwn]
                have HPC := Lib.hid hpc
                clear hwn hpc
                go_wp2_with fail
                refine HKe.out.mono ?_
                rintro e w2 ⟨rfl, rfl⟩
                go_wp2_with fail
                refine HGg.out.mono ?_
                rintro e w2 ⟨rfl, rfl⟩
                go_wp2_with fail
                refine (HIs.out _).mono ?_
                rintro e w2 ⟨rfl, rfl⟩
                go_wp2_with fail
                have hdw : EncAt (wr.setCell ⟨g, 10, none⟩ (.int .u32 x)) g gw { b with at_ := b.at_ + n } (p' ++ (pushC m' x).2) (pushC m' x).1 := by
                  rw [HPC.out, List.append_nil]
                  exact HD.out.set 10 (.int .u32 x) rfl rfl rfl
                have hcw : Chg (EFS g gw) w (wr.setCell ⟨g, 10, none⟩ (.int .u32 x)) := HC.out.trans (efs_g 10 _)
                have h0c := hdw.fz 0
                have hd5 := hdw.set 0 (.int .i64 (b.at_ + n + 1)) (b' := { b with at_ := b.at_ + n + 1 }) (l' := p' ++ (pushC m' x).2) (m' := (pushC m' x).1) rfl rfl rfl
                have HEt := Lib.hid (eat_calls g _ 1 (wr.setCell ⟨g, 10, none⟩ (.int .u32 x)) hdw.base (show (({ b with at_ := b.at_ + n } : B4)).going = true from HBG.out) (by decide) (by decide) (show 0 ≤ b.at_ + n by omega) (show b.at_ + n ≤ 1000000000 by omega))
                have hpl2 := push_len m' x
                have hgi3 := give_calls (room - S.length) hd5 (by rw [List.length_append]; omega)
                have hgm3 := give_more (S := S) (q := p' ++ (pushC m' x).2) (room := room) HFit.out
                have hql : (p' ++ (pushC m' x).2).length ≤ 500000 := by rw [List.length_append]; omega
                obtain ⟨q2, hq2⟩ : ∃ q2, q2 = p' ++ (pushC m' x).2 := ⟨_, rfl⟩
                rw [← hq2] at hgi3 hgm3 hql hd5
                obtain ⟨k2, hk2⟩ : ∃ k2, k2 = clipN (room - S.length) q2.length := ⟨_, rfl⟩
                rw [← hk2] at hgi3 hgm3
                have hT := str_size (q2.take k2)
                have happ := str_append S (q2.take k2)
                have hTl : (q2.take k2).length ≤ 500000 := by rw [List.length_take]; omega
                obtain ⟨T, hTT⟩ : ∃ T, T = q2.take k2 := ⟨_, rfl⟩
                rw [← hTT] at hgi3 hgm3 hT happ hTl
                have HGi3 := Lib.hid hgi3
                have HGm3 := Lib.hid hgm3
                have HD5 := Lib.hid hd5
                have HQ2 := Lib.hid hq2
                have HC5 := Lib.hid hcw
                clear hdw hcw hd5 hgi3 hgm3 hq2 hk2 hTT hpl2 hql h0c
                go_wp2_with fail
                refine HEt.out.mono ?_
                rintro e w6 ⟨rfl, rfl⟩
                go_wp2_with fail
                refine HGi3.out.mono ?_
                rintro e w7 ⟨rfl, rfl⟩
                go_wp2_with fail
                go_roundw
                case rel =>
                  refine ⟨n + 1, S ++ T, q2.drop k2, (pushC m' x).1, by go_num, rfl, hlt, ?_, HGr.out.push HWt.out, .inr ?_, (HC5.out.trans (efs_g 0 _)).trans (efs_g 4 _), ?_, HGm3.out.1, HGm3.out.2.1, fun _ => HBG.out, ?_, ?_⟩
                  · have := HD5.out.set 4 (.string (strOfNums (q2.drop k2))) (b' := { b with at_ := b.at_ + n + 1 }) (l' := q2.drop k2) (m' := (pushC m' x).1) rfl rfl rfl
                    have e2 : b.at_ + ((n + 1 : Nat) : Int) = b.at_ + n + 1 := by omega
                    rw [e2]
                    exact this
                  · rw [wt_push]; exact ⟨x0, isB_rng HIx.out⟩
                  · rw [HTk.out]
                    intro c hc
                    rcases List.mem_append.1 hc with hc | hc
                    · exact HSc.out c hc
                    · rw [List.mem_singleton.1 hc]; exact HIx.out
                  · rw [HTk.out, pushes_snoc, ← HM.out]
                  · rw [HGm3.out.2.2, HQ2.out, HTk.out, pushes_snoc, ← HM.out, ← List.append_assoc, HS.out, List.append_assoc] <;> rfl
                case measure => simp [intOf]; omega
              · have hwb : (m'.wt != 2147483648) = true := by simp [hwn]
                have hpc : pushC m' x = ({ (workC m' m'.wt x).1 with wt := x }, (workC m' m'.wt x).2) := by unfold pushC; rw [if_neg hwn]
                have hwr : 0 ≤ m'.wt ∧ m'.wt ≤ 1114111 := by
                  rcases HWt.out with h1 | h1
                  · exact absurd h1 hwn
                  · exact h1
                have HWk := Lib.hid (work_calls m'.wt x (HD.out.drewN 1) HGr.out hwr.1 hwr.2 x0 x1 (by omega))
                have HPC := Lib.hid hpc
                have HLs := Lib.hid (HA.out wr HC.out)
                clear hwn hpc hwr
                go_wp2_with fail
                refine HKe.out.mono ?_
                rintro e w2 ⟨rfl, rfl⟩
                go_wp2_with fail
                refine HGg.out.mono ?_
                rintro e w2 ⟨rfl, rfl⟩
                go_wp2_with fail
                refine (HIs.out _).mono ?_
                rintro e w2 ⟨rfl, rfl⟩
                go_wp2_with fail
                go_region_with (go_at_call 32; refine HWk.out.mono ?_; rintro e w2 ⟨rfl, hd2, hc2⟩; have HDC := Lib.hid (And.intro hd2 hc2); clear hd2 hc2)
                all_goals
                  obtain ⟨hd2, hc2⟩ := HDC.out
                  have hcc2 : Chg (EFS g gw) w w2 := (HC.out.trans (Chg.drew wr)).trans hc2
                  obtain ⟨a2, ha2, q2c⟩ := (HA.out w2 hcc2) n hlt
                  obtain rfl : a2 = a := by injection ha2 with h; exact h.symm
                  rw [← HX.out] at q2c
                  have c10b := hd2.c10
                  have f10b := hd2.fz 10
                  have hdw : EncAt (w2.setCell ⟨g, 10, none⟩ (.int .u32 x)) g gw { b with at_ := b.at_ + n } (p' ++ (pushC m' x).2) (pushC m' x).1 := by
                    rw [HPC.out]
                    exact hd2.set 10 (.int .u32 x) rfl rfl rfl
                  have hcw : Chg (EFS g gw) w (w2.setCell ⟨g, 10, none⟩ (.int .u32 x)) := hcc2.trans (efs_g 10 _)
                  clear hd2 hc2 hcc2 ha2
                  go_wp2_with fail
                  have h0c := hdw.fz 0
                  have hd5 := hdw.set 0 (.int .i64 (b.at_ + n + 1)) (b' := { b with at_ := b.at_ + n + 1 }) (l' := p' ++ (pushC m' x).2) (m' := (pushC m' x).1) rfl rfl rfl
                  have HEt := Lib.hid (eat_calls g _ 1 (w2.setCell ⟨g, 10, none⟩ (.int .u32 x)) hdw.base (show (({ b with at_ := b.at_ + n } : B4)).going = true from HBG.out) (by decide) (by decide) (show 0 ≤ b.at_ + n by omega) (show b.at_ + n ≤ 1000000000 by omega))
                  have hpl2 := push_len m' x
                  have hgi3 := give_calls (room - S.length) hd5 (by rw [List.length_append]; omega)
                  have hgm3 := give_more (S := S) (q := p' ++ (pushC m' x).2) (room := room) HFit.out
                  have hql : (p' ++ (pushC m' x).2).length ≤ 500000 := by rw [List.length_append]; omega
                  obtain ⟨q2, hq2⟩ : ∃ q2, q2 = p' ++ (pushC m' x).2 := ⟨_, rfl⟩
                  rw [← hq2] at hgi3 hgm3 hql hd5
                  obtain ⟨k2, hk2⟩ : ∃ k2, k2 = clipN (room - S.length) q2.length := ⟨_, rfl⟩
                  rw [← hk2] at hgi3 hgm3
                  have hT := str_size (q2.take k2)
                  have happ := str_append S (q2.take k2)
                  have hTl : (q2.take k2).length ≤ 500000 := by rw [List.length_take]; omega
                  obtain ⟨T, hTT⟩ : ∃ T, T = q2.take k2 := ⟨_, rfl⟩
                  rw [← hTT] at hgi3 hgm3 hT happ hTl
                  have HGi3 := Lib.hid hgi3
                  have HGm3 := Lib.hid hgm3
                  have HD5 := Lib.hid hd5
                  have HQ2 := Lib.hid hq2
                  have HC5 := Lib.hid hcw
                  clear hdw hcw hd5 hgi3 hgm3 hq2 hk2 hTT hpl2 hql h0c
                  go_wp2_with fail
                  refine HEt.out.mono ?_
                  rintro e w6 ⟨rfl, rfl⟩
                  go_wp2_with fail
                  refine HGi3.out.mono ?_
                  rintro e w7 ⟨rfl, rfl⟩
                  go_wp2_with fail
                  go_roundw
                  case rel =>
                    refine ⟨n + 1, S ++ T, q2.drop k2, (pushC m' x).1, by go_num, rfl, hlt, ?_, HGr.out.push HWt.out, .inr ?_, (HC5.out.trans (efs_g 0 _)).trans (efs_g 4 _), ?_, HGm3.out.1, HGm3.out.2.1, fun _ => HBG.out, ?_, ?_⟩
                    · have := HD5.out.set 4 (.string (strOfNums (q2.drop k2))) (b' := { b with at_ := b.at_ + n + 1 }) (l' := q2.drop k2) (m' := (pushC m' x).1) rfl rfl rfl
                      have e2 : b.at_ + ((n + 1 : Nat) : Int) = b.at_ + n + 1 := by omega
                      rw [e2]
                      exact this
                    · rw [wt_push]; exact ⟨x0, isB_rng HIx.out⟩
                    · rw [HTk.out]
                      intro c hc
                      rcases List.mem_append.1 hc with hc | hc
                      · exact HSc.out c hc
                      · rw [List.mem_singleton.1 hc]; exact HIx.out
                    · rw [HTk.out, pushes_snoc, ← HM.out]
                    · rw [HGm3.out.2.2, HQ2.out, HTk.out, pushes_snoc, ← HM.out, ← List.append_assoc, HS.out, List.append_assoc] <;> rfl
                  case measure => simp [intOf]; omega
            | false =>
              rw [hix] at hisx
              have HIs := Lib.hid hisx
              have HIx := Lib.hid hix
              have HFl := Lib.hid (flush_calls HD.out HGr.out HWt.out (by omega))
              clear hisx hix
              go_wp2_with fail
              refine HKe.out.mono ?_
              rintro e w2 ⟨rfl, rfl⟩
              go_wp2_with fail
              refine HGg.out.mono ?_
              rintro e w2 ⟨rfl, rfl⟩
              go_wp2_with fail
              refine (HIs.out _).mono ?_
              rintro e w2 ⟨rfl, rfl⟩
              go_wp2_with fail
              refine HFl.out.mono ?_
              rintro e w2 ⟨rfl, hd2, hc2⟩
              have HSt := Lib.hid (stop_calls g _ 2 w2 hd2.base (show (({ b with at_ := b.at_ + n } : B4)).going = true from HBG.out) (by decide))
              have hd3 := (hd2.set 1 (.int .i64 2) (b' := { b with at_ := b.at_ + n, err := 2 }) (l' := p' ++ (flushC m').2) (m' := (flushC m').1) rfl rfl rfl).set 2 (.int .i64 (b.at_ + n)) (b' := { b with at_ := b.at_ + n, err := 2, pl := b.at_ + n }) (l' := p' ++ (flushC m').2) (m' := (flushC m').1) rfl rfl rfl
              have HC2 := Lib.hid hc2
              have HD3 := Lib.hid hd3
              have hfl := flush_len m'
              have hgi3 := give_calls (room - S.length) hd3 (by rw [List.length_append]; omega)
              have hgm3 := give_more (S := S) (q := p' ++ (flushC m').2) (room := room) HFit.out
              have hql : (p' ++ (flushC m').2).length ≤ 500000 := by rw [List.length_append]; omega
              obtain ⟨q2, hq2⟩ : ∃ q2, q2 = p' ++ (flushC m').2 := ⟨_, rfl⟩
              rw [← hq2] at hgi3 hgm3 hql hd3
              obtain ⟨k2, hk2⟩ : ∃ k2, k2 = clipN (room - S.length) q2.length := ⟨_, rfl⟩
              rw [← hk2] at hgi3 hgm3
              have hT := str_size (q2.take k2)
              have happ := str_append S (q2.take k2)
              have hTl : (q2.take k2).length ≤ 500000 := by rw [List.length_take]; omega
              obtain ⟨T, hTT⟩ : ∃ T, T = q2.take k2 := ⟨_, rfl⟩
              rw [← hTT] at hgi3 hgm3 hT happ hTl
              have HGi3 := Lib.hid hgi3
              have HGm3 := Lib.hid hgm3
              have HD3' := Lib.hid hd3
              have HQ2 := Lib.hid hq2
              clear hd2 hc2 hd3 hgi3 hgm3 hq2 hk2 hTT hfl hql
              go_wp2_with fail
              refine HSt.out.mono ?_
              rintro e w3 ⟨rfl, rfl⟩
              go_wp2_with fail
              refine HGi3.out.mono ?_
              rintro e w4 ⟨rfl, rfl⟩
              go_wp2_with fail
              go_meet
              refine ⟨n, S ++ T, q2.drop k2, _, (flushC m').1, rfl, rfl, HD3'.out.set 4 (.string (strOfNums (q2.drop k2))) (b' := { b with at_ := b.at_ + n, err := 2, pl := b.at_ + n }) (l' := q2.drop k2) (m' := (flushC m').1) rfl rfl rfl, HGr.out.flush HWt.out, ?_, ?_, hn, HSc.out, HGm3.out.1, HGm3.out.2.1, HGo.out, .inl ⟨HBG.out, hlt, by rw [← HX.out]; exact HIx.out, by rw [HM.out], ?_, rfl⟩⟩
              · unfold flushC
                split
                · exact HWt.out
                · exact .inl rfl
              · exact (((HC.out.trans HC2.out).trans (efs_g 1 _)).trans (efs_g 2 _)).trans (efs_g 4 _)
              · rw [HGm3.out.2.2, HQ2.out, ← List.append_assoc, HS.out, HM.out]
          | false =>
            rw [hbg] at hgoing
            have HGg := Lib.hid hgoing
            have HBG := Lib.hid hbg
            clear hgoing hbg hpe
            go_wp2_with fail
            refine HKe.out.mono ?_
            rintro e w2 ⟨rfl, rfl⟩
            go_wp2_with fail
            refine HGg.out.mono ?_
            rintro e w2 ⟨rfl, rfl⟩
            go_wp2_with fail
            go_meet
            exact ⟨n, S, p', _, m', rfl, rfl, HD.out, HGr.out, HWt.out, HC.out, hn, HSc.out, HFit.out, HFull.out, HGo.out, .inr ⟨HM.out, HS.out, rfl, .inr (.inr HBG.out)⟩⟩
        · have hpl : ((p'.length : Int) == 0) = false := by
            rw [beq_eq_false_iff_ne]
            intro e
            exact hpe (List.eq_nil_of_length_eq_zero (by omega))
          have HPE := Lib.hid hpe
          clear hgoing hpe
          go_wp2_with fail
          refine HKe.out.mono ?_
          rintro e w2 ⟨rfl, rfl⟩
          go_wp2_with fail
          go_meet
          exact ⟨n, S, p', _, m', rfl, rfl, HD.out, HGr.out, HWt.out, HC.out, hn, HSc.out, HFit.out, HFull.out, HGo.out, .inr ⟨HM.out, HS.out, rfl, .inr (.inl HPE.out)⟩⟩
      · obtain rfl : n = l.length := by omega
        clear hgoing hlt
        go_wp2_with fail
        go_meet
        exact ⟨l.length, S, p', _, m', rfl, rfl, HD.out, HGr.out, HWt.out, HC.out, hn, HSc.out, HFit.out, HFull.out, HGo.out, .inr ⟨HM.out, HS.out, rfl, .inl rfl⟩⟩
  case rest =>
    obtain ⟨n, S, p', b', m', rfl, rfl, hd, hg, hwt, hc, hf⟩ := hcut
    have HAll := Lib.hid (And.intro hd (And.intro hg (And.intro hwt (And.intro hc hf))))
    clear hd hg hwt hc hf
    go_wp2_with fail
    go_ret2
    exact ⟨n, S, p', b', m', rfl, HAll.out.1, HAll.out.2.1, HAll.out.2.2.1, HAll.out.2.2.2.1, HAll.out.2.2.2.2⟩
end Go.Proofs.Ytkfiahildoljfaa.Enc
