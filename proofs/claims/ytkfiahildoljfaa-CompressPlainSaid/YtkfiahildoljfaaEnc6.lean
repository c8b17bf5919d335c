/- The compressor: a window is laid. -/
import Derived.Test.YtkfiahildoljfaaEnc5
namespace Go.Proofs.Ytkfiahildoljfaa.Enc
open Go.RowKit Go.Proofs.Ytkfiahildoljfaa.Win Go.Proofs.Ytkfiahildoljfaa.Stp Go.Proofs.YtkfiahildoljfaaW.PrintMore
set_option linter.unusedVariables false
set_option linter.unusedSimpArgs false
def oldC (m : E) : Int := m.u.getD 0 0
def layM (m : E) (c : Int) : E := { m with o := m.o.set (oldC m).toNat (ownC c).1, act := oldC m, u := wTouch m.u (oldC m), uni := false }
def layE (m : E) (c ix pr : Int) : List Int := (if (wPair (oldC m) c).2.2 = true then [pr, (wPair (oldC m) c).1, (wPair (oldC m) c).2.1] else [ix + oldC m, (wIndex c).1]) ++ [128 + c - (ownC c).1]
section
variable {w : World} {g gw : Nat} {b : B4} {l : List Int} {m : E}
theorem old_rng (hG : EG m) : 0 ≤ oldC m ∧ oldC m < 8 := by
  unfold oldC
  rw [List.getD_eq_getElem?_getD, List.getElem?_eq_getElem (by rw [hG.lu]; decide)]
  exact hG.ru _ (List.getElem_mem _)
theorem wAt_set2 {o : List Int} {n c : Int} (hn : 0 ≤ n) (hn8 : n < 8) (hl : o.length = 8) : wAt (o.set n.toNat c) n = c := by
  unfold wAt
  rw [if_pos ⟨hn, hn8⟩, List.getD_eq_getElem?_getD, List.getElem?_set_self (by omega)]
  rfl
/-- The rest of laying, behind the first bytes. -/
def LayRest (g gw : Nat) (b : B4) (l : List Int) (m : E) (n o : Int) (wx : World) : Prop := EncAt wx g gw b l { m with o := m.o.set n.toNat o, act := n, u := wTouch m.u n, uni := false }
set_option maxRecDepth 100000 in
set_option maxHeartbeats 8000000 in
theorem lay_calls (c ix pr : Int) (h : EncAt w g gw b l m) (hG : EG m) (h0 : 0 ≤ c) (h1 : c ≤ 1114111) (hl : l.length < 999990) (ho : (ownC c).2 = true) (i0 : 0 ≤ ix) (i1 : ix ≤ 240) (p0 : 0 ≤ pr) (p1 : pr ≤ 255) :
    Calls Try.prog 48 #[.pointer (some ⟨g, 0, none⟩), .int .u32 c, .int .u8 ix, .int .u8 pr] w (KeepPost w g gw b (l ++ layE m c ix pr) (layM m c)) := by
  have h6 := h.c6
  have hor := old_rng hG
  have hown := own_hld h0 ho
  have hor2 := own_rng (c := c) h0 (by omega)
  have HOld := Lib.hid (oldest_calls gw m.o m.u w h.win)
  have HOwn := Lib.hid (own_calls c w h0 (by omega))
  unfold layE layM
  obtain ⟨n, hn⟩ : ∃ n, n = oldC m := ⟨_, rfl⟩
  have hn' : m.u.getD 0 0 = n := by rw [hn]; rfl
  rw [hn'] at HOld
  rw [← hn] at hor ⊢
  obtain ⟨n0, n8⟩ := hor
  unfold OwnPost at HOwn
  rw [ho] at HOwn
  obtain ⟨o, ho2⟩ : ∃ o, o = (ownC c).1 := ⟨_, rfl⟩
  rw [← ho2] at HOwn hown hor2 ⊢
  rw [hld_iff] at hown
  have HPr := Lib.hid (fun w => pair_calls n c w h0 (by omega))
  have HIx := Lib.hid (fun w => index_calls c w h0 (by omega))
  have hir := idx_rng (c := c) h0 (by omega)
  have hmem := hG.mem
  have hlo := hG.lo
  have H := Lib.hid h
  have HMem := Lib.hid hmem
  have HLo := Lib.hid hlo
  clear h hG hn hn' ho ho2 hmem hlo
  have hpr : ((wPair n c).2.2 = true ∧ 0 ≤ (wPair n c).1 ∧ (wPair n c).1 ≤ 255 ∧ 0 ≤ (wPair n c).2.1 ∧ (wPair n c).2.1 ≤ 255) ∨ (wPair n c).2.2 = false := by
    unfold wPair
    by_cases hc : 0 ≤ n ∧ n < 8 ∧ 65536 ≤ c ∧ c ≤ 1114111
    · rw [if_pos hc]; simp only; left; refine ⟨trivial, ?_, ?_, ?_, ?_⟩ <;> omega
    · rw [if_neg hc]; right; rfl
  generalize wPair n c = pc at HPr hpr ⊢
  obtain ⟨ph, pl, pk⟩ := pc
  generalize wIndex c = xc at HIx hir ⊢
  obtain ⟨x, xk⟩ := xc
  simp only at hpr hir ⊢
  have HPR := Lib.hid hpr
  clear hpr
  obtain ⟨e1, he1⟩ : ∃ e1, e1 = (if pk = true then [pr, ph, pl] else [ix + n, x]) := ⟨_, rfl⟩
  rw [← he1]
  have HE1 := Lib.hid he1
  have hel : e1.length ≤ 3 := by rw [he1]; split <;> simp
  clear he1
  go_enter Try.func48, Try.ntmps48
  go_wp2_with fail
  refine HOld.out.mono ?_
  rintro e w1 ⟨rfl, rfl⟩
  go_wp2_with fail
  refine HOwn.out.mono ?_
  rintro e w1 ⟨rfl, hb⟩
  have H1 := Lib.hid (H.out.below hb)
  have HB1 := Lib.hid hb
  clear hb
  go_wp2_with fail
  refine (HPr.out _).mono ?_
  rintro e w2 ⟨rfl, rfl⟩
  go_upto_if 33 with fail
  go_cut [] (fun wx => EncAt wx g gw b (l ++ e1) m ∧ Chg (EFS g gw) w wx)
  case first =>
    cases pk with
    | true =>
      have HK := Lib.hid (keep_calls [pr, ph, pl] H1.out (by omega) (by simp))
      go_wp2_with fail
      refine HK.out.mono ?_
      rintro e w2 ⟨rfl, hd, hc⟩
      have HD := Lib.hid hd
      have HC := Lib.hid hc
      clear hd hc
      go_wp2_with fail
      go_meet
      rw [show e1 = [pr, ph, pl] from by simpa using HE1.out]
      exact ⟨HD.out, (Chg.of_below HB1.out).trans HC.out⟩
    | false =>
      go_wp2_with fail
      refine (HIx.out _).mono ?_
      rintro e w2 ⟨rfl, hb⟩
      have HK := Lib.hid (keep_calls [ix + n, x] (H1.out.below hb) (by omega) (by simp))
      have HB2 := Lib.hid hb
      clear hb
      go_wp2_with fail
      refine HK.out.mono ?_
      rintro e w3 ⟨rfl, hd, hc⟩
      have HD := Lib.hid hd
      have HC := Lib.hid hc
      clear hd hc
      go_wp2_with fail
      go_meet
      rw [show e1 = [ix + n, x] from by simpa using HE1.out]
      exact ⟨HD.out, ((Chg.of_below HB1.out).trans (Chg.of_below HB2.out)).trans HC.out⟩
  case rest =>
    obtain ⟨hd, hc⟩ := hcut
    have h6 := hd.c6
    have hset := set_calls gw m.o m.u n o wc hd.win
    rw [if_pos ⟨n0, n8⟩] at hset
    have HSet := Lib.hid hset
    have HD := Lib.hid hd
    have HC := Lib.hid hc
    clear hd hc hset
    go_wp2_with fail
    refine HSet.out.mono ?_
    rintro e w4 ⟨rfl, hw, hcw⟩
    have hd4 := HD.out.wins hw hcw
    have HC4 := Lib.hid hcw
    have HU := Lib.hid (use_calls n hd4 (HMem.out n))
    clear hw hcw hd4
    go_wp2_with fail
    refine HU.out.mono ?_
    rintro e w5 ⟨rfl, hd5, hc5⟩
    have h7 := hd5.c7
    have f7 := hd5.fz 7
    have hs := hd5.set 7 (.bool false) (b' := b) (l' := l ++ e1) (m' := { m with o := m.o.set n.toNat o, act := n, u := wTouch m.u n, uni := false }) rfl rfl rfl
    have hat : wAt (m.o.set n.toNat o) n = o := wAt_set2 n0 n8 HLo.out
    have hhe := held_calls n c hs (by rw [hat]; exact hor2.1) (by rw [hat]; exact hown.1) (by rw [hat]; exact hown.2) h1
    have e2 : wAt ({ m with o := m.o.set n.toNat o, act := n, u := wTouch m.u n, uni := false } : E).o n = o := hat
    rw [e2] at hhe
    have HHe := Lib.hid hhe
    have hk := keep_calls [128 + c - o] hs (by rw [List.length_append]; omega) (by simp)
    have hsz5 : (w5.setCell ⟨g, 7, none⟩ (.bool false)).heap.size = w5.heap.size := by simp [World.setCell]
    rw [hsz5] at hk
    have HK := Lib.hid hk
    clear hk hsz5
    have HC5 := Lib.hid hc5
    clear hd5 hc5 hs hat hhe e2
    go_wp2_with fail
    refine HHe.out.mono ?_
    rintro e w6 ⟨rfl, rfl⟩
    go_wp2_with fail
    refine HK.out.mono ?_
    rintro e w6 ⟨rfl, hd, hc⟩
    have HD6 := Lib.hid hd
    have HC6 := Lib.hid hc
    clear hd hc
    go_wp2_with fail
    go_end0
    refine ⟨rfl, ?_, (((HC.out.trans (efs_gw HC4.out)).trans HC5.out).trans (efs_g 7 _)).trans HC6.out⟩
    have := HD6.out
    rw [List.append_assoc] at this
    exact this
end
end Go.Proofs.Ytkfiahildoljfaa.Enc
