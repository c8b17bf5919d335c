/- The reference's text: a part in the single mode. -/
import Derived.Test.YtkfiahildoljfaaRdef
import Derived.Deep.CutBlock
import Derived.Deep.RegionLaw
import Derived.Deep.AppendLies
import Derived.Deep.DeepCutAuto
namespace Go.Proofs.Ytkfiahildoljfaa.Rst
open Go.RowKit Go.Proofs.Ytkfiahildoljfaa.Win Go.Proofs.Ytkfiahildoljfaa.Stp Go.Proofs.Ytkfiahildoljfaa.Mach
set_option linter.unusedVariables false
set_option linter.unusedSimpArgs false

set_option maxRecDepth 100000 in
set_option maxHeartbeats 16000000 in
theorem rquote_low {w : World} {g go rb : Nat} {v : Value} {t : R} (s : ByteArray) (k : Nat) (h : RAt w g go rb v t) (hs : s.size ≤ 100000) (hk : k < s.size) (hl : t.out.length < 1000000) (hu : t.uni = false) (hz0 : t.high = 0) (hx1 : 1 ≤ (byt s).getD k 0) (hx8 : (byt s).getD k 0 ≤ 8) (hk1 : k + 1 < s.size) (hc0 : 0 ≤ (byt s).getD (k + 1) 0) (hc128 : (byt s).getD (k + 1) 0 < 128) :
    Calls Try.prog 36 #[.pointer (some ⟨g, 0, none⟩), .string s, .int .i64 k] w (RPost w g go rb v (rpush t ((wStatic ((byt s).getD k 0 - 1)).1 + (byt s).getD (k + 1) 0), k + 2)) := by
  obtain ⟨A, c0, rfl⟩ : ∃ A c, v = .slice A t.out.length c := by
    rcases h.row.2 with ⟨h1, h2⟩ | ⟨g', cap, cur, h1, _⟩
    · exact ⟨none, 0, by rw [h1, h2]⟩
    · exact ⟨_, _, h1⟩
  obtain ⟨i0, hi, hz0, hz1, hz2⟩ := info_parts info_u32
  have HN : Hid (i0.zero = some (.int .u32 0) ∧ i0.size = 1 ∧ i0.bytes = 4 ∧ Try.prog.info? 35 = some i0) := ⟨hz0, hz1, hz2, hi⟩
  clear hz0 hz1 hz2 hi
  have hlen := byt_length s
  have hklt : k < s.size := hk
  have H := Lib.hid h
  have hb := byt_at s k hklt
  have f3 := h.f3
  rw [hu] at f3
  have f4 := h.f4
  have hhi := h.hi
  obtain ⟨x, hx⟩ : ∃ x : Int, x = (s[k].toNat : Int) := ⟨_, rfl⟩
  have x0 : 0 ≤ x := by omega
  have x1 : x ≤ 255 := by have := s[k].toNat_lt; omega
  rw [← hx] at hb
  have HX := Lib.hid hx
  have HB := Lib.hid hb
  have ek : ((k + 1 : Nat) : Int) = (k : Int) + 1 := by omega
  have HWR := Lib.hid (rwrong_calls k h)
  have hu1 := runit_calls s (k + 1) h hs (by omega) hl
  rw [ek] at hu1
  have HU1 := Lib.hid hu1
  have HU0 := Lib.hid (runit_calls s k h hs (by omega) hl)
  have HCUT := Lib.hid (rcut_calls s h hs)
  have hlay : ∀ n : Int, n < 8 → Calls Try.prog 51 #[.pointer (some ⟨g, 0, none⟩), .string s, .int .i64 ((k : Int) + 1), .int .i64 n] w (RPost w g go rb (.slice A t.out.length c0) (rlay t (byt s) (k + 1) n)) := fun n hn => by
    have := rlay_calls s (k + 1) n h hs (by omega) hn
    rw [ek] at this
    exact this
  have HLAY := Lib.hid hlay
  have hhc : (t.high = 0 ∧ decide (0 < t.high) = false) ∨ (0 < t.high ∧ decide (0 < t.high) = true) := by
    rcases hhi with e | e
    · exact .inl ⟨e, by simp [e]⟩
    · exact .inr ⟨by omega, by simp; omega⟩
  rw [HB.out] at hx1 hx8 ⊢
  clear h hb hx hu1 hlay hhi hu ek
  obtain ⟨c, hc⟩ : ∃ c : Int, c = (byt s).getD (k + 1) 0 := ⟨_, rfl⟩
  have hcb := byt_at s (k + 1) hk1
  rw [← hc] at hc0 hc128 hcb ⊢
  have c1 : c ≤ 255 := by have := s[k + 1].toNat_lt; omega
  have HCB := Lib.hid hcb
  clear hc hcb
  obtain ⟨zz, hzz⟩ : ∃ zz, zz = statics.getD (x - 1).toNat 0 := ⟨_, rfl⟩
  have hw : (wStatic (x - 1)).1 = zz := by unfold wStatic; rw [if_pos (by omega), hzz]
  have hzr := static_rng (n := x - 1) (by omega) (by omega)
  rw [hw] at hzr ⊢
  obtain ⟨zz0, zz1⟩ := hzr
  have HZZ := Lib.hid hzz
  obtain ⟨y, hy⟩ : ∃ y : Int, y = zz + c := ⟨_, rfl⟩
  have x5 : IntKind.i64.wrap (x - 1) = x - 1 := by rw [IntKind.wrap_i64]; omega
  have x6 : IntKind.u32.wrap (zz + c) = y := by rw [hy, IntKind.wrap_u32]; omega
  have x8 : 0 ≤ x - 1 := by omega
  have x9 : x - 1 < 8 := by omega
  have HY := Lib.hid hy
  have k14 : (x == 14) = false := by rw [beq_eq_false_iff_ne]; omega
  have k12 : (x == 12) = false := by rw [beq_eq_false_iff_ne]; omega
  have hzb : decide (0 < t.high) = false := by simp [hz0]
  have ks : ¬ (s.size : Int) ≤ (k : Int) + 1 := by omega
  clear hzz hw hy hhc hlen hz0
  go_enter Try.func36, Try.ntmps36
  go_upto_region 1 with fail
  go_cut [7] (fun b7 wx => b7 = .int .i64 x ∧ w = wx)
  case first =>
    go_wp2_with fail
    go_meet
    exact ⟨by rw [HX.out]; congr 1; unfold wrap64; have := s[k].toNat_lt; omega, rfl⟩
  case rest =>
    obtain ⟨rfl, rfl⟩ := hcut
    go_upto_region 23 with fail
    go_cut [8] (fun c8 wx => c8 = .int .u32 c ∧ w = wx)
    case first =>
      go_wp2_with fail
      go_meet
      exact ⟨by rw [HCB.out]; congr 1; have := s[k + 1].toNat_lt; omega, rfl⟩
    case rest =>
      obtain ⟨rfl, rfl⟩ := hcut
      have q0 := H.out.f0
      have qz0 := H.out.fz 0
      have qlt := H.out.lt
      have qrb := H.out.rbl
      have qrg := Lib.hid H.out.row_g
      go_wp2_with fail
      have hRd : RAt w.drew g go rb (.slice A t.out.length c0) t := H.out.keep (Nat.le_refl _) rfl rfl (fun _ _ => rfl)
      have HRd := Lib.hid hRd
      clear hRd
      go_region_law (first | (go_simp; go_at_call 52; refine (rstatics_calls _).mono ?_; rintro e w2 ⟨rfl, hrow, hb, hz⟩; have fs := hrow.cell (x - 1).toNat (show (x - 1).toNat < 8 by omega); rw [show statics.getD (x - 1).toNat 0 = zz from HZZ.out.symm, show (x - 1).toNat = x.toNat - 1 from by omega, show w.drew.heap.size = w.heap.size from rfl] at fs; have hr2 := HRd.out.below hb; have p0 := hr2.f0; have pz0 := hr2.fz 0; have qlt2 := hr2.lt; have qrb2 := hr2.rbl; have H2 := Lib.hid hr2; have HB2 := Lib.hid hb; have QB2 : Hid (Below w2.heap.size w2 (w2.alloc (.cells #[.int .u32 y] 35))) := (Below.refl w2.heap.size w2).alloc (Nat.le_refl _) _; clear hrow hb hz hr2) | (refine step_append_lies (w2.alloc (.cells #[.int .u32 y] 35)) rfl (.tmp 116) (.tmp 124) 22 rfl rb 35 i0 (.int .u32 0) 1 4 Try.underlying22 HN.out.2.2.2 HN.out.1 HN.out.2.1 HN.out.2.2.1 rfl (by decide) _ _ _ rfl (H2.out.row.alloc (.cells #[.int .u32 y] 35)) ⟨w2.heap.size, 0, none⟩ 1 1 [.int .u32 y] rfl rfl ?c1 ?c2 (by decide) ?c3 ?c4 ?c5 _ rfl ?_; (case c1 => exact World.news_of_block (w := (w2.alloc (.cells #[.int .u32 y] 35))) (heap_alloc_new w2 _)); (case c2 => intro q hq; simp at hq; subst hq; rfl); (case c3 => unfold maxLen; omega); (case c4 => omega); (case c5 => exact Nat.le_trans qrb2 (size_le _ _)); intro r c1 w1 hown1 hgrow1 hat1 hlt1; have hcs1 : w1.cell? ⟨g, 0, none⟩ = _ := (hgrow1.cell_far ⟨g, 0, none⟩ (Nat.lt_of_lt_of_le qlt2 (size_le _ _)) (fun e => qrg.out e.symm)).trans ((QB2.out.cell (p := ⟨g, 0, none⟩) qlt2).trans p0); have hfs1 : w1.frozen? ⟨g, 0, none⟩ = false := (hgrow1.frozen_far ⟨g, 0, none⟩ (Nat.lt_of_lt_of_le qlt2 (size_le _ _)) (fun e => qrg.out e.symm)).trans ((QB2.out.frozen (p := ⟨g, 0, none⟩) qlt2).trans pz0); have hrg : r ≠ g := app_ne hat1 qrg.out (Nat.lt_of_lt_of_le qlt2 (size_le _ _)); have HO1 := Lib.hid (own_snoc hown1); have HG1 := Lib.hid hgrow1; have HRG := Lib.hid hrg; clear hown1 hgrow1 hat1 hlt1 hrg))
      all_goals
        go_wp2_with fail
        go_ret
        obtain rfl := HY.out
        obtain ⟨hr1, hr2⟩ := (H2.out.below QB2.out).push _ HO1.out HG1.out HRG.out hl
        exact ⟨by simp, _, hr1, ((Chg.drew w).trans (Chg.of_below HB2.out)).trans (chg_then (Chg.of_below QB2.out) hr2 (fun i _ hi => hi))⟩
end Go.Proofs.Ytkfiahildoljfaa.Rst
