/- The reference's text: a part in the single mode. -/
import Derived.Test.YtkfiahildoljfaaRst5
import Derived.Test.YtkfiahildoljfaaRst6
import Derived.Test.YtkfiahildoljfaaRst6b
import Derived.Deep.CutBlock
import Derived.Deep.DeepCutAuto
namespace Go.Proofs.Ytkfiahildoljfaa.Rst
open Go.RowKit Go.Proofs.Ytkfiahildoljfaa.Win Go.Proofs.Ytkfiahildoljfaa.Stp Go.Proofs.Ytkfiahildoljfaa.Mach
set_option linter.unusedVariables false
set_option linter.unusedSimpArgs false

set_option maxRecDepth 100000 in
set_option maxHeartbeats 16000000 in
theorem rpartS_calls {w : World} {g go rb : Nat} {v : Value} {t : R} (s : ByteArray) (k : Nat) (h : RAt w g go rb v t) (hs : s.size ≤ 100000) (hk : k < s.size) (hl : t.out.length < 1000000) (hu : t.uni = false) :
    Calls Try.prog 36 #[.pointer (some ⟨g, 0, none⟩), .string s, .int .i64 k] w (RPost w g go rb v (rpartS t (byt s) k)) := by
  obtain ⟨A, c0, rfl⟩ : ∃ A c, v = .slice A t.out.length c := by
    rcases h.row.2 with ⟨h1, h2⟩ | ⟨g', cap, cur, h1, _⟩
    · exact ⟨none, 0, by rw [h1, h2]⟩
    · exact ⟨_, _, h1⟩
  obtain ⟨i0, hi, hz0, hz1, hz2⟩ := info_parts info_u32
  have HN : Hid (i0.zero = some (.int .u32 0) ∧ i0.size = 1 ∧ i0.bytes = 4 ∧ Try.prog.info? 35 = some i0) := ⟨hz0, hz1, hz2, hi⟩
  clear hz0 hz1 hz2 hi
  have hlen := byt_length s
  have hklt : k < s.size := hk
  have H := Lib.hid h
  have hb := byt_at s k hklt
  have f3 := h.f3
  rw [hu] at f3
  have f4 := h.f4
  have hhi := h.hi
  obtain ⟨x, hx⟩ : ∃ x : Int, x = (s[k].toNat : Int) := ⟨_, rfl⟩
  have x0 : 0 ≤ x := by omega
  have x1 : x ≤ 255 := by have := s[k].toNat_lt; omega
  rw [← hx] at hb
  have HX := Lib.hid hx
  have HB := Lib.hid hb
  have ek : ((k + 1 : Nat) : Int) = (k : Int) + 1 := by omega
  have HWR := Lib.hid (rwrong_calls k h)
  have hu1 := runit_calls s (k + 1) h hs (by omega) hl
  rw [ek] at hu1
  have HU1 := Lib.hid hu1
  have HU0 := Lib.hid (runit_calls s k h hs (by omega) hl)
  have HCUT := Lib.hid (rcut_calls s h hs)
  have hlay : ∀ n : Int, n < 8 → Calls Try.prog 51 #[.pointer (some ⟨g, 0, none⟩), .string s, .int .i64 ((k : Int) + 1), .int .i64 n] w (RPost w g go rb (.slice A t.out.length c0) (rlay t (byt s) (k + 1) n)) := fun n hn => by
    have := rlay_calls s (k + 1) n h hs (by omega) hn
    rw [ek] at this
    exact this
  have HLAY := Lib.hid hlay
  have hhi5 := fun h14 hz h128 => rpartS_high s k h hs hk hl hu h14 hz h128
  have hqh := fun hz h1 h8 h2 h3 => rquote_high s k h hs hk hl hu hz h1 h8 h2 h3
  have hql := fun hz h1 h8 h2 h3 h4 => rquote_low s k h hs hk hl hu hz h1 h8 h2 h3 h4
  simp only [hb] at hhi5 hqh hql
  have HHI := Lib.hid hhi5
  have HQH := Lib.hid hqh
  have HQL := Lib.hid hql
  clear hhi5 hqh hql
  have hhc : (t.high = 0 ∧ decide (0 < t.high) = false) ∨ (0 < t.high ∧ decide (0 < t.high) = true) := by
    rcases hhi with e | e
    · exact .inl ⟨e, by simp [e]⟩
    · exact .inr ⟨by omega, by simp; omega⟩
  unfold rpartS
  rw [HB.out]
  clear h hb hx hu1 hlay hhi hu ek
  by_cases h14 : x = 14
  · rw [if_pos h14]
    have HE := Lib.hid h14
    clear hhc h14 hlen
    go_enter Try.func36, Try.ntmps36
    go_upto_region 1 with fail
    go_cut [7] (fun b7 wx => b7 = .int .i64 x ∧ w = wx)
    case first =>
      go_wp2_with fail
      go_meet
      exact ⟨by rw [HX.out]; congr 1; unfold wrap64; have := s[k].toNat_lt; omega, rfl⟩
    case rest =>
      obtain ⟨rfl, rfl⟩ := hcut
      have k1 : (x == 14) = true := by rw [beq_iff_eq]; exact HE.out
      go_wp2_with (go_at_call 49; refine HU1.out.mono ?_; rintro e w1 ⟨rfl, hp⟩; have HP := Lib.hid hp; clear hp)
      go_ret
      exact ⟨rfl, HP.out⟩
  rw [if_neg h14]
  have k14 : (x == 14) = false := by rw [beq_eq_false_iff_ne]; exact h14
  rcases hhc with ⟨hz, hzb⟩ | ⟨hz, hzb⟩
  rotate_left
  · rw [if_pos (.inl hz)]
    clear h14 hz hlen
    go_enter Try.func36, Try.ntmps36
    go_upto_region 1 with fail
    go_cut [7] (fun b7 wx => b7 = .int .i64 x ∧ w = wx)
    case first =>
      go_wp2_with fail
      go_meet
      exact ⟨by rw [HX.out]; congr 1; unfold wrap64; have := s[k].toNat_lt; omega, rfl⟩
    case rest =>
      obtain ⟨rfl, rfl⟩ := hcut
      go_wp2_with (go_at_call 50; refine HWR.out.mono ?_; rintro e w1 ⟨rfl, hp⟩; have HP := Lib.hid hp; clear hp)
      go_ret
      exact ⟨rfl, HP.out⟩
  by_cases h12 : x = 12
  · rw [if_pos (.inr h12)]
    have HE := Lib.hid h12
    clear h14 h12 hz hlen
    go_enter Try.func36, Try.ntmps36
    go_upto_region 1 with fail
    go_cut [7] (fun b7 wx => b7 = .int .i64 x ∧ w = wx)
    case first =>
      go_wp2_with fail
      go_meet
      exact ⟨by rw [HX.out]; congr 1; unfold wrap64; have := s[k].toNat_lt; omega, rfl⟩
    case rest =>
      obtain ⟨rfl, rfl⟩ := hcut
      have k1 : (x == 12) = true := by rw [beq_iff_eq]; exact HE.out
      go_wp2_with (go_at_call 50; refine HWR.out.mono ?_; rintro e w1 ⟨rfl, hp⟩; have HP := Lib.hid hp; clear hp)
      go_ret
      exact ⟨rfl, HP.out⟩
  have hq : ¬ (0 < t.high ∨ x = 12) := by omega
  rw [if_neg hq]
  have k12 : (x == 12) = false := by rw [beq_eq_false_iff_ne]; exact h12
  have HZ0 := Lib.hid hz
  clear hq hz
  by_cases h18 : 1 ≤ x ∧ x ≤ 8
  · rw [if_pos h18, hlen]
    obtain ⟨h1x, h8x⟩ := h18
    clear h14 h12 hlen
    by_cases hk1 : s.size ≤ k + 1
    · rw [if_pos hk1]
      go_enter Try.func36, Try.ntmps36
      go_upto_region 1 with fail
      go_cut [7] (fun b7 wx => b7 = .int .i64 x ∧ w = wx)
      case first =>
        go_wp2_with fail
        go_meet
        exact ⟨by rw [HX.out]; congr 1; unfold wrap64; have := s[k].toNat_lt; omega, rfl⟩
      case rest =>
        obtain ⟨rfl, rfl⟩ := hcut
        go_wp2_with (go_at_call 37; refine HCUT.out.mono ?_; rintro e w1 ⟨rfl, hp⟩; have HP := Lib.hid hp; clear hp)
        go_ret
        exact ⟨rfl, HP.out⟩
    rw [if_neg hk1]
    by_cases hcc : (byt s).getD (k + 1) 0 < 128
    · rw [if_pos hcc]
      exact HQL.out HZ0.out h1x h8x (by omega) (by rw [byt_at s (k + 1) (by omega)]; omega) hcc
    · rw [if_neg hcc]
      exact HQH.out HZ0.out h1x h8x (by omega) (by omega)
  rw [if_neg h18]
  have h18c : x < 1 ∨ (1 ≤ x ∧ ¬ x ≤ 8) := by omega
  clear hlen h18
  by_cases h11 : x = 11
  · rw [if_pos h11]
    have HE := Lib.hid h11
    have HL := Lib.hid (HLAY.out (-1) (by decide))
    clear h14 h12 h11 h18c
    go_enter Try.func36, Try.ntmps36
    go_upto_region 1 with fail
    go_cut [7] (fun b7 wx => b7 = .int .i64 x ∧ w = wx)
    case first =>
      go_wp2_with fail
      go_meet
      exact ⟨by rw [HX.out]; congr 1; unfold wrap64; have := s[k].toNat_lt; omega, rfl⟩
    case rest =>
      obtain ⟨rfl, rfl⟩ := hcut
      have k1 : (x == 11) = true := by rw [beq_iff_eq]; exact HE.out
      have e1 : 1 ≤ x := by have := HE.out; omega
      have e2 : ¬ x ≤ 8 := by have := HE.out; omega
      go_wp2_with (go_at_call 51; refine HL.out.mono ?_; rintro e w1 ⟨rfl, hp⟩; have HP := Lib.hid hp; clear hp)
      go_ret
      exact ⟨rfl, HP.out⟩
  rw [if_neg h11]
  have k11 : (x == 11) = false := by rw [beq_eq_false_iff_ne]; exact h11
  by_cases h24 : 24 ≤ x ∧ x ≤ 31
  · rw [if_pos h24]
    obtain ⟨a1, a2⟩ := h24
    have e1 : 1 ≤ x := by omega
    have e2 : ¬ x ≤ 8 := by omega
    have HL := Lib.hid (HLAY.out (x - 24) (by omega))
    clear h14 h12 h11 h18c
    go_enter Try.func36, Try.ntmps36
    go_upto_region 1 with fail
    go_cut [7] (fun b7 wx => b7 = .int .i64 x ∧ w = wx)
    case first =>
      go_wp2_with fail
      go_meet
      exact ⟨by rw [HX.out]; congr 1; unfold wrap64; have := s[k].toNat_lt; omega, rfl⟩
    case rest =>
      obtain ⟨rfl, rfl⟩ := hcut
      go_wp2_with (go_at_call 51; refine HL.out.mono ?_; rintro e w1 ⟨rfl, hp⟩; have HP := Lib.hid hp; clear hp)
      go_ret
      exact ⟨rfl, HP.out⟩
  rw [if_neg h24]
  by_cases h16 : 16 ≤ x ∧ x ≤ 23
  · rw [if_pos h16]
    obtain ⟨a1, a2⟩ := h16
    have e1 : 1 ≤ x := by omega
    have e2 : ¬ x ≤ 8 := by omega
    have e3 : ¬ 24 ≤ x := by omega
    clear h14 h12 h11 h18c h24
    go_enter Try.func36, Try.ntmps36
    go_upto_region 1 with fail
    go_cut [7] (fun b7 wx => b7 = .int .i64 x ∧ w = wx)
    case first =>
      go_wp2_with fail
      go_meet
      exact ⟨by rw [HX.out]; congr 1; unfold wrap64; have := s[k].toNat_lt; omega, rfl⟩
    case rest =>
      obtain ⟨rfl, rfl⟩ := hcut
      have f2 := H.out.f2
      have z2 := H.out.fz 2
      go_wp2_with fail
      go_ret
      exact ⟨by simp, _, H.out.set 2 (.int .i64 (x - 16)) (t' := { t with act := x - 16 }) rfl rfl rfl (by show 0 ≤ x - 16 ∧ x - 16 < 8; omega) H.out.hi, rs_g 2 _⟩
  rw [if_neg h16]
  by_cases h15 : x = 15
  · rw [if_pos h15]
    have HE := Lib.hid h15
    clear h14 h12 h11 h18c h24 h16 h15
    go_enter Try.func36, Try.ntmps36
    go_upto_region 1 with fail
    go_cut [7] (fun b7 wx => b7 = .int .i64 x ∧ w = wx)
    case first =>
      go_wp2_with fail
      go_meet
      exact ⟨by rw [HX.out]; congr 1; unfold wrap64; have := s[k].toNat_lt; omega, rfl⟩
    case rest =>
      obtain ⟨rfl, rfl⟩ := hcut
      have f3 := H.out.f3
      have z3 := H.out.fz 3
      have k1 : (x == 15) = true := by rw [beq_iff_eq]; exact HE.out
      have e1 : 1 ≤ x := by have := HE.out; omega
      have e2 : ¬ x ≤ 8 := by have := HE.out; omega
      have e3 : ¬ 24 ≤ x := by have := HE.out; omega
      have e4 : ¬ 16 ≤ x := by have := HE.out; omega
      go_wp2_with fail
      go_ret
      exact ⟨by simp, _, H.out.set 3 (.bool true) (t' := { t with uni := true }) rfl rfl rfl H.out.ac H.out.hi, rs_g 3 _⟩
  rw [if_neg h15]
  have k15 : (x == 15) = false := by rw [beq_eq_false_iff_ne]; exact h15
  by_cases h128 : 128 ≤ x
  · rw [if_pos h128]
    exact HHI.out h14 HZ0.out h128
  rw [if_neg h128]
  have hcs : x < 1 ∨ (1 ≤ x ∧ ¬ x ≤ 8 ∧ ¬ 24 ≤ x ∧ ¬ 16 ≤ x) ∨ (1 ≤ x ∧ ¬ x ≤ 8 ∧ 24 ≤ x ∧ ¬ x ≤ 31 ∧ 16 ≤ x ∧ ¬ x ≤ 23) := by omega
  clear h14 h12 h11 h18c h24 h16 h15
  rcases hcs with e1 | ⟨e1, e2, e3, e4⟩ | ⟨e1, e2, e3, e4, e5, e6⟩
  all_goals
    go_enter Try.func36, Try.ntmps36
    go_upto_region 1 with fail
    go_cut [7] (fun b7 wx => b7 = .int .i64 x ∧ w = wx)
    case first =>
      go_wp2_with fail
      go_meet
      exact ⟨by rw [HX.out]; congr 1; unfold wrap64; have := s[k].toNat_lt; omega, rfl⟩
    case rest =>
      obtain ⟨rfl, rfl⟩ := hcut
      have q0 := H.out.f0
      have qz0 := H.out.fz 0
      have qlt := H.out.lt
      have qrb := H.out.rbl
      have qrg := Lib.hid H.out.row_g
      have qb : Below w.heap.size w (w.alloc (.cells #[.int .u32 x] 35)) := ((Below.refl w.heap.size w).alloc (Nat.le_refl _) _)
      have QB := Lib.hid qb
      clear qb
      go_wp2_with (at_builtin; refine wpList_append_lies _ rfl (.tmp 215) (.tmp 218) 22 rfl rb 35 i0 (.int .u32 0) 1 4 Try.underlying22 HN.out.2.2.2 HN.out.1 HN.out.2.1 HN.out.2.2.1 rfl (by decide) _ _ _ rfl (H.out.row.alloc (.cells #[.int .u32 x] 35)) ⟨w.heap.size, 0, none⟩ 1 1 [.int .u32 x] rfl rfl ?c1 ?c2 (by decide) ?c3 ?c4 ?c5 _ rfl ?_; (case c1 => exact World.news_of_block (heap_alloc_new w _)); (case c2 => intro q hq; simp at hq; subst hq; rfl); (case c3 => unfold maxLen; omega); (case c4 => omega); (case c5 => exact Nat.le_trans qrb (size_le _ _)); intro r c1 w1 hown1 hgrow1 hat1 hlt1; have hcs1 : w1.cell? ⟨g, 0, none⟩ = _ := (hgrow1.cell_far ⟨g, 0, none⟩ (Nat.lt_of_lt_of_le qlt (size_le _ _)) (fun e => qrg.out e.symm)).trans ((QB.out.cell (p := ⟨g, 0, none⟩) qlt).trans q0); have hfs1 : w1.frozen? ⟨g, 0, none⟩ = false := (hgrow1.frozen_far ⟨g, 0, none⟩ (Nat.lt_of_lt_of_le qlt (size_le _ _)) (fun e => qrg.out e.symm)).trans ((QB.out.frozen (p := ⟨g, 0, none⟩) qlt).trans qz0); have hrg : r ≠ g := app_ne hat1 qrg.out (Nat.lt_of_lt_of_le qlt (size_le _ _)); have HO1 := Lib.hid (own_snoc hown1); have HG1 := Lib.hid hgrow1; have HRG := Lib.hid hrg; clear hown1 hgrow1 hat1 hlt1 hrg)
      go_ret
      obtain ⟨hr1, hr2⟩ := (H.out.below QB.out).push _ HO1.out HG1.out HRG.out hl
      exact ⟨by simp, _, hr1, chg_then (Chg.of_below QB.out) hr2 (fun i _ hi => hi)⟩
end Go.Proofs.Ytkfiahildoljfaa.Rst
