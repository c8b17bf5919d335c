/- The reference's text: a part in the single mode. -/
import Derived.Test.YtkfiahildoljfaaRdef
import Derived.Deep.CutBlock
import Derived.Deep.DeepCutAuto
namespace Go.Proofs.Ytkfiahildoljfaa.Rst
open Go.RowKit Go.Proofs.Ytkfiahildoljfaa.Win Go.Proofs.Ytkfiahildoljfaa.Stp Go.Proofs.Ytkfiahildoljfaa.Mach
set_option linter.unusedVariables false
set_option linter.unusedSimpArgs false

/-- What an append needs, laid once. -/
structure App (w : World) (g go rb : Nat) (A : Option Addr) (c0 : Nat) (t : R) : Prop where
  at_ : RAt w g go rb (.slice A t.out.length c0) t
set_option maxRecDepth 100000 in
set_option maxHeartbeats 16000000 in
theorem rpartS_high {w : World} {g go rb : Nat} {v : Value} {t : R} (s : ByteArray) (k : Nat) (h : RAt w g go rb v t) (hs : s.size ≤ 100000) (hk : k < s.size) (hl : t.out.length < 1000000) (hu : t.uni = false) (hx14 : (byt s).getD k 0 ≠ 14) (hz0 : t.high = 0) (hx128 : 128 ≤ (byt s).getD k 0) :
    Calls Try.prog 36 #[.pointer (some ⟨g, 0, none⟩), .string s, .int .i64 k] w (RPost w g go rb v (rpush t (wAt t.o t.act + (byt s).getD k 0 - 128), k + 1)) := by
  obtain ⟨A, c0, rfl⟩ : ∃ A c, v = .slice A t.out.length c := by
    rcases h.row.2 with ⟨h1, h2⟩ | ⟨g', cap, cur, h1, _⟩
    · exact ⟨none, 0, by rw [h1, h2]⟩
    · exact ⟨_, _, h1⟩
  obtain ⟨i0, hi, hz0, hz1, hz2⟩ := info_parts info_u32
  have HN : Hid (i0.zero = some (.int .u32 0) ∧ i0.size = 1 ∧ i0.bytes = 4 ∧ Try.prog.info? 35 = some i0) := ⟨hz0, hz1, hz2, hi⟩
  clear hz0 hz1 hz2 hi
  have hlen := byt_length s
  have hklt : k < s.size := hk
  have H := Lib.hid h
  have hb := byt_at s k hklt
  have f3 := h.f3
  rw [hu] at f3
  have f4 := h.f4
  have hhi := h.hi
  obtain ⟨x, hx⟩ : ∃ x : Int, x = (s[k].toNat : Int) := ⟨_, rfl⟩
  have x0 : 0 ≤ x := by omega
  have x1 : x ≤ 255 := by have := s[k].toNat_lt; omega
  rw [← hx] at hb
  have HX := Lib.hid hx
  have HB := Lib.hid hb
  have ek : ((k + 1 : Nat) : Int) = (k : Int) + 1 := by omega
  have HWR := Lib.hid (rwrong_calls k h)
  have hu1 := runit_calls s (k + 1) h hs (by omega) hl
  rw [ek] at hu1
  have HU1 := Lib.hid hu1
  have HU0 := Lib.hid (runit_calls s k h hs (by omega) hl)
  have HCUT := Lib.hid (rcut_calls s h hs)
  have hlay : ∀ n : Int, n < 8 → Calls Try.prog 51 #[.pointer (some ⟨g, 0, none⟩), .string s, .int .i64 ((k : Int) + 1), .int .i64 n] w (RPost w g go rb (.slice A t.out.length c0) (rlay t (byt s) (k + 1) n)) := fun n hn => by
    have := rlay_calls s (k + 1) n h hs (by omega) hn
    rw [ek] at this
    exact this
  have HLAY := Lib.hid hlay
  have hhc : (t.high = 0 ∧ decide (0 < t.high) = false) ∨ (0 < t.high ∧ decide (0 < t.high) = true) := by
    rcases hhi with e | e
    · exact .inl ⟨e, by simp [e]⟩
    · exact .inr ⟨by omega, by simp; omega⟩
  rw [HB.out] at hx14 hx128 ⊢
  clear h hb hx hu1 hlay hhi hu ek
  have e1 : 1 ≤ x := by omega
  have e2 : ¬ x ≤ 8 := by omega
  have e3 : 24 ≤ x := by omega
  have e4 : ¬ x ≤ 31 := by omega
  have e5 : 16 ≤ x := by omega
  have e6 : ¬ x ≤ 23 := by omega
  obtain ⟨ac0, ac1⟩ := H.out.ac
  obtain ⟨zz, hzz⟩ : ∃ zz, zz = t.o.getD t.act.toNat 0 := ⟨_, rfl⟩
  have hw : wAt t.o t.act = zz := by unfold wAt; rw [if_pos ⟨ac0, ac1⟩, hzz]
  have hzr : 128 ≤ zz ∧ zz ≤ 1114000 := by rw [hzz, List.getD_eq_getElem?_getD, List.getElem?_eq_getElem (by rw [H.out.lo]; omega)]; exact H.out.ro _ (List.getElem_mem _)
  rw [hw]
  obtain ⟨zz0, zz1⟩ := hzr
  have HZZ := Lib.hid hzz
  obtain ⟨y, hy⟩ : ∃ y : Int, y = zz + x - 128 := ⟨_, rfl⟩
  have x5 : IntKind.u32.wrap x = x := by rw [IntKind.wrap_u32]; omega
  have x6 : IntKind.u32.wrap (zz + x) = zz + x := by rw [IntKind.wrap_u32]; omega
  have x7 : IntKind.u32.wrap (zz + x - 128) = y := by rw [hy, IntKind.wrap_u32]; omega
  have HY := Lib.hid hy
  have k14 : (x == 14) = false := by rw [beq_eq_false_iff_ne]; exact hx14
  have k12 : (x == 12) = false := by rw [beq_eq_false_iff_ne]; omega
  have k11 : (x == 11) = false := by rw [beq_eq_false_iff_ne]; omega
  have k15 : (x == 15) = false := by rw [beq_eq_false_iff_ne]; omega
  have hzb : decide (0 < t.high) = false := by simp [hz0]
  have h128 := hx128
  clear hzz hw hy hx14 hx128 hhc hlen hz0
  go_enter Try.func36, Try.ntmps36
  go_upto_region 1 with fail
  go_cut [7] (fun b7 wx => b7 = .int .i64 x ∧ w = wx)
  case first =>
    go_wp2_with fail
    go_meet
    exact ⟨by rw [HX.out]; congr 1; unfold wrap64; have := s[k].toNat_lt; omega, rfl⟩
  case rest =>
    obtain ⟨rfl, rfl⟩ := hcut
    have q0 := H.out.f0
    have qz0 := H.out.fz 0
    have qlt := H.out.lt
    have qrb := H.out.rbl
    have qrg := Lib.hid H.out.row_g
    have f1 := H.out.f1
    have f2 := H.out.f2
    have fo := H.out.off t.act.toNat (by omega)
    rw [show t.o.getD t.act.toNat 0 = zz from HZZ.out.symm] at fo
    have qb : Below w.heap.size w (w.alloc (.cells #[.int .u32 y] 35)).drew := ((Below.refl w.heap.size w).alloc (Nat.le_refl _) _).drew
    have QB := Lib.hid qb
    clear qb
    go_wp2_with fail
    go_region_law (refine step_append_lies (w.alloc (.cells #[.int .u32 y] 35)).drew rfl (.tmp 192) (.tmp 207) 22 rfl rb 35 i0 (.int .u32 0) 1 4 Try.underlying22 HN.out.2.2.2 HN.out.1 HN.out.2.1 HN.out.2.2.1 rfl (by decide) _ _ _ rfl (H.out.row.alloc (.cells #[.int .u32 y] 35)) ⟨w.heap.size, 0, none⟩ 1 1 [.int .u32 y] rfl rfl ?c1 ?c2 (by decide) ?c3 ?c4 ?c5 _ rfl ?_; (case c1 => exact World.news_of_block (w := (w.alloc (.cells #[.int .u32 y] 35)).drew) (heap_alloc_new w _)); (case c2 => intro q hq; simp at hq; subst hq; rfl); (case c3 => unfold maxLen; omega); (case c4 => omega); (case c5 => exact Nat.le_trans qrb (size_le _ _)); intro r c1 w1 hown1 hgrow1 hat1 hlt1; have hcs1 : w1.cell? ⟨g, 0, none⟩ = _ := (hgrow1.cell_far ⟨g, 0, none⟩ (Nat.lt_of_lt_of_le qlt (size_le _ _)) (fun e => qrg.out e.symm)).trans ((QB.out.cell (p := ⟨g, 0, none⟩) qlt).trans q0); have hfs1 : w1.frozen? ⟨g, 0, none⟩ = false := (hgrow1.frozen_far ⟨g, 0, none⟩ (Nat.lt_of_lt_of_le qlt (size_le _ _)) (fun e => qrg.out e.symm)).trans ((QB.out.frozen (p := ⟨g, 0, none⟩) qlt).trans qz0); have hrg : r ≠ g := app_ne hat1 qrg.out (Nat.lt_of_lt_of_le qlt (size_le _ _)); have HO1 := Lib.hid (own_snoc hown1); have HG1 := Lib.hid hgrow1; have HRG := Lib.hid hrg; clear hown1 hgrow1 hat1 hlt1 hrg)
    all_goals
      go_wp2_with fail
      go_ret
      obtain rfl := HY.out
      obtain ⟨hr1, hr2⟩ := (H.out.below QB.out).push _ HO1.out HG1.out HRG.out hl
      exact ⟨by simp, _, hr1, chg_then (Chg.of_below QB.out) hr2 (fun i _ hi => hi)⟩
end Go.Proofs.Ytkfiahildoljfaa.Rst
