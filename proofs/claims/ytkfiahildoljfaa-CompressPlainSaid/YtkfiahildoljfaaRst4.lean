/- The reference's text: a part in the Unicode mode. -/
import Derived.Test.YtkfiahildoljfaaRst3
import Derived.Deep.CutBlock
import Derived.Deep.DeepCutAuto
namespace Go.Proofs.Ytkfiahildoljfaa.Rst
open Go.RowKit Go.Proofs.Ytkfiahildoljfaa.Win Go.Proofs.Ytkfiahildoljfaa.Stp Go.Proofs.Ytkfiahildoljfaa.Mach
set_option linter.unusedVariables false
set_option linter.unusedSimpArgs false

def rpartU (t : R) (l : List Int) (k : Nat) : R × Nat :=
  if l.getD k 0 < 224 ∨ 242 < l.getD k 0 then runit t l k
  else if l.getD k 0 = 240 then runit t l (k + 1)
  else if 0 < t.high ∨ l.getD k 0 = 242 then rwrong t k
  else if l.getD k 0 = 241 then rlay t l (k + 1) (-1)
  else if 232 ≤ l.getD k 0 then rlay t l (k + 1) (l.getD k 0 - 232)
  else ({ t with act := l.getD k 0 - 224, uni := false }, k + 1)
set_option maxRecDepth 100000 in
set_option maxHeartbeats 8000000 in
theorem rpartU_calls {w : World} {g go rb : Nat} {v : Value} {t : R} (s : ByteArray) (k : Nat) (h : RAt w g go rb v t) (hs : s.size ≤ 100000) (hk : k < s.size) (hl : t.out.length < 1000000) (hu : t.uni = true) :
    Calls Try.prog 36 #[.pointer (some ⟨g, 0, none⟩), .string s, .int .i64 k] w (RPost w g go rb v (rpartU t (byt s) k)) := by
  have hklt : k < s.size := hk
  have H := Lib.hid h
  have hb := byt_at s k hklt
  have f3 := h.f3
  rw [hu] at f3
  have f4 := h.f4
  have hhi := h.hi
  obtain ⟨x, hx⟩ : ∃ x : Int, x = (s[k].toNat : Int) := ⟨_, rfl⟩
  have x0 : 0 ≤ x := by omega
  have x1 : x ≤ 255 := by have := s[k].toNat_lt; omega
  rw [← hx] at hb
  have HX := Lib.hid hx
  have HB := Lib.hid hb
  have ek : ((k + 1 : Nat) : Int) = (k : Int) + 1 := by omega
  have HWR := Lib.hid (rwrong_calls k h)
  have hu1 := runit_calls s (k + 1) h hs (by omega) hl
  rw [ek] at hu1
  have HU1 := Lib.hid hu1
  have HU0 := Lib.hid (runit_calls s k h hs (by omega) hl)
  have HCUT := Lib.hid (rcut_calls s h hs)
  have hlay : ∀ n : Int, n < 8 → Calls Try.prog 51 #[.pointer (some ⟨g, 0, none⟩), .string s, .int .i64 ((k : Int) + 1), .int .i64 n] w (RPost w g go rb v (rlay t (byt s) (k + 1) n)) := fun n hn => by
    have := rlay_calls s (k + 1) n h hs (by omega) hn
    rw [ek] at this
    exact this
  have HLAY := Lib.hid hlay
  have hhc : (t.high = 0 ∧ decide (0 < t.high) = false) ∨ (0 < t.high ∧ decide (0 < t.high) = true) := by
    rcases hhi with e | e
    · exact .inl ⟨e, by simp [e]⟩
    · exact .inr ⟨by omega, by simp; omega⟩
  unfold rpartU
  rw [HB.out]
  clear h hb hx hu1 hlay hhi hu ek
  by_cases hr : x < 224 ∨ 242 < x
  · rw [if_pos hr]
    have hcs : x < 224 ∨ (¬ x < 224 ∧ 242 < x) := by omega
    clear hr
    rcases hcs with hc | ⟨hc, hd⟩
    all_goals
      clear hhc
      go_enter Try.func36, Try.ntmps36
      go_upto_region 1 with fail
      go_cut [7] (fun b7 wx => b7 = .int .i64 x ∧ w = wx)
      case first =>
        go_wp2_with fail
        go_meet
        exact ⟨by rw [HX.out]; congr 1; unfold wrap64; have := s[k].toNat_lt; omega, rfl⟩
      case rest =>
        obtain ⟨rfl, rfl⟩ := hcut
        go_wp2_with (go_at_call 49; refine HU0.out.mono ?_; rintro e w1 ⟨rfl, hp⟩; have HP := Lib.hid hp; clear hp)
        go_ret
        exact ⟨rfl, HP.out⟩
  rw [if_neg hr]
  have r1 : ¬ x < 224 := fun e => hr (.inl e)
  have r2 : ¬ 242 < x := fun e => hr (.inr e)
  clear hr
  by_cases h240 : x = 240
  · rw [if_pos h240]
    have HE := Lib.hid h240
    clear hhc h240
    go_enter Try.func36, Try.ntmps36
    go_upto_region 1 with fail
    go_cut [7] (fun b7 wx => b7 = .int .i64 x ∧ w = wx)
    case first =>
      go_wp2_with fail
      go_meet
      exact ⟨by rw [HX.out]; congr 1; unfold wrap64; have := s[k].toNat_lt; omega, rfl⟩
    case rest =>
      obtain ⟨rfl, rfl⟩ := hcut
      have k1 : (x == 240) = true := by rw [beq_iff_eq]; exact HE.out
      go_wp2_with (go_at_call 49; refine HU1.out.mono ?_; rintro e w1 ⟨rfl, hp⟩; have HP := Lib.hid hp; clear hp)
      go_ret
      exact ⟨rfl, HP.out⟩
  rw [if_neg h240]
  have k240 : (x == 240) = false := by rw [beq_eq_false_iff_ne]; exact h240
  rcases hhc with ⟨hz, hzb⟩ | ⟨hz, hzb⟩
  rotate_left
  · rw [if_pos (.inl hz)]
    clear h240 hz
    go_enter Try.func36, Try.ntmps36
    go_upto_region 1 with fail
    go_cut [7] (fun b7 wx => b7 = .int .i64 x ∧ w = wx)
    case first =>
      go_wp2_with fail
      go_meet
      exact ⟨by rw [HX.out]; congr 1; unfold wrap64; have := s[k].toNat_lt; omega, rfl⟩
    case rest =>
      obtain ⟨rfl, rfl⟩ := hcut
      go_wp2_with (go_at_call 50; refine HWR.out.mono ?_; rintro e w1 ⟨rfl, hp⟩; have HP := Lib.hid hp; clear hp)
      go_ret
      exact ⟨rfl, HP.out⟩
  by_cases h242 : x = 242
  · rw [if_pos (.inr h242)]
    have HE := Lib.hid h242
    clear h240 h242 hz
    go_enter Try.func36, Try.ntmps36
    go_upto_region 1 with fail
    go_cut [7] (fun b7 wx => b7 = .int .i64 x ∧ w = wx)
    case first =>
      go_wp2_with fail
      go_meet
      exact ⟨by rw [HX.out]; congr 1; unfold wrap64; have := s[k].toNat_lt; omega, rfl⟩
    case rest =>
      obtain ⟨rfl, rfl⟩ := hcut
      have k1 : (x == 242) = true := by rw [beq_iff_eq]; exact HE.out
      go_wp2_with (go_at_call 50; refine HWR.out.mono ?_; rintro e w1 ⟨rfl, hp⟩; have HP := Lib.hid hp; clear hp)
      go_ret
      exact ⟨rfl, HP.out⟩
  have hq : ¬ (0 < t.high ∨ x = 242) := by omega
  rw [if_neg hq]
  have k242 : (x == 242) = false := by rw [beq_eq_false_iff_ne]; exact h242
  clear hq hz
  by_cases h241 : x = 241
  · rw [if_pos h241]
    have HE := Lib.hid h241
    have HL := Lib.hid (HLAY.out (-1) (by decide))
    clear h240 h241 h242
    go_enter Try.func36, Try.ntmps36
    go_upto_region 1 with fail
    go_cut [7] (fun b7 wx => b7 = .int .i64 x ∧ w = wx)
    case first =>
      go_wp2_with fail
      go_meet
      exact ⟨by rw [HX.out]; congr 1; unfold wrap64; have := s[k].toNat_lt; omega, rfl⟩
    case rest =>
      obtain ⟨rfl, rfl⟩ := hcut
      have k1 : (x == 241) = true := by rw [beq_iff_eq]; exact HE.out
      go_wp2_with (go_at_call 51; refine HL.out.mono ?_; rintro e w1 ⟨rfl, hp⟩; have HP := Lib.hid hp; clear hp)
      go_ret
      exact ⟨rfl, HP.out⟩
  rw [if_neg h241]
  have k241 : (x == 241) = false := by rw [beq_eq_false_iff_ne]; exact h241
  by_cases h232 : 232 ≤ x
  · rw [if_pos h232]
    have HL := Lib.hid (HLAY.out (x - 232) (by omega))
    clear h240 h241 h242
    go_enter Try.func36, Try.ntmps36
    go_upto_region 1 with fail
    go_cut [7] (fun b7 wx => b7 = .int .i64 x ∧ w = wx)
    case first =>
      go_wp2_with fail
      go_meet
      exact ⟨by rw [HX.out]; congr 1; unfold wrap64; have := s[k].toNat_lt; omega, rfl⟩
    case rest =>
      obtain ⟨rfl, rfl⟩ := hcut
      go_wp2_with (go_at_call 51; refine HL.out.mono ?_; rintro e w1 ⟨rfl, hp⟩; have HP := Lib.hid hp; clear hp)
      go_ret
      exact ⟨rfl, HP.out⟩
  rw [if_neg h232]
  have hac : x - 224 < 8 := by omega
  clear h240 h241 h242
  go_enter Try.func36, Try.ntmps36
  go_upto_region 1 with fail
  go_cut [7] (fun b7 wx => b7 = .int .i64 x ∧ w = wx)
  case first =>
    go_wp2_with fail
    go_meet
    exact ⟨by rw [HX.out]; congr 1; unfold wrap64; have := s[k].toNat_lt; omega, rfl⟩
  case rest =>
    obtain ⟨rfl, rfl⟩ := hcut
    have f2 := H.out.f2
    have f3 := H.out.f3
    have z2 := H.out.fz 2
    have z3 := H.out.fz 3
    go_wp2_with fail
    go_ret
    have e1 := H.out.set 2 (.int .i64 (x - 224)) (t' := { t with act := x - 224 }) rfl rfl rfl (by show 0 ≤ x - 224 ∧ x - 224 < 8; omega) H.out.hi
    have e2 := e1.set 3 (.bool false) (t' := { t with act := x - 224, uni := false }) rfl rfl rfl e1.ac H.out.hi
    exact ⟨by simp, v, e2, (rs_g 2 _).trans (rs_g 3 _)⟩
end Go.Proofs.Ytkfiahildoljfaa.Rst
