/- The reference's text: a window is laid. -/
import Derived.Test.YtkfiahildoljfaaRst2
namespace Go.Proofs.Ytkfiahildoljfaa.Rst
open Go.RowKit Go.Proofs.Ytkfiahildoljfaa.Win Go.Proofs.Ytkfiahildoljfaa.Stp Go.Proofs.Ytkfiahildoljfaa.Mach
set_option linter.unusedVariables false
set_option linter.unusedSimpArgs false
def rlay (t : R) (l : List Int) (k : Nat) (n : Int) : R × Nat :=
  if l.length ≤ k then rcut t l.length
  else if n < 0 then
    if l.length ≤ k + 1 then rcut t l.length
    else ({ t with o := t.o.set (l.getD k 0 / 32).toNat (65536 + 128 * (l.getD k 0 % 32 * 256 + l.getD (k + 1) 0)), act := l.getD k 0 / 32, uni := false }, k + 2)
  else if (wOffset (l.getD k 0)).2 = true then ({ t with o := t.o.set n.toNat (wOffset (l.getD k 0)).1, act := n, uni := false }, k + 1)
  else rwrong t k
set_option maxRecDepth 100000 in
set_option maxHeartbeats 8000000 in
theorem rlay_calls {w : World} {g go rb : Nat} {v : Value} {t : R} (s : ByteArray) (k : Nat) (n : Int) (h : RAt w g go rb v t) (hs : s.size ≤ 100000) (hk : k ≤ 200000) (hn : n < 8) :
    Calls Try.prog 51 #[.pointer (some ⟨g, 0, none⟩), .string s, .int .i64 k, .int .i64 n] w (RPost w g go rb v (rlay t (byt s) k n)) := by
  have HCUT := Lib.hid (rcut_calls s h hs)
  have H := Lib.hid h
  have hlen := byt_length s
  have f1 := h.f1
  have f2 := h.f2
  have f3 := h.f3
  have hfz := h.fz
  have z2 := hfz 2
  have z3 := hfz 3
  have HOF := Lib.hid h.off
  have HOZ := Lib.hid h.offs.frozen
  have hne := h.ne
  unfold rlay
  rw [hlen]
  clear hfz
  by_cases hk0 : s.size ≤ k
  · rw [if_pos hk0]
    clear h hlen
    go_enter Try.func51, Try.ntmps51
    go_wp2_with (go_at_call 37; refine HCUT.out.mono ?_; rintro e w1 ⟨rfl, hp⟩; have HP := Lib.hid hp; clear hp)
    go_ret
    exact ⟨rfl, HP.out⟩
  rw [if_neg hk0]
  have hklt : k < s.size := by omega
  rw [byt_at s k hklt]
  have hb1 : (s[k].toNat : Int) ≤ 255 := by have := s[k].toNat_lt; omega
  by_cases hn0 : n < 0
  · rw [if_pos hn0]
    by_cases hk1 : s.size ≤ k + 1
    · rw [if_pos hk1]
      clear h hlen
      go_enter Try.func51, Try.ntmps51
      go_wp2_with (go_at_call 37; refine HCUT.out.mono ?_; rintro e w1 ⟨rfl, hp⟩; have HP := Lib.hid hp; clear hp)
      go_ret
      exact ⟨rfl, HP.out⟩
    · rw [if_neg hk1]
      have hk1lt : k + 1 < s.size := by omega
      rw [byt_at s (k + 1) hk1lt]
      have hb2 : (s[k + 1].toNat : Int) ≤ 255 := by have := s[k + 1].toNat_lt; omega
      have hxn : ((s[k].toNat : Int) / 32).toNat < 8 := by omega
      have hc := HOF.out _ hxn
      have hz := HOZ.out ((s[k].toNat : Int) / 32).toNat
      have x1 : IntKind.u32.wrap (s[k].toNat : Int) = (s[k].toNat : Int) := by rw [IntKind.wrap_u32]; omega
      have x2 : IntKind.u32.wrap (s[k + 1].toNat : Int) = (s[k + 1].toNat : Int) := by rw [IntKind.wrap_u32]; omega
      have x5 : IntKind.i64.wrap ((k : Int) + 1) = (k : Int) + 1 := by rw [IntKind.wrap_i64]; omega
      have x6 : ((k : Int) + 1).toNat = k + 1 := by omega
      have x7 : (0 : Int) ≤ (k : Int) + 1 := by omega
      have x8 : (k : Int) + 1 < (s.size : Int) := by omega
      have y0 : (0 : Int) ≤ (s[k].toNat : Int) / 32 := by omega
      have y1 : (s[k].toNat : Int) / 32 < 8 := by omega
      clear h hlen
      go_enter Try.func51, Try.ntmps51
      go_wp2_with fail
      go_region
      all_goals
        go_wp2_with fail
        go_ret
        have en : ((s[k].toNat : Int) / 32).toNat = s[k].toNat / 32 := by omega
        rw [en]
        have e1 := H.out.setO (s[k].toNat / 32) (65536 + 128 * ((s[k].toNat : Int) % 32 * 256 + (s[k + 1].toNat : Int))) (by omega)
        have e2 := e1.set 2 (.int .i64 ((s[k].toNat : Int) / 32)) (t' := { t with o := t.o.set (s[k].toNat / 32) (65536 + 128 * ((s[k].toNat : Int) % 32 * 256 + (s[k + 1].toNat : Int))), act := (s[k].toNat : Int) / 32 }) rfl rfl rfl ⟨y0, y1⟩ H.out.hi
        have e3 := e2.set 3 (.bool false) (t' := { t with o := t.o.set (s[k].toNat / 32) (65536 + 128 * ((s[k].toNat : Int) % 32 * 256 + (s[k + 1].toNat : Int))), act := (s[k].toNat : Int) / 32, uni := false }) rfl rfl rfl ⟨y0, y1⟩ H.out.hi
        exact ⟨by simp; omega, v, e3.keep (Nat.le_refl _) rfl rfl (fun _ _ => rfl), (((rs_go _ _).trans (rs_g 2 _)).trans (rs_g 3 _)).trans (Chg.drew _)⟩
  · rw [if_neg hn0]
    have hn1 : 0 ≤ n := by omega
    have HWR := Lib.hid (rwrong_calls k h)
    have hof := fun w => roffset_calls (s[k].toNat : Int) w (by omega) hb1
    have hcn := HOF.out n.toNat (by omega)
    obtain ⟨o, ok, hok⟩ : ∃ o ok, wOffset (s[k].toNat : Int) = (o, ok) := ⟨_, _, rfl⟩
    have hrng := offset_rng (b := (s[k].toNat : Int)) (by omega) hb1
    rw [hok] at hof hrng ⊢
    have HF := Lib.hid hof
    clear h hlen hof hok
    cases ok with
    | false =>
      rw [if_neg (by simp)]
      clear hrng
      go_enter Try.func51, Try.ntmps51
      go_wp2_with fail
      refine (HF.out _).mono ?_
      rintro e w2 ⟨rfl, hb⟩
      have HWR2 := Lib.hid (rwrong_calls k (H.out.below hb))
      have HB := Lib.hid hb
      clear hb
      go_wp2_with fail
      refine HWR2.out.mono ?_
      rintro e w1 ⟨rfl, v', hr, hc⟩
      have HP := Lib.hid hr
      have HC := Lib.hid hc
      clear hr hc
      go_wp2_with fail
      go_ret
      exact ⟨rfl, v', HP.out, (Chg.of_below HB.out).trans HC.out⟩
    | true =>
      rw [if_pos rfl]
      have HRNG := Lib.hid (hrng rfl)
      clear hrng
      go_enter Try.func51, Try.ntmps51
      go_wp2_with fail
      refine (HF.out _).mono ?_
      rintro e w2 ⟨rfl, hb⟩
      have hr2 := H.out.below hb
      have g1 := hr2.f1
      have g2 := hr2.f2
      have g3 := hr2.f3
      have gz2 := hr2.fz 2
      have gz3 := hr2.fz 3
      have gc := hr2.off n.toNat (by omega)
      have gz := hr2.offs.frozen n.toNat
      have HR2 := Lib.hid hr2
      have HB := Lib.hid hb
      clear hb hr2
      go_wp2_with fail
      go_ret
      have e1 := HR2.out.setO n.toNat o HRNG.out
      have e2 := e1.set 2 (.int .i64 n) (t' := { t with o := t.o.set n.toNat o, act := n }) rfl rfl rfl ⟨hn1, hn⟩ H.out.hi
      have e3 := e2.set 3 (.bool false) (t' := { t with o := t.o.set n.toNat o, act := n, uni := false }) rfl rfl rfl ⟨hn1, hn⟩ H.out.hi
      exact ⟨rfl, v, e3, (Chg.of_below HB.out).trans (((rs_go _ _).trans (rs_g 2 _)).trans (rs_g 3 _))⟩
end Go.Proofs.Ytkfiahildoljfaa.Rst
