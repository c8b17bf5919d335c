/- The compressor: a scalar by itself, by units, by a static window. -/
import Derived.Test.YtkfiahildoljfaaEnc3
import Derived.Deep.QuietTactic
namespace Go.Proofs.Ytkfiahildoljfaa.Enc
open Go.RowKit Go.Proofs.Ytkfiahildoljfaa.Win Go.Proofs.Ytkfiahildoljfaa.Stp Go.Proofs.YtkfiahildoljfaaW.PrintMore
set_option linter.unusedVariables false
set_option linter.unusedSimpArgs false
/-- What is always so. -/
structure EG (m : E) : Prop where
  lo : m.o.length = 8
  ro : ∀ x ∈ m.o, 128 ≤ x ∧ x ≤ 1114000
  mem : ∀ n : Int, 0 ≤ n → n < 8 → n ∈ m.u
  lu : m.u.length = 8
  ru : ∀ n ∈ m.u, 0 ≤ n ∧ n < 8
  act : 0 ≤ m.act ∧ m.act < 8
theorem EG.rng {m : E} (h : EG m) : Rng m.o := fun x hx => by have := h.ro x hx; omega
theorem EG.at_ {m : E} (h : EG m) {n : Int} (h0 : 0 ≤ n) (h1 : n < 8) : 128 ≤ wAt m.o n ∧ wAt m.o n ≤ 1114000 := by
  unfold wAt
  rw [if_pos ⟨h0, h1⟩, List.getD_eq_getElem?_getD, List.getElem?_eq_getElem (by rw [h.lo]; omega)]
  exact h.ro _ (List.getElem_mem _)
def simpleC (m : E) (c : Int) : Option (List Int) := if passB c = true then some [c] else if c < 32 then some [1, c] else if hld (wAt m.o m.act) c = true then some [128 + c - wAt m.o m.act] else none
def SimPost (w : World) (g gw : Nat) (b : B4) (l : List Int) (m : E) (r : Option (List Int)) (e : Ending) (w' : World) : Prop :=
  match r with
  | some x => e = .returned (.bool true) ∧ EncAt w' g gw b (l ++ x) m ∧ Chg (EFS g gw) w w'
  | none => e = .returned (.bool false) ∧ EncAt w' g gw b l m ∧ Chg (EFS g gw) w w'
section
variable {w : World} {g gw : Nat} {b : B4} {l : List Int} {m : E}
set_option maxHeartbeats 2000000 in
theorem simple_calls (c : Int) (h : EncAt w g gw b l m) (hG : EG m) (h0 : 0 ≤ c) (h1 : c ≤ 1114111) (hl : l.length ≤ 1000000) :
    Calls Try.prog 40 #[.pointer (some ⟨g, 0, none⟩), .int .u32 c] w (SimPost w g gw b l m (simpleC m c)) := by
  have HP := Lib.hid (passes_calls c)
  unfold simpleC
  cases hp : passB c
  · rw [if_neg (by decide)]
    rw [hp] at HP
    by_cases h32 : c < 32
    · rw [if_pos h32]
      have HK := Lib.hid (keep_calls [1, c] h hl (by simp))
      clear h hG hp
      go_enter Try.func40, Try.ntmps40
      go_wp2_with fail
      refine (HP.out _).mono ?_
      rintro e w1 ⟨rfl, rfl⟩
      go_wp2_with fail
      refine HK.out.mono ?_
      rintro e w1 ⟨rfl, hd, hc⟩
      have HD := Lib.hid hd
      have HC := Lib.hid hc
      clear hd hc
      go_wp2_with fail
      go_ret
      exact ⟨rfl, HD.out, HC.out⟩
    · rw [if_neg h32]
      have h6 := h.c6
      have h8 := h.c8
      have ha := hG.at_ hG.act.1 hG.act.2
      obtain ⟨x, hx⟩ : ∃ x, x = wAt m.o m.act := ⟨_, rfl⟩
      have HA := Lib.hid (fun n => at_calls gw m.o m.u m.act (w.drewN n) (h.drewN n).win)
      rw [← hx] at HA ha ⊢
      have HH := Lib.hid (fun w => holds_calls x c w (by omega) (by omega) h0 (by omega))
      cases hh : hld x c
      · rw [hh] at HH
        have H := Lib.hid h
        clear h hG hp hh hx
        go_enter Try.func40, Try.ntmps40
        go_wp2_with fail
        refine (HP.out _).mono ?_
        rintro e w1 ⟨rfl, rfl⟩
        go_wp2_with fail
        go_quiet ((first | (go_at_call 57; exact Calls.quiet_of_same ((HA.out _).mono (fun e w' h => ⟨h.1, h.2.symm⟩))) | (go_at_call 56; exact Calls.quiet_of_same ((HH.out _).mono (fun e w' h => ⟨h.1, h.2.symm⟩)))))
        go_wp2_with fail
        go_ret
        exact ⟨rfl, H.out.drewN _, Chg.drewN _ _⟩
      · rw [hh] at HH
        have hxx : x ≤ c ∧ c - x < 128 := by unfold hld at hh; simpa using hh
        have HHe := Lib.hid (fun n => held_calls m.act c (h.drewN n) (by rw [← hx]; omega) (by rw [← hx]; exact hxx.1) (by rw [← hx]; exact hxx.2) h1)
        rw [← hx] at HHe
        have HK := Lib.hid (fun n => keep_calls [128 + c - x] (h.drewN n) hl (by simp))
        have H := Lib.hid h
        clear h hG hp hh hx
        go_enter Try.func40, Try.ntmps40
        go_wp2_with fail
        refine (HP.out _).mono ?_
        rintro e w1 ⟨rfl, rfl⟩
        go_wp2_with fail
        go_quiet ((first | (go_at_call 57; exact Calls.quiet_of_same ((HA.out _).mono (fun e w' h => ⟨h.1, h.2.symm⟩))) | (go_at_call 56; exact Calls.quiet_of_same ((HH.out _).mono (fun e w' h => ⟨h.1, h.2.symm⟩)))))
        go_wp2_with fail
        refine (HHe.out _).mono ?_
        rintro e w2 ⟨rfl, rfl⟩
        go_wp2_with fail
        refine (HK.out _).mono ?_
        rintro e w2 ⟨rfl, hd, hc⟩
        have HD := Lib.hid hd
        have HC := Lib.hid hc
        clear hd hc
        go_wp2_with fail
        go_ret
        exact ⟨rfl, HD.out, (Chg.drewN w _).trans HC.out⟩
  · rw [if_pos rfl]
    rw [hp] at HP
    have hb : c ≤ 127 := by have := passB_iff.1 hp; omega
    have HK := Lib.hid (keep_calls [c] h hl (by simp))
    clear h hG hp
    go_enter Try.func40, Try.ntmps40
    go_wp2_with fail
    refine (HP.out _).mono ?_
    rintro e w1 ⟨rfl, rfl⟩
    go_wp2_with fail
    refine HK.out.mono ?_
    rintro e w1 ⟨rfl, hd, hc⟩
    have HD := Lib.hid hd
    have HC := Lib.hid hc
    clear hd hc
    go_wp2_with fail
    go_ret
    exact ⟨rfl, HD.out, HC.out⟩
def unitsC (c : Int) : List Int :=
  if 65536 ≤ c then [(55296 + (c - 65536) / 1024) / 256, (55296 + (c - 65536) / 1024) % 256, (56320 + (c - 65536) % 1024) / 256, (56320 + (c - 65536) % 1024) % 256]
  else (if tagB c = true then [240] else []) ++ [c / 256, c % 256]
set_option maxHeartbeats 2000000 in
theorem units_calls (c : Int) (h : EncAt w g gw b l m) (h0 : 0 ≤ c) (h1 : c ≤ 1114111) (hl : l.length < 1000000) :
    Calls Try.prog 39 #[.pointer (some ⟨g, 0, none⟩), .int .u32 c] w (KeepPost w g gw b (l ++ unitsC c) m) := by
  unfold unitsC
  by_cases hc : 65536 ≤ c
  · rw [if_pos hc]
    have or1 : bits .or .u32 55296 ((c - 65536) / 1024) = 55296 + (c - 65536) / 1024 := bits_join .u32 32 (by decide) wraps_u32 10 55296 _ (by omega) (by omega) (by omega) (by omega) (by omega) (by omega)
    have or2 : bits .or .u32 56320 ((c - 65536) % 1024) = 56320 + (c - 65536) % 1024 := bits_join .u32 32 (by decide) wraps_u32 10 56320 _ (by omega) (by omega) (by omega) (by omega) (by omega) (by omega)
    have an : bits .and .u32 (c - 65536) 1023 = (c - 65536) % 1024 := bits_mask .u32 32 (by decide) wraps_u32 10 (by decide) (c - 65536) (by omega) (by omega)
    obtain ⟨x, hx⟩ : ∃ x, x = 55296 + (c - 65536) / 1024 := ⟨_, rfl⟩
    obtain ⟨y, hy⟩ : ∃ y, y = 56320 + (c - 65536) % 1024 := ⟨_, rfl⟩
    rw [← hx] at or1 ⊢
    rw [← hy] at or2 ⊢
    have hxr : 0 ≤ x ∧ x ≤ 65535 := by omega
    have hyr : 0 ≤ y ∧ y ≤ 65535 := by omega
    obtain ⟨x0, x1⟩ := hxr
    obtain ⟨y0, y1⟩ := hyr
    have w1 : IntKind.u8.wrap x = x % 256 := by rw [IntKind.wrap_u8]
    have w2 : IntKind.u8.wrap y = y % 256 := by rw [IntKind.wrap_u8]
    have HK := Lib.hid (keep_calls [x / 256, x % 256, y / 256, y % 256] h (by omega) (by simp))
    clear h hx hy
    go_enter Try.func39, Try.ntmps39
    go_wp2_with fail
    refine HK.out.mono ?_
    rintro e w1 ⟨rfl, hd, hc⟩
    have HD := Lib.hid hd
    have HC := Lib.hid hc
    clear hd hc
    go_wp2_with fail
    go_end0
    exact ⟨rfl, HD.out, HC.out⟩
  · rw [if_neg hc]
    have HT := Lib.hid (tagged_calls c)
    have w1 : IntKind.u8.wrap c = c % 256 := by rw [IntKind.wrap_u8]
    cases ht : tagB c
    · rw [ht] at HT
      rw [if_neg (by decide), List.nil_append]
      have HK := Lib.hid (keep_calls [c / 256, c % 256] h (by omega) (by simp))
      clear h ht
      go_enter Try.func39, Try.ntmps39
      go_wp2_with fail
      refine (HT.out _).mono ?_
      rintro e w1 ⟨rfl, rfl⟩
      go_wp2_with fail
      refine HK.out.mono ?_
      rintro e w1 ⟨rfl, hd, hc⟩
      have HD := Lib.hid hd
      have HC := Lib.hid hc
      clear hd hc
      go_wp2_with fail
      go_end0
      exact ⟨rfl, HD.out, HC.out⟩
    · rw [ht] at HT
      rw [if_pos rfl]
      have HK := Lib.hid (keep_calls [240] h (by omega) (by simp))
      clear h ht
      go_enter Try.func39, Try.ntmps39
      go_wp2_with fail
      refine (HT.out _).mono ?_
      rintro e w1 ⟨rfl, rfl⟩
      go_wp2_with fail
      refine HK.out.mono ?_
      rintro e w1 ⟨rfl, hd, hcc⟩
      have HK2 := Lib.hid (keep_calls [c / 256, c % 256] hd (by rw [List.length_append]; simp; omega) (by simp))
      have HC := Lib.hid hcc
      clear hd hcc
      go_wp2_with fail
      refine HK2.out.mono ?_
      rintro e w2 ⟨rfl, hd, hcc⟩
      have HD := Lib.hid hd
      have HC2 := Lib.hid hcc
      clear hd hcc
      go_wp2_with fail
      go_end0
      refine ⟨rfl, ?_, HC.out.trans HC2.out⟩
      have := HD.out
      rw [List.append_assoc] at this
      exact this
end
end Go.Proofs.Ytkfiahildoljfaa.Enc
