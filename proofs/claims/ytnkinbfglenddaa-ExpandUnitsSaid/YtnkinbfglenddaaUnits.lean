/- Scalars, units, big bytes: the reference's functions. -/
import Derived.Test.YtnkinbfglenddaaLawAscii
import Derived.Deep.CutBlock
import Derived.Laws.OwnMore
namespace Go.Proofs.Ytnkinbfglenddaa.Dec
open Go.RowKit Go.Proofs.Ytnkinbfglenddaa.Win Go.Proofs.Ytnkinbfglenddaa.Stp Go.Proofs.Ytnkinbfglenddaa.Mach Go.Proofs.Ytnkinbfglenddaa.Lst
set_option linter.unusedVariables false
set_option linter.unusedSimpArgs false
def isS (c : Int) : Bool := !(decide (55296 ≤ c) && decide (c ≤ 57343)) && decide (c ≤ 1114111)
theorem isS_iff {c : Int} : isS c = true ↔ ¬ (55296 ≤ c ∧ c ≤ 57343) ∧ c ≤ 1114111 := by
  unfold isS
  simp
  omega
def units (c : Int) : List Int := if c < 65536 then [c] else [55296 + (c - 65536) / 1024, 56320 + (c - 65536) % 1024]
def big (us : List Int) : List Int := us.flatMap fun u => [u / 256, u % 256]
def bytesB (l : List Int) : List Int := l.flatMap fun c => big (units c)
theorem ris_calls (c : Int) (w : World) : Calls Try.prog 27 #[.int .u32 c] w fun e w' => e = .returned (.bool (isS c)) ∧ w = w' := by
  by_cases h1 : 55296 ≤ c
  · by_cases h2 : c ≤ 57343
    · have e : isS c = false := by rw [← Bool.not_eq_true, isS_iff]; omega
      rw [e]
      clear e
      go_enter Try.func27, Try.ntmps27
      go_wp2
      go_ret
      exact ⟨rfl, rfl⟩
    · have e : isS c = decide (c ≤ 1114111) := by rw [Bool.eq_iff_iff, isS_iff]; simp; omega
      rw [e]
      clear e
      go_enter Try.func27, Try.ntmps27
      go_wp2
      go_ret
      exact ⟨rfl, rfl⟩
  · have e : isS c = true := by rw [isS_iff]; omega
    have h3 : c ≤ 1114111 := by omega
    rw [e]
    clear e
    go_enter Try.func27, Try.ntmps27
    go_wp2
    go_ret
    exact ⟨rfl, rfl⟩
def FirstPost (w : World) (l : List Int) (e : Ending) (w' : World) : Prop := ∃ r : Int, e = .returned (.int .i64 r) ∧ ((r = -1 ∧ ∀ x ∈ l, isS x = true) ∨ 0 ≤ r) ∧ Drew w w'
def FirstRel (w : World) (l : List Int) (i : Value) (wr : World) : Prop := ∃ k : Nat, k ≤ l.length ∧ i = .int .i64 k ∧ Drew w wr ∧ ∀ x ∈ l.take k, isS x = true
theorem rfirst_calls {w : World} {A : Option Addr} {c : Nat} {l : List Int} (h : Lst w .u32 A l) (hl : l.length ≤ 1000000) : Calls Try.prog 14 #[.slice A l.length c] w (FirstPost w l) := by
  have H := Lib.hid h
  clear h
  go_enter Try.func14, Try.ntmps14
  go_wp2_with fail
  go_loopw [3] (fun i wr => FirstRel w l i wr) (fun i _ => l.length - (intOf i).toNat)
  case atStart => exact ⟨0, Nat.zero_le _, rfl, Drew.refl _, fun x hx => by cases hx⟩
  case round =>
    obtain ⟨k, hk, rfl, hd, ha⟩ := hrel
    have HD := Lib.hid hd
    have HAl := Lib.hid ha
    clear hd ha
    by_cases hlt : k < l.length
    · obtain ⟨a, rfl, q⟩ := (Lst.drew H.out HD.out) k hlt
      have htk := take_succ' hlt
      generalize l.getD k 0 = x at q htk
      have HTK := Lib.hid htk
      have hisx := ris_calls x
      clear htk
      cases hx : isS x with
      | true =>
        have HX := Lib.hid hx
        rw [hx] at hisx
        have HIS := Lib.hid hisx
        clear hx hisx
        go_wp2_with (go_at_call 27; refine (HIS.out _).mono ?_; rintro e w1 ⟨rfl, rfl⟩)
        go_roundw
        case rel =>
          refine ⟨k + 1, hlt, by go_num, HD.out, fun y hy => ?_⟩
          rw [HTK.out] at hy
          rcases List.mem_append.1 hy with hy | hy
          · exact HAl.out y hy
          · rw [List.mem_singleton.1 hy]; exact HX.out
        case measure => simp [intOf]; omega
      | false =>
        rw [hx] at hisx
        have HIS := Lib.hid hisx
        clear hx hisx
        go_wp2_with (go_at_call 27; refine (HIS.out _).mono ?_; rintro e w1 ⟨rfl, rfl⟩)
        go_ret
        exact ⟨k, rfl, .inr (by omega), HD.out⟩
    · obtain rfl : k = l.length := by omega
      go_wp2_with fail
      go_ret
      exact ⟨-1, rfl, .inl ⟨rfl, by have := HAl.out; rw [List.take_length] at this; exact this⟩, HD.out⟩
theorem runits_calls (c : Int) (w : World) (h0 : 0 ≤ c) (h1 : c ≤ 1114111) : Calls Try.prog 28 #[.int .u32 c] w fun e w' => e = .returned (.slice (some ⟨w.heap.size, 0, none⟩) (units c).length (units c).length) ∧ w' = w.alloc (.cells (u32s (units c)).toArray 25) := by
  unfold units
  by_cases h : c < 65536
  · rw [if_pos h]
    go_enter Try.func28, Try.ntmps28
    go_wp2
    go_ret
    exact ⟨rfl, rfl⟩
  · rw [if_neg h]
    go_enter Try.func28, Try.ntmps28
    go_wp2
    go_ret
    refine ⟨rfl, ?_⟩
    unfold u32s
    simp
end Go.Proofs.Ytnkinbfglenddaa.Dec
