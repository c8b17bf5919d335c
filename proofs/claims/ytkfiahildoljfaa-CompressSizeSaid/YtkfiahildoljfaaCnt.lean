/- How many units a list has, and how many of them are tagged: the reference's functions. -/
import Derived.Test.YtkfiahildoljfaaSize
namespace Go.Proofs.Ytkfiahildoljfaa.Enc
open Go.RowKit Go.Proofs.Ytkfiahildoljfaa.Win Go.Proofs.Ytkfiahildoljfaa.Stp Go.Proofs.Ytkfiahildoljfaa.Lst
set_option linter.unusedVariables false
set_option linter.unusedSimpArgs false
theorem sumN_take (f : Int → Nat) {l : List Int} {k : Nat} (h : k < l.length) : sumN f (l.take (k + 1)) = sumN f (l.take k) + f (l.getD k 0) := by rw [take_succ' h, sumN_snoc]
theorem sumN_le {f : Int → Nat} {B : Nat} (hf : ∀ c, f c ≤ B) : ∀ l : List Int, sumN f l ≤ B * l.length
  | [] => Nat.zero_le _
  | c :: cs => by
    have h1 := hf c
    have h2 := sumN_le hf cs
    have e : sumN f (c :: cs) = f c + sumN f cs := rfl
    rw [e, List.length_cons, Nat.mul_succ]
    omega
theorem sumN_take_le {f : Int → Nat} {B : Nat} (hf : ∀ c, f c ≤ B) (l : List Int) (k : Nat) (hk : k ≤ l.length) : sumN f (l.take k) ≤ B * k := by
  have := sumN_le hf (l.take k)
  rw [List.length_take, Nat.min_eq_left hk] at this
  exact this
theorem tagN_le (c : Int) : tagN c ≤ 1 := by unfold tagN; split <;> omega
def CntRel (w : World) (f : Int → Nat) (l : List Int) (n i : Value) (wr : World) : Prop := ∃ k z : Nat, k ≤ l.length ∧ i = .int .i64 k ∧ n = .int .i64 z ∧ z = sumN f (l.take k) ∧ Drew w wr
def CntPost (w : World) (n : Nat) (e : Ending) (w' : World) : Prop := e = .returned (.int .i64 n) ∧ Drew w w'
set_option maxHeartbeats 2000000 in
theorem tagged_calls15 {w : World} {A : Option Addr} {c : Nat} {l : List Int} (h : Lst w .u32 A l) (hl : l.length ≤ 1000000) : Calls Try.prog 16 #[.slice A l.length c] w (CntPost w (sumN tagN l)) := by
  have H := Lib.hid h
  clear h
  go_enter Try.func16, Try.ntmps16
  go_wp2_with fail
  go_loopw [3, 4] (fun n i wr => CntRel w tagN l n i wr) (fun _ i _ => l.length - (intOf i).toNat)
  case atStart => exact ⟨0, 0, Nat.zero_le _, rfl, rfl, rfl, Drew.refl _⟩
  case round =>
    obtain ⟨k, z, hk, rfl, rfl, hz, hd⟩ := hrel
    have hzb := sumN_take_le tagN_le l k hk
    rw [← hz] at hzb
    have HD := Lib.hid hd
    have HZ := Lib.hid hz
    clear hd hz
    by_cases hlt : k < l.length
    · obtain ⟨a, rfl, q⟩ := (Lst.drew H.out HD.out) k hlt
      have htk := sumN_take tagN hlt
      generalize l.getD k 0 = x at q htk
      rw [← HZ.out] at htk
      have HTK := Lib.hid htk
      clear htk
      by_cases h1 : 57344 ≤ x
      · by_cases h2 : x ≤ 62207
        · go_wp2_with fail
          go_roundw
          case rel => exact ⟨k + 1, z + 1, hlt, by go_num, by go_num, by rw [HTK.out]; unfold tagN tagB; simp [h1, h2], HD.out⟩
          case measure => simp [intOf]; omega
        · go_wp2_with fail
          go_roundw
          case rel => exact ⟨k + 1, z, hlt, by go_num, rfl, by rw [HTK.out]; unfold tagN tagB; simp [h1, h2], HD.out⟩
          case measure => simp [intOf]; omega
      · go_wp2_with fail
        go_roundw
        case rel => exact ⟨k + 1, z, hlt, by go_num, rfl, by rw [HTK.out]; unfold tagN tagB; simp [h1], HD.out⟩
        case measure => simp [intOf]; omega
    · obtain rfl : k = l.length := by omega
      go_wp2_with fail
      go_ret
      have := HZ.out
      rw [List.take_length] at this
      exact ⟨by rw [this]; rfl, HD.out⟩
set_option maxHeartbeats 2000000 in
theorem units_calls01 {w : World} {A : Option Addr} {c : Nat} {l : List Int} (h : Lst w .u32 A l) (hs : ∀ x ∈ l, isS x = true) (hl : l.length ≤ 1000000) : Calls Try.prog 25 #[.slice A l.length c] w (CntPost w (sumN unitN l)) := by
  have H := Lib.hid h
  have HS := Lib.hid (show ∀ k, k < l.length → isS (l.getD k 0) = true from fun k hk => by
    rw [List.getD_eq_getElem?_getD, List.getElem?_eq_getElem hk]
    exact hs _ (List.getElem_mem _))
  clear h hs
  go_enter Try.func25, Try.ntmps25
  go_wp2_with fail
  go_loopw [3, 4] (fun n i wr => CntRel w unitN l n i wr) (fun _ i _ => l.length - (intOf i).toNat)
  case atStart => exact ⟨0, 0, Nat.zero_le _, rfl, rfl, rfl, Drew.refl _⟩
  case round =>
    obtain ⟨k, z, hk, rfl, rfl, hz, hd⟩ := hrel
    have hzb := sumN_take_le (fun c => (unitN_rng c).2) l k hk
    rw [← hz] at hzb
    have HD := Lib.hid hd
    have HZ := Lib.hid hz
    clear hd hz
    by_cases hlt : k < l.length
    · obtain ⟨a, rfl, q⟩ := (Lst.drew H.out HD.out) k hlt
      have htk := sumN_take unitN hlt
      have his := HS.out k hlt
      generalize l.getD k 0 = x at q htk his
      have hisx := ris_calls x
      rw [his] at hisx
      have HIS := Lib.hid hisx
      rw [← HZ.out] at htk
      have HTK := Lib.hid htk
      clear htk his hisx
      by_cases h1 : 65535 < x
      · go_wp2_with (go_at_call 20; refine (HIS.out _).mono ?_; rintro e w1 ⟨rfl, rfl⟩)
        go_roundw
        case rel => exact ⟨k + 1, z + 2, hlt, by go_num, by go_num, by rw [HTK.out]; unfold unitN; rw [if_neg (by omega)], HD.out⟩
        case measure => simp [intOf]; omega
      · go_wp2_with (go_at_call 20; refine (HIS.out _).mono ?_; rintro e w1 ⟨rfl, rfl⟩)
        go_roundw
        case rel => exact ⟨k + 1, z + 1, hlt, by go_num, by go_num, by rw [HTK.out]; unfold unitN; rw [if_pos (by omega)], HD.out⟩
        case measure => simp [intOf]; omega
    · obtain rfl : k = l.length := by omega
      go_wp2_with fail
      go_ret
      have := HZ.out
      rw [List.take_length] at this
      exact ⟨by rw [this]; rfl, HD.out⟩
theorem units_calls15 {w : World} {A : Option Addr} {c : Nat} {l : List Int} (h : Lst w .u32 A l) (hs : ∀ x ∈ l, isS x = true) (hl : l.length ≤ 1000000) : Calls Try.prog 15 #[.slice A l.length c] w (CntPost w (sumN unitN l)) := by
  have HU := Lib.hid (units_calls01 (c := c) h hs hl)
  clear h hs
  go_enter Try.func15, Try.ntmps15
  go_wp2_with (go_at_call 25; refine HU.out.mono ?_; rintro e w1 ⟨rfl, hd⟩; have HD := Lib.hid hd; clear hd)
  go_ret
  exact ⟨rfl, HD.out⟩
end Go.Proofs.Ytkfiahildoljfaa.Enc
