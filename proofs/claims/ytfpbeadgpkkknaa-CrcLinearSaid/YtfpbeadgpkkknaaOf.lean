/- The sum of parts, one behind the other. -/
import Derived.Test.YtfpbeadgpkkknaaAdd
namespace Go.Proofs.Ytfpbeadgpkkknaa.Crc
open Go.RowKit Go.Proofs.YtfpbeadgpkkknaaW.PrintWords
set_option linter.unusedVariables false
/-- The sum behind these parts. -/
def sumB (v : BitVec 32) (l : List ByteArray) : BitVec 32 := l.foldl addB v
theorem row_at {w : World} {A : Option Addr} {l : List ByteArray} (h : Kd.C Kd.string w A l.length l) {i : Nat} (hi : i < l.length) : ∃ ad, A = some ad ∧ w.cell? (ad.add i) = some (.string l[i]) := by
  obtain ⟨ad, e, hc⟩ := h.2.2 (by omega)
  obtain ⟨c, _, hk, hcell⟩ := hc i l[i] (List.getElem?_eq_getElem hi)
  have hk' : c = [.string l[i]] := hk
  subst hk'
  exact ⟨ad, e, by have := hcell 0 _ rfl; simpa [Kd.string, Kd.scalar] using this⟩
theorem now_calls (g : Nat) (x : Int) (w : World) (hc : w.cell? ⟨g, 0, none⟩ = some (.int .u32 x)) :
    Calls Try.prog 13 #[.pointer (some ⟨g, 0, none⟩)] w fun e w' => e = .returned (.int .u32 x) ∧ w = w' := by
  go_enter Try.func13, Try.ntmps13
  go_wp2
  go_ret
  exact ⟨rfl, rfl⟩
theorem sum_step (l : List ByteArray) (k : Nat) (h : k < l.length) : sumB 0#32 (l.take (k + 1)) = addB (sumB 0#32 (l.take k)) l[k] := by
  unfold sumB
  rw [List.take_add_one, List.getElem?_eq_getElem h, Option.toList_some, List.foldl_append]
  rfl
def OfRel (w : World) (l : List ByteArray) (i : Value) (wr : World) : Prop := ∃ k : Nat, k ≤ l.length ∧ i = .int .i64 k ∧ Below w.heap.size w wr ∧ w.heap.size < wr.heap.size ∧ wr.cell? ⟨w.heap.size, 0, none⟩ = some (.int .u32 (n32 (sumB 0#32 (l.take k)))) ∧ wr.frozen? ⟨w.heap.size, 0, none⟩ = false
set_option maxHeartbeats 1000000 in
theorem of_calls (A : Option Addr) (c : Nat) (l : List ByteArray) (w : World) (hl : l.length ≤ c) (hn : l.length ≤ 9223372036854775807) (hr : Kd.C Kd.string w A l.length l) (hs : ∀ s ∈ l, s.size ≤ maxLen) :
    Calls Try.prog 10 #[.slice A l.length c] w fun e w' => e = .returned (.int .u32 (n32 (sumB 0#32 l))) ∧ Below w.heap.size w w' := by
  have HR := Aside0.mk hr
  have HS := Aside0.mk hs
  clear hr hs
  go_enter Try.func10, Try.ntmps10
  go_wp2_with fail
  go_loopw [8] (fun i wr => OfRel w l i wr) (fun i _ => l.length - (intOf i).toNat)
  case atStart => exact ⟨0, Nat.zero_le _, rfl, (Below.refl _ _).alloc (Nat.le_refl _) _, by simp, by simp [sumB, n32], by simp⟩
  case round =>
    obtain ⟨k, hk, rfl, hB, hz, hc, hf⟩ := hrel
    by_cases hlt : k < l.length
    · obtain ⟨ad, rfl, hcell⟩ := row_at HR.out hlt
      have hcell2 := pw_cell_below hB hcell
      go_wp2_with fail
      refine (add_calls _ _ _ _ (HS.out _ (List.getElem_mem hlt)) hc hf).mono ?_
      rintro e w2 ⟨rfl, rfl⟩
      go_wp2_with fail
      go_roundw
      case rel => exact ⟨k + 1, by omega, by go_num, hB.setCell (by simp) _, by simpa using hz, by rw [sum_step l k hlt]; exact World.cell?_setCell_same _ _ _ hc, by simpa using hf⟩
      case measure => simp [intOf]; omega
    · obtain rfl : k = l.length := by omega
      go_wp2_with fail
      refine (now_calls _ _ _ hc).mono ?_
      rintro e w2 ⟨rfl, rfl⟩
      go_wp2_with fail
      go_ret
      exact ⟨rfl, hB⟩
end Go.Proofs.Ytfpbeadgpkkknaa.Crc
