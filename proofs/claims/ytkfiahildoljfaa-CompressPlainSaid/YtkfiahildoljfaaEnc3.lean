/- The compressor: bytes given; a scalar in a window, by itself, by units. -/
import Derived.Test.YtkfiahildoljfaaEnc2
import Derived.Deep.CutBlock
import Derived.Deep.DeepCutAuto
namespace Go.Proofs.Ytkfiahildoljfaa.Enc
open Go.RowKit Go.Proofs.Ytkfiahildoljfaa.Win Go.Proofs.Ytkfiahildoljfaa.Stp Go.Proofs.YtkfiahildoljfaaW.PrintMore
set_option linter.unusedVariables false
set_option linter.unusedSimpArgs false
attribute [local go_sem] max2_int min2_int max_two min_two
theorem str_extract (l : List Int) (a b : Nat) : (strOfNums l).extract a b = strOfNums ((l.drop a).take (b - a)) := by
  have : ((strOfNums l).extract a b).data = (strOfNums ((l.drop a).take (b - a))).data := by
    rw [ByteArray.data_extract]
    simp [strOfNums]
  cases h1 : ((strOfNums l).extract a b)
  cases h2 : strOfNums ((l.drop a).take (b - a))
  rw [h1, h2] at this
  simp only at this
  rw [this]
def clipN (room : Int) (n : Nat) : Nat := if room < 0 then 0 else if room < n then room.toNat else n
section
variable {w : World} {g gw : Nat} {b : B4} {l : List Int} {m : E}
theorem kept_calls (h : EncAt w g gw b l m) (hl : l.length ≤ 1000000) : Calls Try.prog 27 #[.pointer (some ⟨g, 4, none⟩)] w fun e w' => e = .returned (.int .i64 l.length) ∧ w = w' := by
  have h4 := h.c4
  have s1 := str_size l
  generalize strOfNums l = A at *
  clear h
  rw [← s1] at hl ⊢
  clear s1
  go_enter Try.func27, Try.ntmps27
  go_wp2
  go_ret
  exact ⟨rfl, rfl⟩
theorem give_calls (room : Int) (h : EncAt w g gw b l m) (hl : l.length ≤ 1000000) : Calls Try.prog 26 #[.pointer (some ⟨g, 4, none⟩), .int .i64 room] w fun e w' => e = .returned (.string (strOfNums (l.take (clipN room l.length)))) ∧ w' = w.setCell ⟨g, 4, none⟩ (.string (strOfNums (l.drop (clipN room l.length)))) := by
  have h4 := h.c4
  have f4 := h.fz 4
  have s1 := str_size l
  obtain ⟨n, hn⟩ : ∃ n, n = clipN room l.length := ⟨_, rfl⟩
  have e1 := str_extract l 0 n
  have e2 := str_extract l n l.length
  rw [← s1] at e2
  have t1 : (l.drop 0).take (n - 0) = l.take n := by simp
  have t2 : (l.drop n).take ((strOfNums l).size - n) = l.drop n := by rw [s1, List.take_of_length_le (by rw [List.length_drop]; exact Nat.le_refl _)]
  rw [t1] at e1
  rw [t2] at e2
  have hnn : (n : Int) = if (if room < 0 then 0 else room) < (strOfNums l).size then (if room < 0 then 0 else room) else (strOfNums l).size := by
    rw [hn, s1]
    unfold clipN
    repeat' (first | omega | split)
  have hle : n ≤ (strOfNums l).size := by rw [s1, hn]; unfold clipN; repeat' (first | omega | split)
  rw [← hn]
  have hsz : (strOfNums l).size ≤ 1000000 := by omega
  generalize strOfNums l = A at *
  obtain ⟨B1, hB1⟩ : ∃ B, B = strOfNums (l.take n) := ⟨_, rfl⟩
  obtain ⟨B2, hB2⟩ : ∃ B, B = strOfNums (l.drop n) := ⟨_, rfl⟩
  rw [← hB1] at e1 ⊢
  rw [← hB2] at e2 ⊢
  have HN := Lib.hid hnn
  clear h t1 t2 s1 hl hn hB1 hB2 hnn
  go_enter Try.func26, Try.ntmps26
  go_upto_region 1 with fail
  go_cut [5] (fun v wx => v = .int .i64 n ∧ w = wx)
  case first =>
    go_wp2_with fail
    all_goals
      go_meet
      refine ⟨?_, rfl⟩
      rw [HN.out]
      congr 1
      repeat' (first | omega | split)
  case rest =>
    obtain ⟨rfl, rfl⟩ := hcut
    go_wp2_with fail
    go_ret
    exact ⟨rfl, rfl⟩
theorem held_calls (n c : Int) (h : EncAt w g gw b l m) (h0 : 0 ≤ wAt m.o n) (h1 : wAt m.o n ≤ c) (h2 : c - wAt m.o n < 128) (h3 : c ≤ 1114111) :
    Calls Try.prog 58 #[.pointer (some ⟨g, 0, none⟩), .int .i64 n, .int .u32 c] w fun e w' => e = .returned (.int .u8 (128 + c - wAt m.o n)) ∧ w = w' := by
  have h6 := h.c6
  have HA := Lib.hid (at_calls gw m.o m.u n w h.win)
  clear h
  generalize wAt m.o n = x at *
  go_enter Try.func58, Try.ntmps58
  go_wp2_with (go_at_call 57; refine HA.out.mono ?_; rintro e w1 ⟨rfl, rfl⟩)
  go_ret
  exact ⟨rfl, rfl⟩
def UsePost (w : World) (g gw : Nat) (b : B4) (l : List Int) (m : E) (n : Int) (e : Ending) (w' : World) : Prop := e = .returned (.tuple #[]) ∧ EncAt w' g gw b l { m with act := n, u := wTouch m.u n } ∧ Chg (EFS g gw) w w'
theorem use_calls (n : Int) (h : EncAt w g gw b l m) (hm : 0 ≤ n → n < 8 → n ∈ m.u) : Calls Try.prog 46 #[.pointer (some ⟨g, 0, none⟩), .int .i64 n] w (UsePost w g gw b l m n) := by
  have h8 := h.c8
  have f8 := h.fz 8
  have hs := h.set 8 (.int .i64 n) (b' := b) (l' := l) (m' := { m with act := n }) rfl rfl rfl
  have h6 := hs.c6
  have HT := Lib.hid (touch_calls gw m.o m.u n _ hs.win hm)
  have HS := Lib.hid hs
  clear h hs
  go_enter Try.func46, Try.ntmps46
  go_wp2_with fail
  refine HT.out.mono ?_
  rintro e w1 ⟨rfl, hw, hc⟩
  have HW := Lib.hid hw
  have HC := Lib.hid hc
  clear hw hc
  go_wp2_with fail
  go_end0
  exact ⟨rfl, HS.out.wins HW.out HC.out, (efs_g 8 _).trans (efs_gw HC.out)⟩
end
theorem off_rng {x : Int} (h0 : 0 ≤ x) (h1 : x ≤ 255) : 0 ≤ (wOffset x).1 ∧ (wOffset x).1 ≤ 65408 := by
  have key : ∀ b : Fin 256, 0 ≤ (wOffset (b.val : Int)).1 ∧ (wOffset (b.val : Int)).1 ≤ 65408 := by decide +kernel
  have := key ⟨x.toNat, by omega⟩
  simp only [Int.toNat_of_nonneg h0] at this
  exact this
theorem own_rng {c : Int} (h0 : 0 ≤ c) (h1 : c ≤ 4294967295) : 0 ≤ (ownC c).1 ∧ (ownC c).1 ≤ 4294967295 := by
  unfold ownC
  split
  · simp only; omega
  · have hr := idx_rng h0 h1
    have := off_rng hr.1 hr.2
    simp only; omega
theorem twins_calls (c d : Int) (w : World) (h0 : 0 ≤ c) (h1 : c ≤ 4294967295) (h2 : 0 ≤ d) (h3 : d ≤ 4294967295) : Calls Try.prog 47 #[.int .u32 c, .int .u32 d] w fun e w' => e = .returned (.bool (twinsB c d)) ∧ Below w.heap.size w w' := by
  have HO := Lib.hid (own_calls c w h0 h1)
  have hrg : 0 ≤ (ownC c).1 ∧ (ownC c).1 ≤ 4294967295 := own_rng h0 h1
  unfold OwnPost at HO
  unfold twinsB
  generalize ownC c = r at HO hrg ⊢
  obtain ⟨o, ok⟩ := r
  obtain ⟨r1, r2⟩ := hrg
  have HH := Lib.hid (fun w => holds_calls o d w r1 r2 h2 h3)
  cases ok
  · go_enter Try.func47, Try.ntmps47
    go_wp2_with fail
    refine HO.out.mono ?_
    rintro e w1 ⟨rfl, hb⟩
    have HB := Lib.hid hb
    clear hb
    go_wp2_with fail
    go_ret
    exact ⟨rfl, HB.out⟩
  · cases hd : (d != 2147483648)
    · go_enter Try.func47, Try.ntmps47
      go_wp2_with fail
      refine HO.out.mono ?_
      rintro e w1 ⟨rfl, hb⟩
      have HB := Lib.hid hb
      clear hb
      go_wp2_with fail
      go_ret
      exact ⟨rfl, HB.out⟩
    · go_enter Try.func47, Try.ntmps47
      go_wp2_with fail
      refine HO.out.mono ?_
      rintro e w1 ⟨rfl, hb⟩
      have HB := Lib.hid hb
      clear hb
      go_wp2_with fail
      refine (HH.out _).mono ?_
      rintro e w2 ⟨rfl, rfl⟩
      go_wp2_with fail
      go_ret
      exact ⟨rfl, HB.out⟩
end Go.Proofs.Ytkfiahildoljfaa.Enc
