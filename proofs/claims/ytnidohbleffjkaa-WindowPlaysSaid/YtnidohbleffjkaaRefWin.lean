/- The reference's windows: made, searched, touched. -/
import Derived.Test.YtnidohbleffjkaaRef13
import Derived.WalkLawsBesides
namespace Go.Proofs.Ytnidohbleffjkaa.Win
open Go.RowKit
set_option linter.unusedVariables false
set_option linter.unusedSimpArgs false
theorem info_int : (Try.prog.info? 3).map (fun i => (i.zero, i.size, i.bytes)) = some (some (.int .i64 0), 1, 8) := by kernel_rfl
def ints (xs : List Int) : List Value := xs.map fun x => .int .i64 x
/-- The reference's windows, in memory: the struct, its offsets, its order. -/
structure RefAt (w : World) (g go gu cu : Nat) (o u : List Int) : Prop where
  blk : w.heap[g]? = some (.cells #[.slice (some ⟨go, 0, none⟩) 8 8, .slice (some ⟨gu, 0, none⟩) 8 cu] 58 (0, 0))
  offs : RowAt w go .u32 22 o
  used : ∃ cells, w.heap[gu]? = some (.cells cells 3 (0, 0)) ∧ cells.toList.take 8 = ints u
  lo : o.length = 8
  lu : u.length = 8
  hc : 8 ≤ cu
theorem RefAt.f0 {w : World} {g go gu cu : Nat} {o u : List Int} (h : RefAt w g go gu cu o u) : w.cell? ⟨g, 0, none⟩ = some (.slice (some ⟨go, 0, none⟩) 8 8) := by rw [cell_of h.blk]; rfl
theorem RefAt.f1 {w : World} {g go gu cu : Nat} {o u : List Int} (h : RefAt w g go gu cu o u) : w.cell? ⟨g, 1, none⟩ = some (.slice (some ⟨gu, 0, none⟩) 8 cu) := by rw [cell_of h.blk]; rfl
theorem RefAt.off {w : World} {g go gu cu : Nat} {o u : List Int} (h : RefAt w g go gu cu o u) (j : Nat) (hj : j < 8) : w.cell? ⟨go, j, none⟩ = some (.int .u32 (o.getD j 0)) := h.offs.cell j (by rw [h.lo]; exact hj)
theorem RefAt.use {w : World} {g go gu cu : Nat} {o u : List Int} (h : RefAt w g go gu cu o u) (j : Nat) (hj : j < 8) : w.cell? ⟨gu, j, none⟩ = some (.int .i64 (u.getD j 0)) := by
  obtain ⟨cells, hb, ht⟩ := h.used
  rw [cell_of hb]
  have h1 : (cells.toList.take 8)[j]? = (ints u)[j]? := by rw [ht]
  rw [List.getElem?_take, if_pos hj] at h1
  rw [← Array.getElem?_toList, h1, ints, List.getElem?_map, List.getD_eq_getElem?_getD, List.getElem?_eq_getElem (show j < u.length by rw [h.lu]; exact hj)]
  rfl
theorem RefAt.keep {w w' : World} {g go gu cu : Nat} {o u : List Int} (h : RefAt w g go gu cu o u) (h0 : w'.heap[g]? = w.heap[g]?) (h1 : w'.heap[go]? = w.heap[go]?) (h2 : w'.heap[gu]? = w.heap[gu]?) : RefAt w' g go gu cu o u := by
  obtain ⟨cells, hb, ht⟩ := h.used
  exact ⟨h0.trans h.blk, h.offs.keep h1, ⟨cells, h2.trans hb, ht⟩, h.lo, h.lu, h.hc⟩
theorem RefAt.lt {w : World} {g go gu cu : Nat} {o u : List Int} (h : RefAt w g go gu cu o u) : g < w.heap.size ∧ go < w.heap.size ∧ gu < w.heap.size := by
  obtain ⟨cells, hb, ht⟩ := h.used
  exact ⟨(Array.getElem?_eq_some_iff.1 h.blk).1, h.offs.lt, (Array.getElem?_eq_some_iff.1 hb).1⟩
theorem RefAt.ne {w : World} {g go gu cu : Nat} {o u : List Int} (h : RefAt w g go gu cu o u) : g ≠ go ∧ g ≠ gu ∧ go ≠ gu := by
  obtain ⟨cells, hb, ht⟩ := h.used
  refine ⟨?_, ?_, ?_⟩
  · rintro rfl
    have := h.blk.symm.trans h.offs.blk
    simp at this
  · rintro rfl
    have := h.blk.symm.trans hb
    simp at this
  · rintro rfl
    have := h.offs.blk.symm.trans hb
    simp at this
theorem rnew_calls (w : World) : Calls Try.prog 24 #[] w fun e w' => e = .returned (.pointer (some ⟨w.heap.size + 2, 0, none⟩)) ∧ RefAt w' (w.heap.size + 2) w.heap.size (w.heap.size + 1) 8 firsts used0 ∧ Below w.heap.size w w' ∧ w'.heap.size = w.heap.size + 3 := by
  have hf : Calls Try.prog 21 #[] w fun e w' => e = .returned (.slice (some ⟨w.heap.size, 0, none⟩) 8 8) ∧ w' = w.alloc (.cells (firsts.map fun x => Value.int .u32 x).toArray 22) := by
    go_enter Try.func21, Try.ntmps21
    go_wp2
    go_ret
    exact ⟨rfl, rfl⟩
  go_enter Try.func24, Try.ntmps24
  go_wp2_with (go_at_call 21; refine hf.mono ?_; rintro e w1 ⟨rfl, rfl⟩)
  go_ret
  refine ⟨rfl, ⟨?_, ⟨?_⟩, ⟨#[.int .i64 7, .int .i64 6, .int .i64 5, .int .i64 4, .int .i64 3, .int .i64 2, .int .i64 1, .int .i64 0], ?_, ?_⟩, rfl, rfl, Nat.le_refl _⟩, ?_, by simp⟩
  · have := heap_alloc_new ((w.alloc (.cells (firsts.map fun x => Value.int .u32 x).toArray 22)).alloc (.cells #[.int .i64 7, .int .i64 6, .int .i64 5, .int .i64 4, .int .i64 3, .int .i64 2, .int .i64 1, .int .i64 0] 3)) (.cells #[.slice (some ⟨w.heap.size, 0, none⟩) 8 8, .slice (some ⟨w.heap.size + 1, 0, none⟩) 8 8] 58)
    simpa using this
  · rw [Below.heap_alloc _ _ _ (by simp; omega), Below.heap_alloc _ _ _ (by simp), heap_alloc_new]
  · have := heap_alloc_new (w.alloc (.cells (firsts.map fun x => Value.int .u32 x).toArray 22)) (.cells #[.int .i64 7, .int .i64 6, .int .i64 5, .int .i64 4, .int .i64 3, .int .i64 2, .int .i64 1, .int .i64 0] 3)
    rw [Below.heap_alloc _ _ _ (by simp)]
    simpa using this
  · rfl
  · exact (((Below.refl _ _).alloc (Nat.le_refl _) _).alloc (by simp) _).alloc (by simp; omega) _
def rFindFrom (c : Int) : Nat → List Int → Int
  | _, [] => -1
  | n, x :: l => if hld x c = true then (n : Int) else rFindFrom c (n + 1) l
def rFind (o : List Int) (c : Int) : Int := rFindFrom c 0 o
theorem rfind_step (c : Int) (o : List Int) (k : Nat) (h : k < o.length) : rFindFrom c k (o.drop k) = if hld (o.getD k 0) c = true then (k : Int) else rFindFrom c (k + 1) (o.drop (k + 1)) := by
  rw [List.drop_eq_getElem_cons h]
  simp only [rFindFrom]
  rw [List.getD_eq_getElem?_getD, List.getElem?_eq_getElem h]
  rfl
set_option maxHeartbeats 1000000 in
theorem rfind_calls (g go gu cu : Nat) (o u : List Int) (c : Int) (w : World) (h : RefAt w g go gu cu o u) (hr : Rng o) (h2 : 0 ≤ c) (h3 : c ≤ 4294967295) : Calls Try.prog 28 #[.pointer (some ⟨g, 0, none⟩), .int .u32 c] w fun e w' => e = .returned (.int .i64 (rFind o c)) ∧ w = w' := by
  have hf0 := h.f0
  have hlen := h.lo
  have HO := Lib.hid h.off
  have HL := Lib.hid hlen
  have HR := Lib.hid hr
  clear h hr hlen
  go_enter Try.func28, Try.ntmps28
  go_wp2_with fail
  go_loop [5] (fun i => ∃ k : Nat, k ≤ 8 ∧ i = .int .i64 k ∧ Hid (rFind o c = rFindFrom c k (o.drop k))) (fun i => 8 - (intOf i).toNat)
  case atStart => exact ⟨0, by decide, rfl, Lib.hid rfl⟩
  case round =>
    obtain ⟨k, hk, rfl, HF⟩ := hrel
    by_cases hlt : k < 8
    · have hcell := HO.out k hlt
      have hst := rfind_step c o k (by rw [HL.out]; exact hlt)
      have hrg := HR.out (o.getD k 0) (by rw [List.getD_eq_getElem?_getD, List.getElem?_eq_getElem (show k < o.length by rw [HL.out]; exact hlt)]; exact List.getElem_mem _)
      rw [← HF.out] at hst
      generalize (o.getD k 0 : Int) = x at hcell hst hrg
      obtain ⟨hr0, hr1⟩ := hrg
      have hx := rholds_calls x c w hr0 hr1 h2 h3
      by_cases hb : hld x c = true
      · rw [if_pos hb] at hst
        have HS := Lib.hid hst
        rw [hb] at hx
        clear hst hb
        go_wp2_with (go_at_call 18; refine hx.mono ?_; rintro e w1 ⟨rfl, rfl⟩)
        go_ret
        exact ⟨by rw [HS.out]; rfl, rfl⟩
      · rw [if_neg hb] at hst
        have hb' : hld x c = false := by simpa using hb
        have HS := Lib.hid hst
        rw [hb'] at hx
        clear hst hb hb'
        go_wp2_with (go_at_call 18; refine hx.mono ?_; rintro e w1 ⟨rfl, rfl⟩)
        go_round
        case rel => exact ⟨k + 1, by omega, by go_num, HS⟩
        case measure => simp [intOf]; omega
    · obtain rfl : k = 8 := by omega
      have hf := HF.out
      rw [List.drop_of_length_le (by rw [HL.out]; exact Nat.le_refl _)] at hf
      have HS := Lib.hid hf
      clear hf HF
      go_wp2
      go_ret
      exact ⟨by rw [HS.out]; rfl, rfl⟩
theorem own_cells {w : World} {base n g c : Nat} {e : TypeId} {xs : List Value} (h : w.ownsRow base e 1 (.slice (some ⟨g, 0, none⟩) n c) n xs) : ∃ cells, w.heap[g]? = some (.cells cells e (0, 0)) ∧ cells.toList.take n = xs ∧ n ≤ c ∧ base ≤ g := by
  rcases h.2 with ⟨h1, _⟩ | ⟨g', cap, cur, h1, h2, h3, h4, h5, h6, h7⟩
  · cases h1
  · injection h1 with h1 h8 h9
    injection h1 with h1
    injection h1 with h1
    subst h1
    subst h9
    exact ⟨cur, h3, by simpa using h7, h4, h2⟩
def rTouch (u : List Int) (n : Int) : List Int := if (u.filter fun y => y != n).length = 7 then (u.filter fun y => y != n) ++ [n] else u
theorem own_base {w : World} {base : Nat} {e : TypeId} {size n : Nat} {v : Value} {xs : List Value} (h : w.ownsRow base e size v n xs) (k : Nat) (hk : v.ownBlock = some k) : base ≤ k := (h.lt k hk).1
theorem own_slice {w : World} {base n : Nat} {e : TypeId} {size : Nat} {v : Value} {xs : List Value} (h : w.ownsRow base e size v n xs) : ∃ A c, v = .slice A n c := by
  rcases h.2 with ⟨rfl, rfl⟩ | ⟨g, cap, cur, rfl, _⟩
  · exact ⟨none, 0, rfl⟩
  · exact ⟨_, _, rfl⟩
def TouchRel (w : World) (u : List Int) (n : Int) (v i : Value) (wr : World) : Prop :=
  ∃ k : Nat, k ≤ 8 ∧ i = .int .i64 k ∧ wr.ownsRow w.heap.size 3 1 v ((u.take k).filter fun y => y != n).length (ints ((u.take k).filter fun y => y != n)) ∧ Below w.heap.size w wr
set_option maxHeartbeats 1000000 in
theorem rtouch_calls (g go gu cu : Nat) (o u : List Int) (n : Int) (w : World) (h : RefAt w g go gu cu o u) : Calls Try.prog 26 #[.pointer (some ⟨g, 0, none⟩), .int .i64 n] w fun e w' => e = .returned (.tuple #[]) ∧ Chg (· = g) w w' ∧ ∃ gu' cu', RefAt w' g go gu' cu' o (rTouch u n) ∧ (gu' = gu ∨ w.heap.size ≤ gu') := by
  have hf1 := h.f1
  have hlu := h.lu
  obtain ⟨hg, hgo, hgu⟩ := h.lt
  obtain ⟨i0, hi, hz0, hz1, hz2⟩ := info_parts info_int
  have HU := Lib.hid h.use
  have HL := Lib.hid hlu
  have HH := Lib.hid h
  have HF1 := Lib.hid hf1
  have HN : Hid (i0.zero = some (.int .i64 0) ∧ i0.size = 1 ∧ i0.bytes = 8 ∧ Try.prog.info? 3 = some i0) := ⟨hz0, hz1, hz2, hi⟩
  clear h hlu hf1 hz0 hz1 hz2 hi
  go_enter Try.func26, Try.ntmps26
  go_wp2_with fail
  go_loopw [4, 5] (fun v i wr => TouchRel w u n v i wr) (fun _ i _ => 8 - (intOf i).toNat)
  case atStart =>
    refine ⟨0, by decide, rfl, ?_, (Below.refl _ _).alloc (Nat.le_refl _) _⟩
    have := World.ownsRow_made (base := w.heap.size) (e := 3) (size := 1) w #[] 0 (Nat.le_refl _) (by decide) rfl
    simpa [ints] using this
  case round =>
    obtain ⟨k, hk, rfl, hown, hbel⟩ := hrel
    have HB := Lib.hid hbel
    have hc1 : wr.cell? ⟨g, 1, none⟩ = some (.slice (some ⟨gu, 0, none⟩) 8 cu) := (HB.out.cell (p := ⟨g, 1, none⟩) hg).trans HF1.out
    have hsz := HB.out.size
    by_cases hlt : k < 8
    · have hcx : wr.cell? ⟨gu, k, none⟩ = some (.int .i64 (u.getD k 0)) := (HB.out.cell (p := ⟨gu, k, none⟩) hgu).trans (HU.out k hlt)
      have htk : u.take (k + 1) = u.take k ++ [u.getD k 0] := by
        rw [List.take_succ_eq_append_getElem (by rw [HL.out]; exact hlt), List.getD_eq_getElem?_getD, List.getElem?_eq_getElem (by rw [HL.out]; exact hlt)]; rfl
      have HT := Lib.hid htk
      have HO := Lib.hid hown
      clear hbel hown htk
      generalize (u.getD k 0 : Int) = x at hcx HT
      by_cases hx : x = n
      · have hb : (x != n) = false := by simp [hx]
        have HX := Lib.hid hx
        clear hx
        go_wp2_with fail
        go_roundw
        case rel =>
          refine ⟨k + 1, by omega, by go_num, ?_, HB.out⟩
          rw [HT.out, List.filter_append]
          have : [x].filter (fun y => y != n) = [] := by simp [HX.out]
          rw [this, List.append_nil]
          exact HO.out
        case measure => simp [intOf]; omega
      · have hb : (x != n) = true := by simp [hx]
        have HX := Lib.hid hx
        clear hx
        have hll : ((u.take k).filter (fun y => y != n)).length ≤ k := Nat.le_trans (List.length_filter_le _ _) (List.length_take_le _ _)
        go_wp2_with (at_builtin; refine wpList_append_lies _ rfl (.tmp 20) (.tmp 28) 56 rfl w.heap.size 3 i0 (.int .i64 0) 1 8 Try.underlying56 HN.out.2.2.2 HN.out.1 HN.out.2.1 HN.out.2.2.1 rfl (by decide) _ _ _ rfl (HO.out.alloc _) ⟨wr.heap.size, 0, none⟩ 1 1 [.int .i64 x] rfl rfl ?c1 ?c2 (by decide) ?c3 ?c4 ?c5 _ rfl ?_; (case c1 => exact World.news_of_block (heap_alloc_new wr _)); (case c2 => intro q hq; simp at hq; subst hq; rfl); (case c3 => unfold maxLen; omega); (case c4 => omega); (case c5 => simp; omega); intro g1 cap1 w1 hown1 hgrow1 hat1 hlt1; have HO1 := Lib.hid hown1; have HG1 := Lib.hid hgrow1; clear hown1 hgrow1 hat1 hlt1)
        go_roundw
        case rel =>
          refine ⟨k + 1, by omega, by go_num, ?_, (HB.out.alloc hsz (.cells #[.int .i64 x] 3)).grown HG1.out (by simp; omega) (fun q hq => own_base (HO.out.alloc (.cells #[.int .i64 x] 3)) q hq)⟩
          · rw [HT.out, List.filter_append]
            have : [x].filter (fun y => y != n) = [x] := by simp [HX.out]
            rw [this]
            have := HO1.out
            simpa [ints] using this
        case measure => simp [intOf]; omega
    · obtain rfl : k = 8 := by omega
      have ht8 : u.take 8 = u := List.take_of_length_le (by rw [HL.out]; exact Nat.le_refl _)
      rw [ht8] at hown
      have hll : (u.filter (fun y => y != n)).length ≤ 8 := Nat.le_trans (List.length_filter_le _ _) (by rw [HL.out]; exact Nat.le_refl _)
      obtain ⟨A, c, rfl⟩ := own_slice hown
      have HO := Lib.hid hown
      clear hbel hown
      by_cases h7 : (u.filter (fun y => y != n)).length = 7
      · have hb : (((u.filter (fun y => y != n)).length : Int) == 7) = true := by rw [h7]; rfl
        have H7 := Lib.hid h7
        have hfz : wr.frozen? ⟨g, 1, none⟩ = false := (HB.out.frozen (p := ⟨g, 1, none⟩) hg).trans (frozen_of HH.out.blk 1)
        clear h7
        go_wp2_with (at_builtin; refine wpList_append_lies _ rfl (.tmp 34) (.tmp 36) 56 rfl w.heap.size 3 i0 (.int .i64 0) 1 8 Try.underlying56 HN.out.2.2.2 HN.out.1 HN.out.2.1 HN.out.2.2.1 rfl (by decide) _ _ _ rfl (HO.out.alloc _) ⟨wr.heap.size, 0, none⟩ 1 1 [.int .i64 n] rfl rfl ?d1 ?d2 (by decide) ?d3 ?d4 ?d5 _ rfl ?_; (case d1 => exact World.news_of_block (heap_alloc_new wr _)); (case d2 => intro q hq; simp at hq; subst hq; rfl); (case d3 => unfold maxLen; omega); (case d4 => omega); (case d5 => simp; omega); intro g1 cap1 w1 hown1 hgrow1 hat1 hlt1; have HO1 := Lib.hid hown1; have hB1 := (HB.out.alloc hsz (.cells #[.int .i64 n] 3)).grown hgrow1 (by simp; omega) (fun q hq => own_base (HO.out.alloc (.cells #[.int .i64 n] 3)) q hq); have hfz1 : w1.frozen? ⟨g, 1, none⟩ = false := (hB1.frozen (p := ⟨g, 1, none⟩) hg).trans (frozen_of HH.out.blk 1); have hcs1 : w1.cell? ⟨g, 1, none⟩ = some (.slice (some ⟨gu, 0, none⟩) 8 cu) := (hB1.cell (p := ⟨g, 1, none⟩) hg).trans HF1.out; have HB1 := Lib.hid hB1; clear hown1 hgrow1 hat1 hlt1 hB1)
        go_end0
        refine ⟨rfl, ?_, ?_⟩
        · exact (Chg.of_below HB1.out).trans (Chg.set (S := (· = g)) _ rfl 1 _)
        · obtain ⟨cells, hbc, hbt, hbl, hbb⟩ := own_cells HO1.out
          have hn := HH.out.ne
          have hne : g1 ≠ g := by omega
          refine ⟨g1, cap1, ⟨?_, ?_, ⟨cells, ?_, ?_⟩, HH.out.lo, ?_, ?_⟩, .inr hbb⟩
          · rw [heap_setCell_same w1 g 1 _ _ _ ((HB1.out.block _ hg).trans HH.out.blk), H7.out]
            rfl
          · exact HH.out.offs.keep ((Below.heap_setCell w1 _ _ go (fun e => hn.1 e.symm)).trans (HB1.out.block _ hgo))
          · exact (Below.heap_setCell w1 _ _ g1 hne).trans hbc
          · unfold rTouch
            rw [if_pos H7.out]
            rw [H7.out] at hbt
            simpa [ints] using hbt
          · unfold rTouch
            rw [if_pos H7.out, List.length_append, H7.out]; rfl
          · rw [H7.out] at hbl
            exact hbl
      · have hb : (((u.filter (fun y => y != n)).length : Int) == 7) = false := by rw [beq_eq_false_iff_ne]; omega
        go_wp2_with fail
        go_end0
        refine ⟨rfl, Chg.of_below HB.out, gu, cu, ?_, .inl rfl⟩
        unfold rTouch
        rw [if_neg h7]
        exact HH.out.keep (HB.out.block _ hg) (HB.out.block _ hgo) (HB.out.block _ hgu)
end Go.Proofs.Ytnidohbleffjkaa.Win
