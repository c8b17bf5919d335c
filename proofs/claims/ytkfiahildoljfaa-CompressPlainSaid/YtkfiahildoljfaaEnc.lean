/- The compressor in memory; bytes kept; what it asks of scalars. -/
import Derived.Test.YtkfiahildoljfaaStep
import Derived.Test.YtkfiahildoljfaaWin3
import Derived.Test.YtkfiahildoljfaaWin5
import Derived.Laws.BytesArg
import Derived.StillTailTactics
import Derived.Deep.RegionWith
namespace Go.Proofs.Ytkfiahildoljfaa.Enc
open Go.RowKit Go.Proofs.Ytkfiahildoljfaa.Win Go.Proofs.Ytkfiahildoljfaa.Stp
set_option linter.unusedVariables false
set_option linter.unusedSimpArgs false
/-- Where the compressor stands. -/
structure E where
  o : List Int
  u : List Int
  plain : Bool
  uni : Bool
  act : Int
  beh : Bool
  wt : Int
def encCells (b : B4) (l : List Int) (gw : Nat) (m : E) : Array Value :=
  #[.int .i64 b.at_, .int .i64 b.err, .int .i64 b.pl, .bool b.fin, .string (strOfNums l), .bool m.plain, .pointer (some ⟨gw, 0, none⟩), .bool m.uni, .int .i64 m.act, .bool m.beh, .int .u32 m.wt]
structure EncAt (w : World) (g gw : Nat) (b : B4) (l : List Int) (m : E) : Prop where
  blk : w.heap[g]? = some (.cells (encCells b l gw m) 50 (0, 0))
  win : WinAt w gw m.o m.u
section
variable {w : World} {g gw : Nat} {b : B4} {l : List Int} {m : E}
theorem EncAt.base (h : EncAt w g gw b l m) : BaseAt w g b := ⟨by rw [cell_of h.blk]; rfl, by rw [cell_of h.blk]; rfl, by rw [cell_of h.blk]; rfl, by rw [cell_of h.blk]; rfl, frozen_of h.blk⟩
theorem EncAt.fz (h : EncAt w g gw b l m) : ∀ j, w.frozen? ⟨g, j, none⟩ = false := frozen_of h.blk
theorem EncAt.c4 (h : EncAt w g gw b l m) : w.cell? ⟨g, 4, none⟩ = some (.string (strOfNums l)) := by rw [cell_of h.blk]; rfl
theorem EncAt.c5 (h : EncAt w g gw b l m) : w.cell? ⟨g, 5, none⟩ = some (.bool m.plain) := by rw [cell_of h.blk]; rfl
theorem EncAt.c6 (h : EncAt w g gw b l m) : w.cell? ⟨g, 6, none⟩ = some (.pointer (some ⟨gw, 0, none⟩)) := by rw [cell_of h.blk]; rfl
theorem EncAt.c7 (h : EncAt w g gw b l m) : w.cell? ⟨g, 7, none⟩ = some (.bool m.uni) := by rw [cell_of h.blk]; rfl
theorem EncAt.c8 (h : EncAt w g gw b l m) : w.cell? ⟨g, 8, none⟩ = some (.int .i64 m.act) := by rw [cell_of h.blk]; rfl
theorem EncAt.c9 (h : EncAt w g gw b l m) : w.cell? ⟨g, 9, none⟩ = some (.bool m.beh) := by rw [cell_of h.blk]; rfl
theorem EncAt.c10 (h : EncAt w g gw b l m) : w.cell? ⟨g, 10, none⟩ = some (.int .u32 m.wt) := by rw [cell_of h.blk]; rfl
theorem EncAt.lt (h : EncAt w g gw b l m) : g < w.heap.size := (Array.getElem?_eq_some_iff.1 h.blk).1
theorem EncAt.ne_gw (h : EncAt w g gw b l m) : gw ≠ g := by
  rintro rfl
  have := h.blk.symm.trans h.win.blk
  simp at this
theorem EncAt.set (h : EncAt w g gw b l m) (j : Nat) (x : Value) {b' : B4} {l' : List Int} {m' : E} (he : (encCells b l gw m).setIfInBounds j x = encCells b' l' gw m') (ho : m'.o = m.o) (hu : m'.u = m.u) : EncAt (w.setCell ⟨g, j, none⟩ x) g gw b' l' m' := by
  refine ⟨?_, ?_⟩
  · rw [heap_setCell_same w g j _ _ _ h.blk, he]
  · rw [ho, hu]; exact h.win.keep (Below.heap_setCell w _ _ gw h.ne_gw)
theorem EncAt.keep {w' : World} (h : EncAt w g gw b l m) (h0 : w'.heap[g]? = w.heap[g]?) (h1 : w'.heap[gw]? = w.heap[gw]?) : EncAt w' g gw b l m := ⟨h0.trans h.blk, h.win.keep h1⟩
theorem EncAt.below {w' : World} (h : EncAt w g gw b l m) (hb : Below w.heap.size w w') : EncAt w' g gw b l m := h.keep (hb.block g h.lt) (hb.block gw h.win.lt)
theorem EncAt.alloc (h : EncAt w g gw b l m) (o : Obj) : EncAt (w.alloc o) g gw b l m := h.keep (Below.heap_alloc w o g h.lt) (Below.heap_alloc w o gw h.win.lt)
theorem EncAt.drewN (h : EncAt w g gw b l m) (n : Nat) : EncAt (w.drewN n) g gw b l m := h.keep rfl rfl
theorem EncAt.wins {w' : World} {o u : List Int} (h : EncAt w g gw b l m) (hw : WinAt w' gw o u) (hc : Chg (· = gw) w w') : EncAt w' g gw b l { m with o := o, u := u } := ⟨(hc.block g h.lt (fun e => h.ne_gw e.symm)).trans h.blk, hw⟩
end
/-- What may turn of what was there. -/
def EFS (g gw : Nat) : Nat → Prop := fun i => i = g ∨ i = gw
theorem efs_g {g gw : Nat} {w : World} (j : Nat) (v : Value) : Chg (EFS g gw) w (w.setCell ⟨g, j, none⟩ v) := Chg.set w (.inl rfl) j v
theorem efs_gw {g gw : Nat} {w w' : World} (h : Chg (· = gw) w w') : Chg (EFS g gw) w w' := h.mono (fun i hi => .inr hi)
theorem str_append (a b : List Int) : strOfNums a ++ strOfNums b = strOfNums (a ++ b) := by
  have : (strOfNums a ++ strOfNums b).data = (strOfNums (a ++ b)).data := by
    rw [ByteArray.data_append]
    simp [strOfNums]
  cases h1 : (strOfNums a ++ strOfNums b)
  cases h2 : strOfNums (a ++ b)
  rw [h1, h2] at this
  simp only at this
  rw [this]
theorem str_size (a : List Int) : (strOfNums a).size = a.length := by simp [strOfNums, ByteArray.size]
theorem pkeep_calls {w : World} {g gw : Nat} {b : B4} {l : List Int} {m : E} (xs : List Int) (h : EncAt w g gw b l m) (hl : l.length ≤ 1000000) (hx : xs.length ≤ 10) :
    Calls Try.prog 53 #[.pointer (some ⟨g, 4, none⟩), .string (strOfNums xs)] w fun e w' => e = .returned (.tuple #[]) ∧ w' = w.setCell ⟨g, 4, none⟩ (.string (strOfNums (l ++ xs))) := by
  have h4 := h.c4
  have f4 := h.fz 4
  have e := str_append l xs
  have s1 : (strOfNums l).size ≤ 1000000 := by rw [str_size]; exact hl
  have s2 : (strOfNums xs).size ≤ 10 := by rw [str_size]; exact hx
  obtain ⟨S, hS⟩ : ∃ S, S = strOfNums (l ++ xs) := ⟨_, rfl⟩
  rw [← hS] at e ⊢
  generalize strOfNums l = A at *
  generalize strOfNums xs = B at *
  clear h hS
  go_enter Try.func53, Try.ntmps53
  go_wp2
  go_end0
  exact ⟨rfl, rfl⟩
def KeepPost (w : World) (g gw : Nat) (b : B4) (l : List Int) (m : E) (e : Ending) (w' : World) : Prop := e = .returned (.tuple #[]) ∧ EncAt w' g gw b l m ∧ Chg (EFS g gw) w w'
/-- Some bytes of a new row are kept. -/
theorem keep_calls {w : World} {g gw : Nat} {b : B4} {l : List Int} {m : E} (xs : List Int) (h : EncAt w g gw b l m) (hl : l.length ≤ 1000000) (hx : xs.length ≤ 10) :
    Calls Try.prog 38 #[.pointer (some ⟨g, 0, none⟩), .slice (some ⟨w.heap.size, 0, none⟩) xs.length xs.length] (w.alloc (.cells (xs.map fun x => Value.int .u8 x).toArray 5)) (KeepPost w g gw b (l ++ xs) m) := by
  have hz := h.alloc (.cells (xs.map fun x => Value.int .u8 x).toArray 5)
  have hc := Chg.alloc (S := EFS g gw) w (.cells (xs.map fun x => Value.int .u8 x).toArray 5)
  have hnew := heap_alloc_new w (.cells (xs.map fun x => Value.int .u8 x).toArray 5)
  obtain ⟨w1, hw1⟩ : ∃ w1, w1 = w.alloc (.cells (xs.map fun x => Value.int .u8 x).toArray 5) := ⟨_, rfl⟩
  obtain ⟨a, ha⟩ : ∃ a, a = w.heap.size := ⟨_, rfl⟩
  rw [← hw1] at hz hc hnew ⊢
  rw [← ha] at hnew ⊢
  have hcv : (convert 83 9 (.slice (some ⟨a, 0, none⟩) xs.length xs.length)).run Try.prog w1.drew = .ok (.string (strOfNums xs)) w1.drew := by
    refine run_convert_bytes_arg _ _ 5 Try.underlying83 Try.underlying5 a 0 xs.length xs.length xs rfl (fun i hi => ?_) _ Try.underlying9
    show w1.cell? _ = _
    rw [cell_of hnew]
    simp [List.getD_eq_getElem?_getD, hi]
  have hk := pkeep_calls (w := w1.drew) xs (show EncAt w1.drew g gw b l m from hz.drewN 1) hl hx
  have HZ := Lib.hid hz
  have HC := Lib.hid hc
  have HK := Lib.hid hk
  obtain ⟨n, hn⟩ : ∃ n, n = xs.length := ⟨_, rfl⟩
  rw [← hn] at hcv
  rw [← hn]
  clear h hz hc hk hnew hw1 ha hn
  generalize strOfNums xs = B at *
  go_enter Try.func38, Try.ntmps38
  go_wp2_with fail
  go_region_with (go_at_call 53; refine HK.out.mono ?_; rintro e w2 ⟨rfl, rfl⟩)
  all_goals
    go_wp2_with fail
    go_end0
    exact ⟨rfl, (HZ.out.drewN 1).set 4 _ rfl rfl rfl, (HC.out.trans (Chg.drew _)).trans (efs_g 4 _)⟩
end Go.Proofs.Ytkfiahildoljfaa.Enc
