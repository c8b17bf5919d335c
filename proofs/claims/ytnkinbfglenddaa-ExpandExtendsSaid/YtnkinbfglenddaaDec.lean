/- The expander in memory: what each of its functions does to it. -/
import Derived.Test.YtnkinbfglenddaaRow
import Derived.Test.YtnkinbfglenddaaMach
import Derived.StillTailTactics
import Derived.Deep.RegionWith
namespace Go.Proofs.Ytnkinbfglenddaa.Dec
open Go.RowKit Go.Proofs.Ytnkinbfglenddaa.Win Go.Proofs.Ytnkinbfglenddaa.Stp Go.Proofs.Ytnkinbfglenddaa.Mach
set_option linter.unusedVariables false
set_option linter.unusedSimpArgs false
def decCells (b : B4) (v : Value) (gw : Nat) (m : M) : Array Value :=
  #[.int .i64 b.at_, .int .i64 b.err, .int .i64 b.pl, .bool b.fin, v, .pointer (some ⟨gw, 0, none⟩), .bool m.uni, .int .i64 m.act, .int .i64 m.beg, .int .i64 m.n, .int .u8 m.first, .int .u32 m.upper]
structure DecAt (w : World) (g gw rb : Nat) (v : Value) (b : B4) (l : List Int) (m : M) : Prop where
  blk : w.heap[g]? = some (.cells (decCells b v gw m) 50 (0, 0))
  win : WinAt w gw m.o used0
  row : w.ownsRow rb 25 1 v l.length (u32s l)
  nil : l = [] → v = .slice none 0 0
  rbl : rb ≤ w.heap.size
section
variable {w : World} {g gw rb : Nat} {v : Value} {b : B4} {l : List Int} {m : M}
theorem DecAt.base (h : DecAt w g gw rb v b l m) : BaseAt w g b := ⟨by rw [cell_of h.blk]; rfl, by rw [cell_of h.blk]; rfl, by rw [cell_of h.blk]; rfl, by rw [cell_of h.blk]; rfl, frozen_of h.blk⟩
theorem DecAt.fz (h : DecAt w g gw rb v b l m) : ∀ j, w.frozen? ⟨g, j, none⟩ = false := frozen_of h.blk
theorem DecAt.c4 (h : DecAt w g gw rb v b l m) : w.cell? ⟨g, 4, none⟩ = some v := by rw [cell_of h.blk]; rfl
theorem DecAt.c5 (h : DecAt w g gw rb v b l m) : w.cell? ⟨g, 5, none⟩ = some (.pointer (some ⟨gw, 0, none⟩)) := by rw [cell_of h.blk]; rfl
theorem DecAt.c6 (h : DecAt w g gw rb v b l m) : w.cell? ⟨g, 6, none⟩ = some (.bool m.uni) := by rw [cell_of h.blk]; rfl
theorem DecAt.c7 (h : DecAt w g gw rb v b l m) : w.cell? ⟨g, 7, none⟩ = some (.int .i64 m.act) := by rw [cell_of h.blk]; rfl
theorem DecAt.c8 (h : DecAt w g gw rb v b l m) : w.cell? ⟨g, 8, none⟩ = some (.int .i64 m.beg) := by rw [cell_of h.blk]; rfl
theorem DecAt.c9 (h : DecAt w g gw rb v b l m) : w.cell? ⟨g, 9, none⟩ = some (.int .i64 m.n) := by rw [cell_of h.blk]; rfl
theorem DecAt.c10 (h : DecAt w g gw rb v b l m) : w.cell? ⟨g, 10, none⟩ = some (.int .u8 m.first) := by rw [cell_of h.blk]; rfl
theorem DecAt.c11 (h : DecAt w g gw rb v b l m) : w.cell? ⟨g, 11, none⟩ = some (.int .u32 m.upper) := by rw [cell_of h.blk]; rfl
theorem DecAt.lt (h : DecAt w g gw rb v b l m) : g < w.heap.size := (Array.getElem?_eq_some_iff.1 h.blk).1
theorem DecAt.ne_gw (h : DecAt w g gw rb v b l m) : gw ≠ g := by
  rintro rfl
  have := h.blk.symm.trans h.win.blk
  simp at this
theorem own_ne_blk {base : Nat} {e t : TypeId} {size n g : Nat} {v : Value} {xs : List Value} {cs : Array Value} (h : w.ownsRow base e size v n xs) (hg : w.heap[g]? = some (.cells cs t (0, 0))) (hne : e ≠ t) : v.ownBlock ≠ some g := by
  intro he
  rcases h.2 with ⟨rfl, _⟩ | ⟨g', cap, cur, rfl, _, hb, _⟩
  · simp [Value.ownBlock] at he
  · simp [Value.ownBlock] at he
    subst he
    have := hg.symm.trans hb
    simp at this
    exact hne this.2.symm
theorem DecAt.row_g (h : DecAt w g gw rb v b l m) : v.ownBlock ≠ some g := own_ne_blk h.row h.blk (by decide)
theorem DecAt.row_gw (h : DecAt w g gw rb v b l m) : v.ownBlock ≠ some gw := own_ne_blk h.row h.win.blk (by decide)
/-- One cell of the block is stored. -/
theorem DecAt.set (h : DecAt w g gw rb v b l m) (j : Nat) (u : Value) {b' : B4} {m' : M} (he : (decCells b v gw m).setIfInBounds j u = decCells b' v gw m') (ho : m'.o = m.o) : DecAt (w.setCell ⟨g, j, none⟩ u) g gw rb v b' l m' := by
  refine ⟨?_, ?_, ?_, h.nil, ?_⟩
  · rw [heap_setCell_same w g j _ _ _ h.blk, he]
  · rw [ho]; exact h.win.keep (Below.heap_setCell w _ _ gw h.ne_gw)
  · refine h.row.kept (w' := w.setCell ⟨g, j, none⟩ u) (row := some g) ⟨rfl, rfl, rfl, by simp [World.setCell], fun k hk hn => Below.heap_setCell w _ _ k (fun e => hn (by rw [e]))⟩ (.inr h.row_g)
  · have := h.rbl; simpa [World.setCell] using this
/-- A world in which nothing of it has turned. -/
theorem DecAt.keep {w' : World} (h : DecAt w g gw rb v b l m) (hs : w.heap.size ≤ w'.heap.size) (h0 : w'.heap[g]? = w.heap[g]?) (h1 : w'.heap[gw]? = w.heap[gw]?) (h2 : ∀ k, v.ownBlock = some k → w'.heap[k]? = w.heap[k]?) : DecAt w' g gw rb v b l m := by
  refine ⟨h0.trans h.blk, h.win.keep h1, ?_, h.nil, Nat.le_trans h.rbl hs⟩
  obtain ⟨a1, a2⟩ := h.row
  refine ⟨a1, ?_⟩
  rcases a2 with a2 | ⟨g', cap, cur, hv, hb, hh, r⟩
  · exact .inl a2
  · exact .inr ⟨g', cap, cur, hv, hb, (h2 g' (by rw [hv]; rfl)).trans hh, r⟩
theorem DecAt.alloc (h : DecAt w g gw rb v b l m) (o : Obj) : DecAt (w.alloc o) g gw rb v b l m := by
  refine h.keep (by simp) (Below.heap_alloc w o g h.lt) (Below.heap_alloc w o gw h.win.lt) (fun k hk => Below.heap_alloc w o k ?_)
  exact (h.row.lt k hk).2
theorem DecAt.drewN (h : DecAt w g gw rb v b l m) (n : Nat) : DecAt (w.drewN n) g gw rb v b l m := h.keep (Nat.le_refl _) rfl rfl (fun _ _ => rfl)
end
/-- What may turn of what was there. -/
def FS (g gw : Nat) (v : Value) : Nat → Prop := fun i => i = g ∨ i = gw ∨ v.ownBlock = some i
theorem DecAt.hold {w w1 : World} {g gw rb : Nat} {v : Value} {b : B4} {l : List Int} {m : M} (h : DecAt w g gw rb v b l m) (x : Int) {r c : Nat} (hown : w1.ownsRow rb 25 1 (.slice (some ⟨r, 0, none⟩) (l.length + 1) c) (l ++ [x]).length (u32s (l ++ [x]))) (hg : w.grownBy w1 v.ownBlock) (hr : r ≠ g) :
    DecAt (w1.setCell ⟨g, 4, none⟩ (.slice (some ⟨r, 0, none⟩) (l.length + 1) c)) g gw rb (.slice (some ⟨r, 0, none⟩) (l.length + 1) c) b (l ++ [x]) m ∧ Chg (FS g gw v) w (w1.setCell ⟨g, 4, none⟩ (.slice (some ⟨r, 0, none⟩) (l.length + 1) c)) := by
  have hgb : w1.heap[g]? = some (.cells (decCells b v gw m) 50 (0, 0)) := (hg.block g h.lt (fun e => h.row_g e.symm)).trans h.blk
  refine ⟨⟨?_, ?_, ?_, fun e => by simp at e, ?_⟩, ?_⟩
  · rw [heap_setCell_same w1 g 4 _ _ _ hgb]; rfl
  · exact (h.win.keep (hg.block gw h.win.lt (fun e => h.row_gw e.symm))).keep (Below.heap_setCell w1 _ _ gw h.ne_gw)
  · exact hown.kept (w' := w1.setCell ⟨g, 4, none⟩ _) (row := some g) ⟨rfl, rfl, rfl, by simp [World.setCell], fun k hk hn => Below.heap_setCell w1 _ _ k (fun e => hn (by rw [e]))⟩ (.inr (by simp [Value.ownBlock]; exact hr))
  · have := Nat.le_trans h.rbl hg.size; simpa [World.setCell] using this
  · exact chg_then (Chg.mono (chg_grown hg) (fun i hi => .inr (.inr hi))) (Chg.set (S := FS g gw v) w1 (.inl rfl) 4 _) (fun i _ hi => hi)
theorem begin_calls {w : World} {g gw rb : Nat} {v : Value} {b : B4} {l : List Int} {m : M} (k n : Int) (h : DecAt w g gw rb v b l m) :
    Calls Try.prog 55 #[.pointer (some ⟨g, 0, none⟩), .int .i64 k, .int .i64 n] w fun e w' => e = .returned (.bool true) ∧ w' = (w.setCell ⟨g, 8, none⟩ (.int .i64 k)).setCell ⟨g, 9, none⟩ (.int .i64 n) := by
  have h8 := h.c8
  have h9 := h.c9
  have f8 := h.fz 8
  have f9 := h.fz 9
  clear h
  go_enter Try.func55, Try.ntmps55
  go_wp2
  go_ret
  exact ⟨rfl, rfl⟩
theorem activate_calls {w : World} {g gw rb : Nat} {v : Value} {b : B4} {l : List Int} {m : M} (n : Int) (h : DecAt w g gw rb v b l m) :
    Calls Try.prog 52 #[.pointer (some ⟨g, 0, none⟩), .int .i64 n] w fun e w' => e = .returned (.bool true) ∧ w' = ((w.setCell ⟨g, 7, none⟩ (.int .i64 n)).setCell ⟨g, 6, none⟩ (.bool false)).setCell ⟨g, 8, none⟩ (.int .i64 0) := by
  have h8 := h.c8
  have h7 := h.c7
  have h6 := h.c6
  have f8 := h.fz 8
  have f7 := h.fz 7
  have f6 := h.fz 6
  clear h
  go_enter Try.func52, Try.ntmps52
  go_wp2
  go_ret
  exact ⟨rfl, rfl⟩
theorem fits_calls {w : World} {g gw rb : Nat} {v : Value} {b : B4} {l : List Int} {m : M} (x : Int) (h : DecAt w g gw rb v b l m) :
    Calls Try.prog 54 #[.pointer (some ⟨g, 0, none⟩), .int .u8 x] w fun e w' => e = .returned (.bool (m.fits x)) ∧ w = w' := by
  have h11 := h.c11
  have hfin : m.fits x = ((decide (220 ≤ x) && decide (x ≤ 223)) == (m.upper != 0)) := by
    unfold M.fits low8
    congr 1
    rw [Bool.eq_iff_iff]; simp
  rw [hfin]
  clear h hfin
  by_cases h0 : 220 ≤ x
  · go_enter Try.func54, Try.ntmps54
    go_wp2
    all_goals
      go_ret
      refine ⟨?_, rfl⟩
      generalize (m.upper != 0) = q
      by_cases h2 : x ≤ 223 <;> cases q <;> simp [h0, h2] <;> omega
  · go_enter Try.func54, Try.ntmps54
    go_wp2
    all_goals
      go_ret
      refine ⟨?_, rfl⟩
      generalize (m.upper != 0) = q
      by_cases h2 : x ≤ 223 <;> cases q <;> simp [h0, h2] <;> omega
end Go.Proofs.Ytnkinbfglenddaa.Dec
