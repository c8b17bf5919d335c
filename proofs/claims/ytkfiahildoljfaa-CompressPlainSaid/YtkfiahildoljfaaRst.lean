/- The reference's text: its state in memory; a unit. -/
import Derived.Test.YtkfiahildoljfaaRow
import Derived.Test.YtkfiahildoljfaaMach
import Derived.Test.YtkfiahildoljfaaRef13
import Derived.Deep.RegionLaw
namespace Go.Proofs.Ytkfiahildoljfaa.Rst
open Go.RowKit Go.Proofs.Ytkfiahildoljfaa.Win Go.Proofs.Ytkfiahildoljfaa.Stp Go.Proofs.Ytkfiahildoljfaa.Mach
set_option linter.unusedVariables false
set_option linter.unusedSimpArgs false
structure R where
  out : List Int
  o : List Int
  act : Int
  uni : Bool
  high : Int
  err : Int
  pl : Int
def rCells (t : R) (v : Value) (go : Nat) : Array Value := #[v, .slice (some ⟨go, 0, none⟩) 8 8, .int .i64 t.act, .bool t.uni, .int .u32 t.high, .int .i64 t.err, .int .i64 t.pl]
structure RAt (w : World) (g go rb : Nat) (v : Value) (t : R) : Prop where
  blk : w.heap[g]? = some (.cells (rCells t v go) 58 (0, 0))
  offs : RowAt w go .u32 35 t.o
  row : w.ownsRow rb 35 1 v t.out.length (u32s t.out)
  lo : t.o.length = 8
  ro : ∀ x ∈ t.o, 128 ≤ x ∧ x ≤ 1114000
  ac : 0 ≤ t.act ∧ t.act < 8
  hi : t.high = 0 ∨ 55296 ≤ t.high ∧ t.high < 56320
  ol : t.out.length ≤ 1000000
  gor : go < rb
  rbl : rb ≤ w.heap.size
def RS (g go : Nat) (v : Value) : Nat → Prop := fun i => i = g ∨ i = go ∨ v.ownBlock = some i
section
variable {w w' : World} {g go rb : Nat} {v : Value} {t : R}
theorem RAt.f0 (h : RAt w g go rb v t) : w.cell? ⟨g, 0, none⟩ = some v := by rw [cell_of h.blk]; rfl
theorem RAt.f1 (h : RAt w g go rb v t) : w.cell? ⟨g, 1, none⟩ = some (.slice (some ⟨go, 0, none⟩) 8 8) := by rw [cell_of h.blk]; rfl
theorem RAt.f2 (h : RAt w g go rb v t) : w.cell? ⟨g, 2, none⟩ = some (.int .i64 t.act) := by rw [cell_of h.blk]; rfl
theorem RAt.f3 (h : RAt w g go rb v t) : w.cell? ⟨g, 3, none⟩ = some (.bool t.uni) := by rw [cell_of h.blk]; rfl
theorem RAt.f4 (h : RAt w g go rb v t) : w.cell? ⟨g, 4, none⟩ = some (.int .u32 t.high) := by rw [cell_of h.blk]; rfl
theorem RAt.f5 (h : RAt w g go rb v t) : w.cell? ⟨g, 5, none⟩ = some (.int .i64 t.err) := by rw [cell_of h.blk]; rfl
theorem RAt.f6 (h : RAt w g go rb v t) : w.cell? ⟨g, 6, none⟩ = some (.int .i64 t.pl) := by rw [cell_of h.blk]; rfl
theorem RAt.fz (h : RAt w g go rb v t) : ∀ j, w.frozen? ⟨g, j, none⟩ = false := frozen_of h.blk
theorem RAt.lt (h : RAt w g go rb v t) : g < w.heap.size := (Array.getElem?_eq_some_iff.1 h.blk).1
theorem RAt.off (h : RAt w g go rb v t) (j : Nat) (hj : j < 8) : w.cell? ⟨go, j, none⟩ = some (.int .u32 (t.o.getD j 0)) := h.offs.cell j (by rw [h.lo]; exact hj)
theorem RAt.ne (h : RAt w g go rb v t) : g ≠ go := by
  rintro rfl
  have := h.blk.symm.trans h.offs.blk
  simp at this
theorem RAt.row_g (h : RAt w g go rb v t) : v.ownBlock ≠ some g := by
  intro he
  rcases h.row.2 with ⟨rfl, _⟩ | ⟨g', cap, cur, rfl, _, hb, _⟩
  · simp [Value.ownBlock] at he
  · simp [Value.ownBlock] at he
    subst he
    have := h.blk.symm.trans hb
    simp at this
theorem RAt.row_go (h : RAt w g go rb v t) : v.ownBlock ≠ some go := fun he => by have := (h.row.lt go he).1; have := h.gor; omega
/-- A cell of the state but its row and its offsets. -/
theorem RAt.set (h : RAt w g go rb v t) (j : Nat) (u : Value) {t' : R} (he : (rCells t v go).setIfInBounds j u = rCells t' v go) (h1 : t'.out = t.out) (h2 : t'.o = t.o) (h3 : 0 ≤ t'.act ∧ t'.act < 8) (h4 : t'.high = 0 ∨ 55296 ≤ t'.high ∧ t'.high < 56320) : RAt (w.setCell ⟨g, j, none⟩ u) g go rb v t' := by
  refine ⟨?_, ?_, ?_, by rw [h2]; exact h.lo, by rw [h2]; exact h.ro, h3, h4, by rw [h1]; exact h.ol, h.gor, ?_⟩
  · rw [heap_setCell_same w g j _ _ _ h.blk, he]
  · rw [h2]; exact h.offs.keep (Below.heap_setCell w _ _ go (fun e => h.ne e.symm))
  · rw [h1]; exact h.row.kept (w' := w.setCell ⟨g, j, none⟩ u) (row := some g) ⟨rfl, rfl, rfl, by simp [World.setCell], fun k hk hn => Below.heap_setCell w _ _ k (fun e => hn (by rw [e]))⟩ (.inr h.row_g)
  · have := h.rbl; simpa [World.setCell] using this
/-- An offset. -/
theorem RAt.setO (h : RAt w g go rb v t) (j : Nat) (c : Int) (hc : 128 ≤ c ∧ c ≤ 1114000) : RAt (w.setCell ⟨go, j, none⟩ (.int .u32 c)) g go rb v { t with o := t.o.set j c } := by
  refine ⟨(Below.heap_setCell w _ _ g h.ne).trans h.blk, h.offs.set j c, ?_, by simp [h.lo], set_rng h.ro j hc, h.ac, h.hi, h.ol, h.gor, ?_⟩
  · exact h.row.kept (w' := w.setCell ⟨go, j, none⟩ _) (row := some go) ⟨rfl, rfl, rfl, by simp [World.setCell], fun k hk hn => Below.heap_setCell w _ _ k (fun e => hn (by rw [e]))⟩ (.inr h.row_go)
  · have := h.rbl; simpa [World.setCell] using this
theorem RAt.keep (h : RAt w g go rb v t) (hs : w.heap.size ≤ w'.heap.size) (h0 : w'.heap[g]? = w.heap[g]?) (h1 : w'.heap[go]? = w.heap[go]?) (h2 : ∀ k, v.ownBlock = some k → w'.heap[k]? = w.heap[k]?) : RAt w' g go rb v t := by
  refine ⟨h0.trans h.blk, h.offs.keep h1, ?_, h.lo, h.ro, h.ac, h.hi, h.ol, h.gor, Nat.le_trans h.rbl hs⟩
  obtain ⟨a1, a2⟩ := h.row
  refine ⟨a1, ?_⟩
  rcases a2 with a2 | ⟨g', cap, cur, hv, hb, hh, r⟩
  · exact .inl a2
  · exact .inr ⟨g', cap, cur, hv, hb, (h2 g' (by rw [hv]; rfl)).trans hh, r⟩
theorem RAt.below (h : RAt w g go rb v t) (hb : Below w.heap.size w w') : RAt w' g go rb v t := h.keep hb.size (hb.block g h.lt) (hb.block go h.offs.lt) (fun k hk => hb.block k (h.row.lt k hk).2)
theorem rs_g (j : Nat) (u : Value) : Chg (RS g go v) w (w.setCell ⟨g, j, none⟩ u) := Chg.set (S := RS g go v) w (.inl rfl) j u
theorem rs_go (j : Nat) (u : Value) : Chg (RS g go v) w (w.setCell ⟨go, j, none⟩ u) := Chg.set (S := RS g go v) w (.inr (.inl rfl)) j u
/-- A scalar more. -/
theorem RAt.push {w1 : World} (h : RAt w g go rb v t) (x : Int) {r c : Nat} (hown : w1.ownsRow rb 35 1 (.slice (some ⟨r, 0, none⟩) (t.out.length + 1) c) (t.out ++ [x]).length (u32s (t.out ++ [x]))) (hg : w.grownBy w1 v.ownBlock) (hr : r ≠ g) (hl : t.out.length < 1000000) :
    RAt (w1.setCell ⟨g, 0, none⟩ (.slice (some ⟨r, 0, none⟩) (t.out.length + 1) c)) g go rb (.slice (some ⟨r, 0, none⟩) (t.out.length + 1) c) { t with out := t.out ++ [x] } ∧ Chg (RS g go v) w (w1.setCell ⟨g, 0, none⟩ (.slice (some ⟨r, 0, none⟩) (t.out.length + 1) c)) := by
  have hgb : w1.heap[g]? = some (.cells (rCells t v go) 58 (0, 0)) := (hg.block g h.lt (fun e => h.row_g e.symm)).trans h.blk
  refine ⟨⟨?_, ?_, ?_, h.lo, h.ro, h.ac, h.hi, by simp; omega, h.gor, ?_⟩, ?_⟩
  · rw [heap_setCell_same w1 g 0 _ _ _ hgb]; rfl
  · exact (h.offs.keep (hg.block go h.offs.lt (fun e => h.row_go e.symm))).keep (Below.heap_setCell w1 _ _ go (fun e => h.ne e.symm))
  · exact hown.kept (w' := w1.setCell ⟨g, 0, none⟩ _) (row := some g) ⟨rfl, rfl, rfl, by simp [World.setCell], fun k hk hn => Below.heap_setCell w1 _ _ k (fun e => hn (by rw [e]))⟩ (.inr (by simp [Value.ownBlock]; exact hr))
  · have := Nat.le_trans h.rbl hg.size; simpa [World.setCell] using this
  · exact chg_then (Chg.mono (chg_grown hg) (fun i hi => .inr (.inr hi))) (Chg.set (S := RS g go v) w1 (.inl rfl) 0 _) (fun i _ hi => hi)
end
def byt (s : ByteArray) : List Int := s.data.toList.map fun x => (x.toNat : Int)
theorem byt_length (s : ByteArray) : (byt s).length = s.size := by unfold byt; rw [List.length_map, Array.length_toList]; rfl
theorem byt_at (s : ByteArray) (k : Nat) (h : k < s.size) : (byt s).getD k 0 = (s[k].toNat : Int) := by
  unfold byt
  rw [List.getD_eq_getElem?_getD, List.getElem?_map, List.getElem?_eq_getElem (by rw [Array.length_toList]; exact h)]
  rfl
def rwrong (t : R) (k : Nat) : R × Nat := ({ t with err := 3, pl := k }, k)
def rcut (t : R) (n : Nat) : R × Nat := ({ t with err := 4, pl := n }, n)
def runit (t : R) (l : List Int) (k : Nat) : R × Nat :=
  if l.length ≤ k then rcut t l.length
  else if low8 (l.getD k 0) ≠ decide (t.high > 0) then rwrong t k
  else if l.length ≤ k + 1 then rcut t l.length
  else if low8 (l.getD k 0) = true then ({ t with out := t.out ++ [65536 + (t.high - 55296) * 1024 + (l.getD k 0 * 256 + l.getD (k + 1) 0) - 56320], high := 0 }, k + 2)
  else if 55296 ≤ l.getD k 0 * 256 + l.getD (k + 1) 0 ∧ l.getD k 0 * 256 + l.getD (k + 1) 0 ≤ 56319 then ({ t with high := l.getD k 0 * 256 + l.getD (k + 1) 0 }, k + 2)
  else ({ t with out := t.out ++ [l.getD k 0 * 256 + l.getD (k + 1) 0] }, k + 2)
def RPost (w : World) (g go rb : Nat) (v : Value) (r : R × Nat) (e : Ending) (w' : World) : Prop := e = .returned (.int .i64 r.2) ∧ ∃ v', RAt w' g go rb v' r.1 ∧ Chg (RS g go v) w w'
theorem rwrong_calls {w : World} {g go rb : Nat} {v : Value} {t : R} (k : Nat) (h : RAt w g go rb v t) : Calls Try.prog 50 #[.pointer (some ⟨g, 0, none⟩), .int .i64 k] w (RPost w g go rb v (rwrong t k)) := by
  have h5 := h.f5
  have h6 := h.f6
  have z5 := h.fz 5
  have z6 := h.fz 6
  have H := Lib.hid h
  clear h
  go_enter Try.func50, Try.ntmps50
  go_wp2
  go_ret
  exact ⟨rfl, v, (H.out.set 5 (.int .i64 3) (t' := { t with err := 3 }) rfl rfl rfl H.out.ac H.out.hi).set 6 (.int .i64 k) rfl rfl rfl H.out.ac H.out.hi, (rs_g 5 _).trans (rs_g 6 _)⟩
theorem rcut_calls {w : World} {g go rb : Nat} {v : Value} {t : R} (s : ByteArray) (h : RAt w g go rb v t) (hs : s.size ≤ 100000) : Calls Try.prog 37 #[.pointer (some ⟨g, 0, none⟩), .string s] w (RPost w g go rb v (rcut t s.size)) := by
  have h5 := h.f5
  have h6 := h.f6
  have z5 := h.fz 5
  have z6 := h.fz 6
  have H := Lib.hid h
  clear h
  go_enter Try.func37, Try.ntmps37
  go_wp2
  go_ret
  exact ⟨rfl, v, (H.out.set 5 (.int .i64 4) (t' := { t with err := 4 }) rfl rfl rfl H.out.ac H.out.hi).set 6 (.int .i64 s.size) rfl rfl rfl H.out.ac H.out.hi, (rs_g 5 _).trans (rs_g 6 _)⟩
end Go.Proofs.Ytkfiahildoljfaa.Rst
