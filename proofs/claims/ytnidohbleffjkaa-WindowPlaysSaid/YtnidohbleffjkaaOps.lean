/- A script of calls as an argument: how its elements read. -/
import Derived.Test.YtnidohbleffjkaaOpen
import Derived.Test.YtnidohbleffjkaaProg
import Derived.KernelRfl
namespace Go.Proofs.Ytnidohbleffjkaa.Win
open Go.ChangeShapes Go.WideShapes Go.RowKit Go.Proofs.YtnidohbleffjkaaW.PrintWords Go.Proofs.Ytnidohbleffjkaa.Open
set_option linter.unusedVariables false
abbrev OpV := Int × Int × Int
def kOp : Kd OpV := Kd.pair (Kd.int .i64) (Kd.pair (Kd.int .i64) (Kd.int .u32))
def opGood (x : OpV) : Prop := (Lit.int .i64 x.1).wf = true ∧ (Lit.int .i64 x.2.1).wf = true ∧ (Lit.int .u32 x.2.2).wf = true
theorem opens_op {H : Type} {enc : TypeId × Value → H} {W : World} {base : Nat} {spare : Nat → Bool} {held : Bool} : Opens enc Try.prog W base spare held kOp 35 opGood := by
  intro fuel cs x hl h
  obtain ⟨fs, hu, hfs⟩ : ∃ fs : Array Field, Try.prog.underlying 35 = some (.struct fs) ∧ fs.toList.map (fun f => (f.type, f.offset)) = [(3, 0), (3, 1), (22, 2)] := ⟨_, Try.underlying35, by kernel_rfl⟩
  have h3 : Try.prog.cellsOf 3 = 1 := by kernel_rfl
  have h4 : Try.prog.cellsOf 22 = 1 := by kernel_rfl
  have hl' : cs.length = 3 := hl
  match cs, hl' with
  | [c0, c1, c2], _ =>
    obtain ⟨xs, m, rfl, hx, hlen, hn, hel⟩ := DataW.trod_struct hu h
    obtain ⟨l⟩ := fs
    match l, hfs with
    | [f0, f1, f2], hfs =>
      simp at hfs
      obtain ⟨⟨t0, o0⟩, ⟨t1, o1⟩, t2, o2⟩ := hfs
      have e0 := hel 0 f0 rfl
      have e1 := hel 1 f1 rfl
      have e2 := hel 2 f2 rfl
      rw [t0, o0] at e0
      rw [t1, o1] at e1
      rw [t2, o2] at e2
      rw [h3] at e0 e1
      rw [h4] at e2
      match xs, hn with
      | [x0, x1, x2], _ =>
        simp at e0 e1 e2
        obtain ⟨n0, q0, rfl, w0⟩ := DataW.trod_int Try.underlying3 e0
        obtain ⟨n1, q1, rfl, w1⟩ := DataW.trod_int Try.underlying3 e1
        obtain ⟨n2, q2, rfl, w2⟩ := DataW.trod_int Try.underlying22 e2
        simp at q0 q1 q2
        subst q0 q1 q2
        exact ⟨(n0, n1, n2), ⟨_, _, rfl, rfl, _, _, rfl, rfl, rfl⟩, w0, w1, w2⟩
/-- An element of the script, in memory. -/
theorem ops_at {w : World} {A : Option Addr} {n : Nat} {l : List OpV} (h : kOp.C w A n l) (k : Nat) (hk : k < l.length) :
    ∃ ad : Addr, A = some ad ∧ w.cell? (ad.add (k * 3)) = some (.int .i64 (l.getD k (0, 0, 0)).1) ∧ w.cell? ⟨(ad.add (k * 3)).block, (ad.add (k * 3)).off + 1, none⟩ = some (.int .i64 (l.getD k (0, 0, 0)).2.1) ∧ w.cell? ⟨(ad.add (k * 3)).block, (ad.add (k * 3)).off + 2, none⟩ = some (.int .u32 (l.getD k (0, 0, 0)).2.2) := by
  obtain ⟨h1, h2, h3⟩ := h
  obtain ⟨ad, rfl, hc⟩ := h3 (by omega)
  obtain ⟨c, hl, ⟨c0, c1, rfl, hc0, c2, c3, rfl, hc2, hc3⟩, hcell⟩ := hc k _ (List.getElem?_eq_getElem hk)
  have g0 : c0 = [.int .i64 (l[k]).1] := hc0
  have g2 : c2 = [.int .i64 (l[k]).2.1] := hc2
  have g3 : c3 = [.int .u32 (l[k]).2.2] := hc3
  subst g0 g2 g3
  have hs : kOp.sz = 3 := rfl
  rw [hs] at hcell
  rw [List.getD_eq_getElem?_getD, List.getElem?_eq_getElem hk]
  refine ⟨ad, rfl, by simpa using hcell 0 _ rfl, ?_, ?_⟩
  · rw [← add_field ad (k * 3) 1 (by decide)]
    simpa using hcell 1 _ rfl
  · rw [← add_field ad (k * 3) 2 (by decide)]
    simpa using hcell 2 _ rfl
theorem ops_below {w w1 : World} {A : Option Addr} {n : Nat} {l : List OpV} (h : kOp.C w A n l) (hb : Below w.heap.size w w1) : kOp.C w1 A n l := Kd.C_below h hb
end Go.Proofs.Ytnidohbleffjkaa.Win
