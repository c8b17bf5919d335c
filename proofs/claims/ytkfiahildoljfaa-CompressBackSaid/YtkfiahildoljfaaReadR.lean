/- The reference's reading. -/
import Derived.Test.YtkfiahildoljfaaRun
namespace Go.Proofs.Ytkfiahildoljfaa.Rst
open Go.RowKit Go.Proofs.Ytkfiahildoljfaa.Win Go.Proofs.Ytkfiahildoljfaa.Stp Go.Proofs.Ytkfiahildoljfaa.Mach
set_option linter.unusedVariables false
set_option linter.unusedSimpArgs false
def RReadPost (w : World) (s : ByteArray) (e : Ending) (w' : World) : Prop :=
  ∃ (A : Option Addr) (c : Nat) (out : List Int) (b : B4), e = .returned (.tuple #[.slice A out.length c, .int .i64 b.err, .int .i64 b.at_]) ∧ Dec.Ran (Dec.byt s) out b ∧ w'.ownsRow w.heap.size 35 1 (.slice A out.length c) out.length (u32s out) ∧ Below w.heap.size w w'
theorem rread_calls (s : ByteArray) (w : World) (hs : s.size ≤ 100000) : Calls Try.prog 13 #[.string s] w (RReadPost w s) := by
  have HRun := Lib.hid (run_calls s w hs)
  go_enter Try.func13, Try.ntmps13
  go_wp2_with fail
  refine HRun.out.mono ?_
  rintro e w1 ⟨g, go, rb, v, t, rfl, hR, hS, hB, h1, h2⟩
  have q0 := hR.f0
  have q5 := hR.f5
  have q6 := hR.f6
  have HR := Lib.hid hR
  have HS := Lib.hid hS
  have HB := Lib.hid hB
  have H2 := Lib.hid h2
  obtain ⟨A, c, rfl⟩ := Lst.owns_form hR.row
  clear hR hS hB h1 h2
  go_wp2_with fail
  go_quiet (fail)
  go_wp2_with fail
  obtain ⟨b, r1, r2, r3⟩ := HS.out
  refine bodyPost_ret (v := .tuple #[.slice A t.out.length c, .int .i64 t.err, .int .i64 t.pl]) (by simp [results, Try.results13, go_sem]) rfl ⟨A, c, t.out, b, ?_, r1, Dec.own_weaken (HR.out.row) H2.out, below_drewN HB.out _⟩
  rw [r2, r3]
end Go.Proofs.Ytkfiahildoljfaa.Rst
