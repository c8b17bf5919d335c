/- What the print does not take: the references' functions at FEFF alone, by hand, in the printed form. -/
import Derived.Test.YtakjkgjbjannbaaProg
import Derived.Below
import Derived.Deep.Draws
import Derived.Deep.AppendLies
import Derived.Maps.AppendAt
import Derived.OwnWalk
import Derived.Laws.BytesArg
import Derived.Laws.MakeOwn
import Derived.Laws.OwnMore
import Derived.Deep.OwnRows
import Derived.Tactics
import Derived.Lib.ConvBytes
import Derived.Laws.Slices
import Derived.WalkKit
import Derived.KernelRfl
import Derived.RowKit3
import Derived.Deep.LoopGhost
import Derived.Deep.QuietTactic
import Derived.BigQuiet
import Derived.WideLaws
import Derived.Deep.DeepCutAuto
import Derived.Deep.CutBlock
import Derived.Deep.RegionHeld3
import Derived.Laws.Rows
import Derived.Lib.AppendStr
import Derived.ArgAppend
import Derived.Laws.IdiomCopy
import Derived.OrdersHeld
import Derived.Laws.BitsLemmas
import Derived.RowKit
import Derived.Test.YtakjkgjbjannbaaWWords
import Derived.Test.YtakjkgjbjannbaaWLast
import Derived.Test.YtakjkgjbjannbaaWTab
import Derived.Test.YtakjkgjbjannbaaWFour
import Derived.Test.YtakjkgjbjannbaaWQPut
import Derived.Test.YtakjkgjbjannbaaWApart
import Derived.Test.YtakjkgjbjannbaaWArr
import Derived.Test.YtakjkgjbjannbaaWZeros
import Derived.Test.YtakjkgjbjannbaaWFoot
import Derived.Test.YtakjkgjbjannbaaWKept
import Derived.Test.YtakjkgjbjannbaaWShare
import Derived.Test.YtakjkgjbjannbaaWN
import Derived.Test.YtakjkgjbjannbaaWFootNe
import Derived.Test.YtakjkgjbjannbaaWAt
import Derived.Test.YtakjkgjbjannbaaWEqStruct
import Derived.Test.YtakjkgjbjannbaaWRepsOne
import Derived.Test.YtakjkgjbjannbaaWInv
import Derived.Test.YtakjkgjbjannbaaWInvWords
import Derived.Test.YtakjkgjbjannbaaWGuard
import Derived.Test.YtakjkgjbjannbaaWNEv
import Derived.Test.YtakjkgjbjannbaaWMore
namespace Go.Proofs.Ytakjkgjbjannbaa.Hand
open Go.RowKit Go.Proofs.YtakjkgjbjannbaaW.PrintWords Go.Proofs.YtakjkgjbjannbaaW.PrintLast Go.Proofs.YtakjkgjbjannbaaW.PrintMore
set_option linter.unusedVariables false
set_option linter.unusedSimpArgs false
theorem info5 : (Try.prog.info? 5).map (fun i => (i.zero, i.size, i.bytes)) = some (some (.int .u8 0), 1, 1) := by kernel_rfl
theorem size_calls (w : World) : Calls Try.prog 55 #[.int .u32 65279] w fun e w' => e = .returned (.int .i64 4) ∧ w = w' := by
  go_enter Try.func55, Try.ntmps55
  go_wp2
  go_ret
  exact ⟨rfl, rfl⟩
def OneRel (w : World) (x v i : Value) (wr : World) : Prop := ∃ (c : Int) (l : List Int) (k : Int), x = .int .u32 c ∧ i = .int .i64 k ∧ Below w.heap.size w wr ∧ Kd.R (Kd.int .u8) 5 wr w.heap.size (fun _ => True) v l ∧
  ((k = 1 ∧ c = 65279 ∧ l = []) ∨ (k = 2 ∧ c = 2039 ∧ l = [191]) ∨ (k = 3 ∧ c = 63 ∧ l = [183, 191]) ∨ (k = 4 ∧ c = 1 ∧ l = [191, 183, 191]))
def pilcrowref06_One.f (c : Int) : Option ByteArray := if c = 65279 then some ⟨#[241, 191, 183, 191]⟩ else none
set_option maxRecDepth 100000 in
set_option maxHeartbeats 1000000 in
theorem one_walk (w : World) : Calls Try.prog 37 #[.int .u32 65279] w fun e w' => e = .returned (.string ⟨#[241, 191, 183, 191]⟩) ∧ Below w.heap.size w w' := by
  go_enter Try.func37, Try.ntmps37
  go_wp2_with (first | (go_at_call 55; refine (size_calls _).mono ?_; rintro e w1 ⟨rfl, rfl⟩) | ((with_reducible refine gate_dst (N := 15) rfl ?_); refine Kd.R_lit (Kd.int .u8) _ 5 ?hg (N := 15) ?hd (xs := ([] : List Int)) (inner := []) (ok := fun _ => True) (okp := fun _ => True) ?hr ?hp (fun _ hk => hk) trivial (Below.refl _ _) (Nat.le_refl _) (by simp) ?_; (case hd => rfl); (case hg => rfl); (case hr => first | (go_simp; done) | (go_simp; rfl)); (case hp => exact (Reps.none _ _)); intro v2 w2 ho4 hb2 hg_ hnew_; clear hg_ hnew_))
  go_loopw [0, 4, 5] (fun x v i wr => OneRel w x v i wr) (fun _ _ i _ => 4 - (intOf i).toNat)
  case atStart => exact ⟨65279, [], 1, rfl, rfl, hb2, ho4, .inl ⟨rfl, rfl, rfl⟩⟩
  case round =>
    obtain ⟨c, l, k, rfl, rfl, hB, ho, hcl⟩ := hrel
    have HB := Aside0.mk hB
    have HO := Aside0.mk ho
    clear hB ho
    rcases hcl with ⟨rfl, rfl, rfl⟩ | ⟨rfl, rfl, rfl⟩ | ⟨rfl, rfl, rfl⟩ | ⟨rfl, rfl, rfl⟩
    · obtain ⟨Ao, co, rfl⟩ := Kd.R_slice HO.out
      go_wp2_with (first | ((with_reducible refine gate_dst (N := 25) rfl ?_); refine Kd.R_lit (Kd.int .u8) _ 5 ?hg (N := 25) ?hd (xs := ([191] : List Int)) (inner := [.int .u8 191]) (ok := fun _ => True) (okp := fun _ => True) ?hr ?hp (fun _ hk => hk) trivial (Below.refl _ _) (Nat.le_refl _) (by simp) ?_; (case hd => rfl); (case hg => rfl); (case hr => first | (go_simp; done) | (go_simp; rfl)); (case hp => exact Reps.one (show Kd.M (Kd.int .u8) _ _ _ 191 [.int .u8 191] from rfl) (Reps.none _ _)); intro v7 w7 ho7 hb7 hg_ hnew_; clear hg_ hnew_; have HB7 := Aside0.mk (below_then HB.out HB.out.size hb7); have HO7 := Aside0.mk (Kd.R_lower ho7 HB.out.size); have HR7 := Aside0.mk (Kd.R_below HO.out hb7); clear ho7 hb7) | ((with_reducible refine gate_builtin (b := .append) (xs := #[.tmp 25, .tmp 26]) rfl ?_); at_builtin; refine Kd.R_append_rows (Kd.int .u8) (w0 := w) w.heap.size rfl (.tmp 25) (.tmp 26) 40 5 (.int .u8 0) 1 rfl Try.underlying40 info5 rfl (by decide) (by omega) v7 [191] ([] : List Int) _ _ _ (fun _ => True) (fun _ => False) rfl rfl HO7.out ?aR (fun _ _ h => h) (fun _ h => h.elim) (fun _ _ => trivial) HB7.out HB7.out.size (by decide) ?_; (case aR => exact (Kd.R_reads' HR7.out).2.2); intro v8 w8 ho8 hb8 hg8 hat8; clear hg8 hat8))
      exact ⟨⟨2039, [191], 2, by go_num, by go_num, hb8, ho8, .inr (.inl ⟨rfl, rfl, rfl⟩)⟩, by simp [intOf]⟩
    · obtain ⟨Ao, co, rfl⟩ := Kd.R_slice HO.out
      go_wp2_with (first | ((with_reducible refine gate_dst (N := 25) rfl ?_); refine Kd.R_lit (Kd.int .u8) _ 5 ?hg (N := 25) ?hd (xs := ([183] : List Int)) (inner := [.int .u8 183]) (ok := fun _ => True) (okp := fun _ => True) ?hr ?hp (fun _ hk => hk) trivial (Below.refl _ _) (Nat.le_refl _) (by simp) ?_; (case hd => rfl); (case hg => rfl); (case hr => first | (go_simp; done) | (go_simp; rfl)); (case hp => exact Reps.one (show Kd.M (Kd.int .u8) _ _ _ 183 [.int .u8 183] from rfl) (Reps.none _ _)); intro v7 w7 ho7 hb7 hg_ hnew_; clear hg_ hnew_; have HB7 := Aside0.mk (below_then HB.out HB.out.size hb7); have HO7 := Aside0.mk (Kd.R_lower ho7 HB.out.size); have HR7 := Aside0.mk (Kd.R_below HO.out hb7); clear ho7 hb7) | ((with_reducible refine gate_builtin (b := .append) (xs := #[.tmp 25, .tmp 26]) rfl ?_); at_builtin; refine Kd.R_append_rows (Kd.int .u8) (w0 := w) w.heap.size rfl (.tmp 25) (.tmp 26) 40 5 (.int .u8 0) 1 rfl Try.underlying40 info5 rfl (by decide) (by omega) v7 [183] [191] _ _ _ (fun _ => True) (fun _ => False) rfl rfl HO7.out ?aR (fun _ _ h => h) (fun _ h => h.elim) (fun _ _ => trivial) HB7.out HB7.out.size (by decide) ?_; (case aR => exact (Kd.R_reads' HR7.out).2.2); intro v8 w8 ho8 hb8 hg8 hat8; clear hg8 hat8))
      exact ⟨⟨63, [183, 191], 3, by go_num, by go_num, hb8, ho8, .inr (.inr (.inl ⟨rfl, rfl, rfl⟩))⟩, by simp [intOf]⟩
    · obtain ⟨Ao, co, rfl⟩ := Kd.R_slice HO.out
      go_wp2_with (first | ((with_reducible refine gate_dst (N := 25) rfl ?_); refine Kd.R_lit (Kd.int .u8) _ 5 ?hg (N := 25) ?hd (xs := ([191] : List Int)) (inner := [.int .u8 191]) (ok := fun _ => True) (okp := fun _ => True) ?hr ?hp (fun _ hk => hk) trivial (Below.refl _ _) (Nat.le_refl _) (by simp) ?_; (case hd => rfl); (case hg => rfl); (case hr => first | (go_simp; done) | (go_simp; rfl)); (case hp => exact Reps.one (show Kd.M (Kd.int .u8) _ _ _ 191 [.int .u8 191] from rfl) (Reps.none _ _)); intro v7 w7 ho7 hb7 hg_ hnew_; clear hg_ hnew_; have HB7 := Aside0.mk (below_then HB.out HB.out.size hb7); have HO7 := Aside0.mk (Kd.R_lower ho7 HB.out.size); have HR7 := Aside0.mk (Kd.R_below HO.out hb7); clear ho7 hb7) | ((with_reducible refine gate_builtin (b := .append) (xs := #[.tmp 25, .tmp 26]) rfl ?_); at_builtin; refine Kd.R_append_rows (Kd.int .u8) (w0 := w) w.heap.size rfl (.tmp 25) (.tmp 26) 40 5 (.int .u8 0) 1 rfl Try.underlying40 info5 rfl (by decide) (by omega) v7 [191] [183, 191] _ _ _ (fun _ => True) (fun _ => False) rfl rfl HO7.out ?aR (fun _ _ h => h) (fun _ h => h.elim) (fun _ _ => trivial) HB7.out HB7.out.size (by decide) ?_; (case aR => exact (Kd.R_reads' HR7.out).2.2); intro v8 w8 ho8 hb8 hg8 hat8; clear hg8 hat8))
      exact ⟨⟨1, [191, 183, 191], 4, by go_num, by go_num, hb8, ho8, .inr (.inr (.inr ⟨rfl, rfl, rfl⟩))⟩, by simp [intOf]⟩
    · obtain ⟨Ao, co, rfl⟩ := Kd.R_slice HO.out
      go_upto_region 11 with (fail)
      have HB2 := Aside0.mk (below_alloc HB.out (.cells #[.int .u32 0, .int .u32 0, .int .u32 192, .int .u32 224, .int .u32 240, .int .u32 248] 67))
      have HO2 := Aside0.mk (Kd.R_alloc HO.out (.cells #[.int .u32 0, .int .u32 0, .int .u32 192, .int .u32 224, .int .u32 240, .int .u32 248] 67))
      go_wp2_with (first | ((with_reducible refine gate_dst (N := 37) rfl ?_); refine Kd.R_lit (Kd.int .u8) _ 5 ?hg (N := 37) ?hd (xs := ([241] : List Int)) (inner := [.int .u8 241]) (ok := fun _ => True) (okp := fun _ => True) ?hr ?hp (fun _ hk => hk) trivial (Below.refl _ _) (Nat.le_refl _) (by simp) ?_; (case hd => rfl); (case hg => rfl); (case hr => first | (go_simp; done) | (go_simp; rfl)); (case hp => exact Reps.one (show Kd.M (Kd.int .u8) _ _ _ 241 [.int .u8 241] from rfl) (Reps.none _ _)); intro v7 w7 ho7 hb7 hg_ hnew_; clear hg_ hnew_; have HB7 := Aside0.mk (below_then HB2.out HB2.out.size hb7); have HO7 := Aside0.mk (Kd.R_lower ho7 HB2.out.size); have HR7 := Aside0.mk (Kd.R_below HO2.out hb7); clear ho7 hb7) | ((with_reducible refine gate_builtin (b := .append) (xs := #[.tmp 37, .tmp 38]) rfl ?_); at_builtin; refine Kd.R_append_rows (Kd.int .u8) (w0 := w) w.heap.size rfl (.tmp 37) (.tmp 38) 40 5 (.int .u8 0) 1 rfl Try.underlying40 info5 rfl (by decide) (by omega) v7 [241] [191, 183, 191] _ _ _ (fun _ => True) (fun _ => False) rfl rfl HO7.out ?aR (fun _ _ h => h) (fun _ h => h.elim) (fun _ _ => trivial) HB7.out HB7.out.size (by decide) ?_; (case aR => exact (Kd.R_reads' HR7.out).2.2); intro v8 w8 ho8 hb8 hg8 hat8; clear hg8 hat8; have hcv := own_string (P := Try.prog) Try.underlying40 Try.underlying5 Try.underlying9 (Kd.own_of_R ho8)))
      go_ret
      exact ⟨rfl, hb8⟩
theorem pilcrowref06_One.calls (c : Int) (r : ByteArray) (w : World) (h : pilcrowref06_One.f c = some r) : Calls Try.prog 37 #[.int .u32 c] w fun e w' => e = .returned (.string r) ∧ Below w.heap.size w w' := by
  unfold pilcrowref06_One.f at h
  split at h
  · rename_i hc
    subst hc
    injection h with h
    subst h
    exact one_walk w
  · cases h
end Go.Proofs.Ytakjkgjbjannbaa.Hand
