/- codec.Decode by *uni8.Decoder. codec.Decode by UTF-8, at ASCII. A machine that eats scalars and tells bytes, in memory: its base, what it keeps, and whatever else it has. A difference's bytes: the functions of layer 11 that the encoder calls. Arguments that are rows of rows, of strings, of structs: opened as the print's words read them; no condition beside the reading itself. Lists of numbers in memory; an append of a row; two lists compared. How an encoder is fed that tells each scalar's bytes at once. -/
import Derived.Test.YtooiooledeblmaaGreatM2
import Derived.Laws.BytesArg
import Derived.Deep.RegionWith
import Derived.Deep.CutBlock
import Derived.Deep.DeepCutAuto
import Derived.Test.YtooiooledeblmaaGreatWMore
import Derived.Test.YtooiooledeblmaaGreatWSized
import Derived.Deep.Slices
import Derived.ChangeSame
import Derived.ProofKit
import Derived.Laws.AppendOwnNone
import Derived.Laws.AppendOwn
section
namespace Go.Proofs.YtooiooledeblmaaGreat.Dcd
open Go.RowKit Go.Proofs.YtooiooledeblmaaGreat.Win Go.Proofs.YtooiooledeblmaaGreat.Stp Go.Proofs.YtooiooledeblmaaGreat.Mach Go.Proofs.YtooiooledeblmaaGreat.Dec Go.Proofs.YtooiooledeblmaaGreatW.PrintMore
set_option linter.unusedVariables false
set_option linter.unusedSimpArgs false
theorem mkd_uni8 (v : Value) (w : World) : (Instr.makeInterface 126 v).run Tryz.prog w = .ok (.iface 126 v) w := run_makeInterface w 126 v (by kernel_rfl)
theorem feedd_uni8 (g : Nat) (w : World) : (method 407 126 (.pointer (some ⟨g, 0, none⟩)) "Feed").run Tryz.prog w = .ok (230, .pointer (some ⟨g, 0, none⟩)) w := by kernel_rfl
theorem endd_uni8 (g : Nat) (w : World) : (method 407 126 (.pointer (some ⟨g, 0, none⟩)) "End").run Tryz.prog w = .ok (229, .pointer (some ⟨g, 0, none⟩)) w := by kernel_rfl
theorem doned_uni8 (g : Nat) (w : World) : (method 407 126 (.pointer (some ⟨g, 0, none⟩)) "Done").run Tryz.prog w = .ok (228, .pointer (some ⟨g, 0, none⟩)) w := by kernel_rfl
theorem faild_uni8 (g : Nat) (w : World) : (method 407 126 (.pointer (some ⟨g, 0, none⟩)) "Fail").run Tryz.prog w = .ok (140, .pointer (some ⟨g, 0, none⟩)) w := by kernel_rfl
attribute [local go_sem] mkd_uni8 feedd_uni8 endd_uni8 doned_uni8 faild_uni8
set_option maxRecDepth 100000 in
set_option maxHeartbeats 8000000 in
theorem decode_uni8 {c : Int} {s : ByteArray} {out : List Int} {w : World} (hnew : ∀ wx, Calls Tryz.prog 37 #[.int .i64 c] wx (NewDPost 126 230 229 s out wx)) (h0 : 0 < out.length) (hl : out.length ≤ 100000) (hs : s.size ≤ 100000) :
    Calls Tryz.prog 18 #[.int .i64 c, .string s] w (DecPost w out) := by
  have HNew := Lib.hid hnew
  clear hnew
  obtain ⟨i0, hi, hz0, hz1, hz2⟩ := info_parts info_u32
  have HN : Hid (i0.zero = some (.int .u32 0) ∧ i0.size = 1 ∧ i0.bytes = 4 ∧ Tryz.prog.info? 31 = some i0) := ⟨hz0, hz1, hz2, hi⟩
  clear hz0 hz1 hz2 hi
  go_enter Tryz.func18, Tryz.ntmps18
  go_wp2_with fail
  refine (HNew.out _).mono ?_
  rintro e w1 ⟨g, own, hown, hg, rfl, hb, hrd⟩
  obtain ⟨w0, hw0⟩ : ∃ w0, w0 = w.alloc (.cells #[.int .i64 0, .int .i64 0] 39) := ⟨_, rfl⟩
  rw [← hw0] at hown hg hb
  have hz0 : w0.heap.size = w.heap.size + 1 := by rw [hw0]; simp
  have hr0 : w0.heap[w.heap.size]? = some (.cells #[.int .i64 0, .int .i64 0] 39 (0, 0)) := by rw [hw0]; exact heap_alloc_new _ _
  have hb0 : Below w.heap.size w w0 := by rw [hw0]; exact (Below.refl _ _).alloc (Nat.le_refl _) _
  have HR1 := Lib.hid ((hb.block w.heap.size (by omega)).trans hr0)
  have HB1 := Lib.hid (hb0.trans (Below.mono hb (by omega)))
  have HOw := Lib.hid (show ∀ i, own i → w.heap.size < i ∧ i < w1.heap.size from fun i hi => by have := hown i hi; omega)
  have HRd := Lib.hid hrd
  have HG := Lib.hid (show w.heap.size < g by omega)
  clear hrd hb hw0 hz0 hr0 hb0 hown hg
  go_wp2_with fail
  go_loopw [1, 8] (fun v o wr => v = .string s ∧ o = .slice none 0 0 ∧ w1 = wr) (fun _ _ _ => 0)
  case atStart => exact ⟨rfl, rfl, rfl⟩
  case round =>
    obtain ⟨rfl, rfl, rfl⟩ := hrel
    have HFd := Lib.hid (HRd.out w1 (Below.refl _ _))
    go_wp2_with fail
    refine HFd.out.mono ?_
    rintro e w2 ⟨A, c2, rfl, hc2, ho2, hfd⟩
    obtain ⟨r, rfl⟩ : ∃ r, A = some ⟨r, 0, none⟩ := by
      rcases ho2.2 with ⟨h1, h2⟩ | ⟨g', cap, cur, h1, _⟩
      · omega
      · injection h1 with h1
        exact ⟨_, h1⟩
    have hle : out.length ≤ c2 := by
      rcases ho2.2 with ⟨h1, _⟩ | ⟨g', cap, cur, h1, _, _, h4, _⟩
      · cases h1
      · injection h1 with _ _ h1; omega
    have hm : c2 ≤ 9223372036854775807 := by
      rcases ho2.2 with ⟨h1, _⟩ | ⟨g', cap, cur, h1, _, _, h4, h5, _⟩
      · cases h1
      · injection h1 with _ _ h1; unfold maxLen at h5; omega
    have HR2 := Lib.hid ((hc2.block w.heap.size (Array.getElem?_eq_some_iff.1 HR1.out).1 (fun h => by have := HOw.out _ h; omega)).trans HR1.out)
    have HB2 := Lib.hid (Chg.below HB1.out hc2 (fun i hi => by have := HOw.out i hi; omega))
    have HC2 := Lib.hid hc2.size
    have HCE := Lib.hid (ho2.cells (g := r) rfl)
    have HFe := Lib.hid hfd
    clear hc2 ho2 hfd
    go_wp2_with (at_builtin; (refine wpList_append_lies _ rfl (.tmp 28) (.tmp 29) 24 rfl w2.heap.size 31 i0 (.int .u32 0) 1 4 Tryz.underlying24 HN.out.2.2.2 HN.out.1 HN.out.2.1 HN.out.2.2.1 rfl (by decide) (.slice none 0 0) 0 [] rfl (World.ownsRow_nil _ _ _ _) ⟨r, 0, none⟩ _ _ (u32s out) rfl ?c1 ?c2 ?c3 ?c4 ?c5 ?c6 (Nat.le_refl _) _ rfl ?_; (case c1 => rw [u32s_length]; omega); (case c2 => exact HCE.out); (case c3 => intro u hu; unfold u32s at hu; rw [List.mem_map] at hu; obtain ⟨y, _, rfl⟩ := hu; rfl); (case c4 => omega); (case c5 => unfold maxLen; omega); (case c6 => omega); intro r1 c1 w3 hown3 hgrow3 hat3 hlt3; have HO3 := Lib.hid hown3; have HB23 := Lib.hid ((Below.refl _ w2).grown hgrow3 (Nat.le_refl _) (fun k hk => by simp [Value.ownBlock] at hk)); have HE := Lib.hid (HFe.out w3 HB23.out); clear hown3 hgrow3 hat3 hlt3))
    refine HE.out.mono ?_
    rintro e w4 ⟨rfl, hc4, hdn, b, hbs, hb1, hb2⟩
    have HR4 := Lib.hid ((hc4.block w.heap.size (by have := HC2.out; have := HB23.out.size; have := (Array.getElem?_eq_some_iff.1 HR2.out).1; omega) (fun h => by have := HOw.out _ h; omega)).trans ((HB23.out.block _ (Array.getElem?_eq_some_iff.1 HR2.out).1).trans HR2.out))
    have HB4 := Lib.hid (Chg.below (HB2.out.trans (Below.mono HB23.out HB2.out.size)) hc4 (fun i hi => by have := HOw.out i hi; omega))
    have HO4 := Lib.hid (own_chg HO3.out hc4 (fun i hi => by have := HOw.out i hi; have := HC2.out; omega))
    have HLt := Lib.hid (show w.heap.size < w2.heap.size from (Array.getElem?_eq_some_iff.1 HR2.out).1)
    have HDn := Lib.hid hdn
    have HFl := Lib.hid (fail_calls g b w4 hbs)
    have HBb := Lib.hid (And.intro hb1 hb2)
    clear hc4 hdn hbs hb1 hb2
    go_wp2_with fail
    go_loopw [8] (fun o wr => o = .slice (some ⟨r1, 0, none⟩) out.length c1 ∧ w4 = wr) (fun _ _ => 0)
    case atStart => exact ⟨rfl, rfl⟩
    case round =>
      obtain ⟨rfl, rfl⟩ := hrel
      go_wp2_with fail
      refine HDn.out.mono ?_
      rintro e w6 ⟨rfl, rfl⟩
      go_wp2_with fail
      refine HFl.out.mono ?_
      rintro e w7 ⟨rfl, rfl⟩
      obtain ⟨w7, hw7⟩ : ∃ w7, w7 = w4.alloc (.cells #[.int .i64 b.err, .int .i64 b.pl] 39) := ⟨_, rfl⟩
      have hw7' : w4.alloc (.cells #[.int .i64 b.err, .int .i64 b.pl] 39) = w7 := hw7.symm
      have hr7 : w7.heap[w.heap.size]? = some (.cells #[.int .i64 0, .int .i64 0] 39 (0, 0)) := by rw [hw7, Below.heap_alloc _ _ _ (Array.getElem?_eq_some_iff.1 HR4.out).1]; exact HR4.out
      have hb7 : Below w.heap.size w w7 := by rw [hw7]; exact HB4.out.alloc HB4.out.size _
      have ho7 := HO4.out.alloc (.cells #[.int .i64 b.err, .int .i64 b.pl] 39)
      rw [← hw7] at ho7
      rw [hw7']
      have c0 : w7.cell? ⟨w.heap.size, 0, none⟩ = some (.int .i64 0) := by rw [cell_of hr7]; rfl
      have c1' : w7.cell? ⟨w.heap.size, 1, none⟩ = some (.int .i64 0) := by rw [cell_of hr7]; rfl
      have f0 := frozen_of hr7 0
      have f1 := frozen_of hr7 1
      have HB7 := Lib.hid hb7
      have HO7 := Lib.hid ho7
      clear hw7 hw7' hr7 hb7 ho7
      go_wp2_with fail
      have e0 : ((w7.setCell ⟨w.heap.size, 0, none⟩ (.int .i64 b.err)).setCell ⟨w.heap.size, 1, none⟩ (.int .i64 b.pl)).cell? ⟨w.heap.size, 0, none⟩ = some (.int .i64 0) := by
        rw [World.cell?_setCell_other _ _ _ _ (by simp), World.cell?_setCell_same _ _ _ c0, HBb.out.1]
      have e1 : ((w7.setCell ⟨w.heap.size, 0, none⟩ (.int .i64 b.err)).setCell ⟨w.heap.size, 1, none⟩ (.int .i64 b.pl)).cell? ⟨w.heap.size, 1, none⟩ = some (.int .i64 0) := by
        rw [World.cell?_setCell_same (u := .int .i64 0) _ _ _ (by rw [World.cell?_setCell_other _ _ _ _ (by simp)]; exact c1'), HBb.out.2]
      refine bodyPost_ret (v := .tuple #[.slice (some ⟨r1, 0, none⟩) out.length c1, .agg #[.int .i64 0, .int .i64 0]]) (by simp [results, Tryz.results18, go_sem, e0, e1]) rfl ⟨r1, c1, rfl, ?_, (HB7.out.setCell (p := ⟨w.heap.size, 0, none⟩) (Nat.le_refl _) _).setCell (p := ⟨w.heap.size, 1, none⟩) (Nat.le_refl _) _⟩
      have ho := ownsRow_setCell_below (ownsRow_setCell_below HO7.out (a := ⟨w.heap.size, 0, none⟩) HLt.out (.int .i64 b.err)) (a := ⟨w.heap.size, 1, none⟩) HLt.out (.int .i64 b.pl)
      simp only [Nat.zero_add, List.nil_append] at ho
      exact own_weaken ho (Nat.le_of_lt HLt.out)
end Go.Proofs.YtooiooledeblmaaGreat.Dcd
end
section
namespace Go.Proofs.YtooiooledeblmaaGreat.Dcd
open Go.RowKit Go.Proofs.YtooiooledeblmaaGreat.Win Go.Proofs.YtooiooledeblmaaGreat.Stp Go.Proofs.YtooiooledeblmaaGreat.Mach Go.Proofs.YtooiooledeblmaaGreat.Dec Go.Proofs.YtooiooledeblmaaGreatW.PrintMore
set_option linter.unusedVariables false
set_option linter.unusedSimpArgs false
def asR : Unit → List Value := fun _ => [.int .i64 0, .int .u8 0, .int .u8 0, .int .u32 0]
def asN : Unit → Int → Option (Unit × List Int) := fun _ x => if x < 128 then some ((), [x]) else none
set_option maxHeartbeats 2000000 in
theorem next_ascii {w : World} {g rb : Nat} {v : Value} {b : B4} {l : List Int} (x : Int) (h : InAt 194 w g rb v b l (asR ())) (h0 : 0 ≤ x) (h1 : x < 128) (hl : l.length ≤ 100000) :
    Calls Tryz.prog 232 #[.pointer (some ⟨g, 0, none⟩), .int .u8 x] w (NextPost 194 asR g rb v b l w () [x]) := by
  have h5 : w.cell? ⟨g, 5, none⟩ = some (.int .i64 0) := h.cell 0
  have w1 : IntKind.u32.wrap x = x := by rw [IntKind.wrap_u32]; omega
  have ha := h.alloc (.cells #[.int .u32 x] 31)
  have hh := hold_calls g 4 rb v l x w.heap.size (w.alloc (.cells #[.int .u32 x] 31)) ha.c4 (ha.fz 4) ha.row ha.rbl ha.row_g (by rw [cell_of (heap_alloc_new _ _)]; rfl) (by omega)
  have HA := Lib.hid ha
  have HH := Lib.hid hh
  clear h ha hh
  go_enter Tryz.func232, Tryz.ntmps232
  go_wp2_with fail
  refine HH.out.mono ?_
  rintro e w' ⟨rfl, r, c, w2, rfl, hown, hg, hat, hr⟩
  obtain ⟨hd, hc⟩ := HA.out.hold x hown hg hr
  have HD := Lib.hid hd
  have HC := Lib.hid hc
  clear hd hc hown hg hat hr
  go_wp2_with fail
  go_ret
  exact ⟨rfl, _, HD.out, (Chg.alloc _ _).trans HC.out⟩
theorem mkd_u (v : Value) (w : World) : (Instr.makeInterface 126 v).run Tryz.prog w = .ok (.iface 126 v) w := run_makeInterface w 126 v (by kernel_rfl)
theorem dnew_u8 (w : World) : Calls Tryz.prog 70 #[] w fun e w' => e = .returned (.pointer (some ⟨w.heap.size, 0, none⟩)) ∧ InAt 194 w' w.heap.size 0 nilS b40 [] (asR ()) ∧ Below w.heap.size w w' := by
  go_enter Tryz.func70, Tryz.ntmps70
  go_wp2
  go_ret
  exact ⟨rfl, ⟨heap_alloc_new _ _, World.ownsRow_nil _ _ _ _, fun _ => rfl, Nat.zero_le _, by decide⟩, (Below.refl _ _).alloc (Nat.le_refl _) _⟩
theorem dend_ascii {w : World} {g : Nat} {b : B4} (h : InAt 194 w g 0 nilS b [] (asR ())) (hb : b.going = true) :
    Calls Tryz.prog 229 #[.pointer (some ⟨g, 0, none⟩)] w fun e w' => e = .returned (.tuple #[]) ∧ InAt 194 w' g 0 nilS { b with fin := true } [] (asR ()) ∧ Chg (IS g nilS) w w' := by
  have h5 : w.cell? ⟨g, 5, none⟩ = some (.int .i64 0) := h.cell 0
  have HE := Lib.hid (bend_in h hb)
  clear h hb
  go_enter Tryz.func229, Tryz.ntmps229
  go_wp2_with fail
  refine HE.out.mono ?_
  rintro e w1 ⟨rfl, hd, hc⟩
  have HD := Lib.hid hd
  have HC := Lib.hid hc
  clear hd hc
  go_wp2_with fail
  go_end0
  exact ⟨rfl, HD.out, HC.out⟩
section
attribute [local go_sem] mkd_u
theorem dnew_1 {s : ByteArray} {out : List Int} (hs : s.size ≤ 4000) (hst : stepsR asN () (byt s) = some ((), out)) (w : World) :
    Calls Tryz.prog 37 #[.int .i64 1] w (NewDPost 126 230 229 s out w) := by
  go_enter Tryz.func37, Tryz.ntmps37
  go_wp2_with fail
  refine (dnew_u8 _).mono ?_
  rintro e w1 ⟨rfl, hd, hb⟩
  go_wp2_with fail
  go_ret2
  refine ⟨w.heap.size, IS w.heap.size nilS, ?_, Nat.le_refl _, rfl, hb, ?_⟩
  · intro i hi
    have := hd.lt
    rcases hi with hi | hi
    · omega
    · simp [Value.ownBlock] at hi
  · intro wy hy
    have hdy := hd.keep hy.size (hy.block _ hd.lt) (fun k hk => by simp [Value.ownBlock] at hk)
    refine (dfeed_uni8 (rest := asR) (N := asN) (I := fun _ => True) s 4096 hdy trivial ?_ ?_ hst hs rfl).mono ?_
    · intro r r2 x em w rb v b l _ hh x0 x1 hl hn
      unfold asN at hn
      split at hn
      · simp only [Option.some.injEq, Prod.mk.injEq] at hn
        obtain ⟨_, rfl⟩ := hn
        exact next_ascii x hh x0 (by assumption) hl
      · cases hn
    · intro r r2 x em _ x0 x1 hn
      unfold asN at hn
      split at hn
      · simp only [Option.some.injEq, Prod.mk.injEq] at hn
        obtain ⟨_, rfl⟩ := hn
        exact ⟨trivial, by simp⟩
      · cases hn
    rintro e w2 ⟨A, c, rfl, hd2, hc2, ho2⟩
    refine ⟨A, c, rfl, hc2, ho2, ?_⟩
    intro w3 h3
    have hd3 := hd2.keep h3.size (h3.block _ hd2.lt) (fun k hk => by simp [Value.ownBlock] at hk)
    refine (dend_ascii hd3 rfl).mono ?_
    rintro e w4 ⟨rfl, hd4, hc4⟩
    exact ⟨rfl, hc4, done_in hd4 rfl, _, hd4.base, rfl, rfl⟩
end
theorem decode_A (w : World) : Calls Tryz.prog 18 #[.int .i64 1, .string (strOfNums [65])] w (DecPost w [65]) :=
  decode_uni8 (dnew_1 (by decide) (by decide +kernel)) (by decide) (by decide) (by decide)
end Go.Proofs.YtooiooledeblmaaGreat.Dcd
end
section
namespace Go.Proofs.YtooiooledeblmaaGreat.Out
open Go.RowKit Go.Proofs.YtooiooledeblmaaGreat.Win Go.Proofs.YtooiooledeblmaaGreat.Stp Go.Proofs.YtooiooledeblmaaGreatW.PrintMore
set_option linter.unusedVariables false
set_option linter.unusedSimpArgs false
attribute [local go_sem] max2_int min2_int max_two min_two
def outCells (b : B4) (l : List Int) (rs : List Value) : Array Value := (.int .i64 b.at_ :: .int .i64 b.err :: .int .i64 b.pl :: .bool b.fin :: .string (strOfNums l) :: rs).toArray
structure OutAt (T : TypeId) (w : World) (g : Nat) (b : B4) (l : List Int) (rs : List Value) : Prop where
  blk : w.heap[g]? = some (.cells (outCells b l rs) T (0, 0))
section
variable {T : TypeId} {w : World} {g : Nat} {b : B4} {l : List Int} {rs : List Value}
theorem OutAt.base (h : OutAt T w g b l rs) : BaseAt w g b := ⟨by rw [cell_of h.blk]; rfl, by rw [cell_of h.blk]; rfl, by rw [cell_of h.blk]; rfl, by rw [cell_of h.blk]; rfl, frozen_of h.blk⟩
theorem OutAt.fz (h : OutAt T w g b l rs) : ∀ j, w.frozen? ⟨g, j, none⟩ = false := frozen_of h.blk
theorem OutAt.c4 (h : OutAt T w g b l rs) : w.cell? ⟨g, 4, none⟩ = some (.string (strOfNums l)) := by rw [cell_of h.blk]; rfl
theorem OutAt.c5 {v : Value} (h : OutAt T w g b l (v :: rs)) : w.cell? ⟨g, 5, none⟩ = some v := by rw [cell_of h.blk]; rfl
theorem OutAt.lt (h : OutAt T w g b l rs) : g < w.heap.size := (Array.getElem?_eq_some_iff.1 h.blk).1
theorem OutAt.keep {w' : World} (h : OutAt T w g b l rs) (h0 : w'.heap[g]? = w.heap[g]?) : OutAt T w' g b l rs := ⟨h0.trans h.blk⟩
theorem OutAt.alloc (h : OutAt T w g b l rs) (o : Obj) : OutAt T (w.alloc o) g b l rs := h.keep (Below.heap_alloc w o g h.lt)
theorem OutAt.below {w' : World} (h : OutAt T w g b l rs) (hb : Below w.heap.size w w') : OutAt T w' g b l rs := h.keep (hb.block g h.lt)
theorem OutAt.drewN (h : OutAt T w g b l rs) (n : Nat) : OutAt T (w.drewN n) g b l rs := h.keep rfl
theorem OutAt.set (h : OutAt T w g b l rs) (j : Nat) (v : Value) {b' : B4} {l' : List Int} {rs' : List Value} (he : (outCells b l rs).setIfInBounds j v = outCells b' l' rs') : OutAt T (w.setCell ⟨g, j, none⟩ v) g b' l' rs' := by
  refine ⟨?_⟩
  rw [heap_setCell_same w g j _ _ _ h.blk, he]
theorem OutAt.setAt (h : OutAt T w g b l rs) (n : Int) : OutAt T (w.setCell ⟨g, 0, none⟩ (.int .i64 n)) g { b with at_ := n } l rs := h.set 0 _ (by simp [outCells])
theorem OutAt.setFin (h : OutAt T w g b l rs) (f : Bool) : OutAt T (w.setCell ⟨g, 3, none⟩ (.bool f)) g { b with fin := f } l rs := h.set 3 _ (by simp [outCells])
theorem OutAt.setStr (h : OutAt T w g b l rs) (l' : List Int) : OutAt T (w.setCell ⟨g, 4, none⟩ (.string (strOfNums l'))) g b l' rs := h.set 4 _ (by simp [outCells])
theorem OutAt.set5 {v : Value} (h : OutAt T w g b l (v :: rs)) (v' : Value) : OutAt T (w.setCell ⟨g, 5, none⟩ v') g b l (v' :: rs) := h.set 5 _ (by simp [outCells])
end
/-- One block alone may turn. -/
def ES (g : Nat) : Nat → Prop := fun i => i = g
theorem es_g {g : Nat} {w : World} (j : Nat) (v : Value) : Chg (ES g) w (w.setCell ⟨g, j, none⟩ v) := Chg.set (S := ES g) w rfl j v
theorem str_append (a b : List Int) : strOfNums a ++ strOfNums b = strOfNums (a ++ b) := by
  have : (strOfNums a ++ strOfNums b).data = (strOfNums (a ++ b)).data := by
    rw [ByteArray.data_append]
    simp [strOfNums]
  cases h1 : (strOfNums a ++ strOfNums b)
  cases h2 : strOfNums (a ++ b)
  rw [h1, h2] at this
  simp only at this
  rw [this]
theorem str_size (a : List Int) : (strOfNums a).size = a.length := by simp [strOfNums, ByteArray.size]
theorem str_extract (l : List Int) (a b : Nat) : (strOfNums l).extract a b = strOfNums ((l.drop a).take (b - a)) := by
  have : ((strOfNums l).extract a b).data = (strOfNums ((l.drop a).take (b - a))).data := by
    rw [ByteArray.data_extract]
    simp [strOfNums, List.extract_eq_take_drop]
  cases h1 : (strOfNums l).extract a b
  cases h2 : strOfNums ((l.drop a).take (b - a))
  rw [h1, h2] at this
  simp only at this
  rw [this]
def isB (c : Int) : Bool := decide (c ≤ 1114111) && (decide (c < 55296) || decide (57343 < c))
theorem isB_iff {c : Int} : isB c = true ↔ c ≤ 1114111 ∧ (c < 55296 ∨ 57343 < c) := by unfold isB; simp
theorem sis_calls (c : Int) (w : World) : Calls Tryz.prog 77 #[.int .u32 c] w fun e w' => e = .returned (.bool (isB c)) ∧ w = w' := by
  unfold isB
  by_cases h1 : c ≤ 1114111
  · by_cases h2 : c < 55296
    · rw [decide_eq_true h1, decide_eq_true h2]
      go_enter Tryz.func77, Tryz.ntmps77
      go_wp2
      go_ret
      exact ⟨rfl, rfl⟩
    · rw [decide_eq_true h1, decide_eq_false h2]
      go_enter Tryz.func77, Tryz.ntmps77
      go_wp2
      go_ret
      exact ⟨rfl, rfl⟩
  · rw [decide_eq_false h1]
    go_enter Tryz.func77, Tryz.ntmps77
    go_wp2
    go_ret
    exact ⟨rfl, rfl⟩
section
variable {T : TypeId} {w : World} {g : Nat} {b : B4} {l : List Int} {rs : List Value}
/-- What waits fits: all of it is given. -/
theorem give_calls (room : Int) (h : OutAt T w g b l rs) (hl : l.length ≤ 1000000) (hr : (l.length : Int) ≤ room) : Calls Tryz.prog 144 #[.pointer (some ⟨g, 4, none⟩), .int .i64 room] w fun e w' => e = .returned (.string (strOfNums l)) ∧ OutAt T w' g b [] rs ∧ Chg (ES g) w w' := by
  have h4 := h.c4
  have f4 := h.fz 4
  have hst := h.setStr []
  have s1 := str_size l
  have e1 := str_extract l 0 l.length
  have e2 := str_extract l l.length l.length
  rw [← s1] at e1 e2
  have t1 : (l.drop 0).take ((strOfNums l).size - 0) = l := by rw [s1]; simp
  have t2 : (l.drop (strOfNums l).size).take ((strOfNums l).size - (strOfNums l).size) = [] := by simp
  rw [t1] at e1
  rw [t2] at e2
  have hsz : (strOfNums l).size ≤ 1000000 := by omega
  have hrm : ((strOfNums l).size : Int) ≤ room := by omega
  have HS := Lib.hid hst
  obtain ⟨Z, hZ⟩ : ∃ Z, Z = strOfNums [] := ⟨_, rfl⟩
  rw [← hZ] at e2
  have HZ := Lib.hid hZ
  clear h hst t1 t2 s1 hl hr hZ
  generalize strOfNums l = A at *
  have hnn : (if (if room < 0 then 0 else room) < (A.size : Int) then (if room < 0 then 0 else room) else (A.size : Int)) = A.size := by repeat' (first | omega | split)
  have HN := Lib.hid hnn
  clear hnn
  go_enter Tryz.func144, Tryz.ntmps144
  go_upto_region 1 with fail
  go_cut [5] (fun v wx => v = .int .i64 (A.size : Int) ∧ w = wx)
  case first =>
    go_wp2_with fail
    all_goals
      go_meet
      refine ⟨?_, rfl⟩
      congr 1
      repeat' (first | omega | split)
  case rest =>
    obtain ⟨rfl, rfl⟩ := hcut
    go_wp2_with fail
    go_ret
    refine ⟨rfl, ?_, es_g 4 _⟩
    have := HS.out
    rw [show strOfNums [] = ByteArray.empty from rfl] at this
    exact this
theorem kept_calls (h : OutAt T w g b l rs) (hl : l.length ≤ 1000000) : Calls Tryz.prog 142 #[.pointer (some ⟨g, 4, none⟩)] w fun e w' => e = .returned (.int .i64 l.length) ∧ w = w' := by
  have h4 := h.c4
  have s1 := str_size l
  generalize strOfNums l = A at *
  clear h
  rw [← s1] at hl ⊢
  clear s1
  go_enter Tryz.func142, Tryz.ntmps142
  go_wp2
  go_ret
  exact ⟨rfl, rfl⟩
theorem keep_calls (xs : List Int) (h : OutAt T w g b l rs) (hl : l.length ≤ 1000000) (hx : xs.length ≤ 1000000) : Calls Tryz.prog 146 #[.pointer (some ⟨g, 4, none⟩), .string (strOfNums xs)] w fun e w' => e = .returned (.tuple #[]) ∧ OutAt T w' g b (l ++ xs) rs ∧ Chg (ES g) w w' := by
  have h4 := h.c4
  have f4 := h.fz 4
  have HS := Lib.hid (h.setStr (l ++ xs))
  have HA := Lib.hid (str_append l xs)
  have s1 := str_size l
  have s2 := str_size xs
  rw [← s1] at hl
  rw [← s2] at hx
  clear h s1 s2
  generalize strOfNums l = A at *
  generalize strOfNums xs = X at *
  go_enter Tryz.func146, Tryz.ntmps146
  go_wp2
  go_end0
  refine ⟨rfl, ?_, es_g 4 _⟩
  rw [HA.out]
  exact HS.out
theorem oend_calls (h : OutAt T w g b l rs) (hg : b.going = true) : Calls Tryz.prog 139 #[.pointer (some ⟨g, 0, none⟩)] w fun e w' => e = .returned (.tuple #[]) ∧ OutAt T w' g { b with fin := true } l rs ∧ Chg (ES g) w w' := by
  refine (bend_calls g b w h.base).mono ?_
  rintro e w' ⟨rfl, rfl⟩
  rw [if_pos hg]
  exact ⟨rfl, h.setFin true, es_g 3 _⟩
theorem odone_calls (h : OutAt T w g b l rs) (hl : l.length ≤ 1000000) : Calls Tryz.prog 138 #[.pointer (some ⟨g, 0, none⟩)] w fun e w' => e = .returned (.bool (!b.going && (l.length == 0))) ∧ w = w' := by
  have hgo := Lib.hid (going_calls g b w h.base)
  have hke := Lib.hid (kept_calls h hl)
  clear h
  cases hg : b.going with
  | true =>
    rw [hg] at hgo
    clear hg
    go_enter Tryz.func138, Tryz.ntmps138
    go_wp2_with fail
    refine hgo.out.mono ?_
    rintro e w1 ⟨rfl, rfl⟩
    go_wp2_with fail
    go_ret
    exact ⟨rfl, rfl⟩
  | false =>
    rw [hg] at hgo
    clear hg
    go_enter Tryz.func138, Tryz.ntmps138
    go_wp2_with fail
    refine hgo.out.mono ?_
    rintro e w1 ⟨rfl, rfl⟩
    go_wp2_with fail
    refine hke.out.mono ?_
    rintro e w1 ⟨rfl, rfl⟩
    go_wp2_with fail
    go_ret
    refine ⟨?_, rfl⟩
    have : ((l.length : Int) == 0) = (l.length == 0) := by rw [Bool.eq_iff_iff]; simp
    simp [this]
end
end Go.Proofs.YtooiooledeblmaaGreat.Out
end
section
namespace Go.Proofs.YtooiooledeblmaaGreat.Out
open Go.RowKit Go.Proofs.YtooiooledeblmaaGreat.Win Go.Proofs.YtooiooledeblmaaGreat.Stp Go.Proofs.YtooiooledeblmaaGreatW.PrintMore
set_option linter.unusedVariables false
set_option linter.unusedSimpArgs false
theorem andNot127 (c : Nat) (h : c < 4294967296) : c &&& 4294967168 = c / 128 * 128 := by
  have e1 : (4294967168 : Nat) = (2 ^ 25 - 1) <<< 7 := by decide
  have e2 : c / 128 * 128 = (c >>> 7) <<< 7 := by rw [Nat.shiftRight_eq_div_pow, Nat.shiftLeft_eq]
  apply Nat.eq_of_testBit_eq
  intro i
  rw [Nat.testBit_and, e1, e2, Nat.testBit_shiftLeft, Nat.testBit_shiftLeft, Nat.testBit_two_pow_sub_one, Nat.testBit_shiftRight]
  by_cases h7 : 7 ≤ i
  · have e3 : 7 + (i - 7) = i := by omega
    rw [e3]
    by_cases h32 : i < 32
    · simp [h7, show i - 7 < 25 by omega]
    · have : c.testBit i = false := Nat.testBit_lt_two_pow (Nat.lt_of_lt_of_le h (Nat.pow_le_pow_right (n := 2) (i := 32) (by decide) (by omega)))
      simp [this]
  · simp [h7]
theorem andNot_int (c : Int) (h0 : 0 ≤ c) (h1 : c < 4294967296) : bits .andNot .u32 c 127 = c / 128 * 128 := by
  rw [u32_andNot c 127 h0 h1 (by decide) (by decide)]
  have := andNot127 c.toNat (by omega)
  simp only [show (127 : Int).toNat = 127 from rfl, show 4294967295 - 127 = 4294967168 from rfl]
  rw [this]
  omega
def prevC (c : Int) : Int := if 12352 ≤ c ∧ c ≤ 12447 then 12400 else if 19968 ≤ c ∧ c ≤ 40869 then 30481 else if 44032 ≤ c ∧ c ≤ 55203 then 49617 else c / 128 * 128 + 64
theorem prev_calls (c : Int) (w : World) (h0 : 0 ≤ c) (h1 : c ≤ 1114111) : Calls Tryz.prog 194 #[.int .u32 c] w fun e w' => e = .returned (.int .u32 (prevC c)) ∧ w = w' := by
  have ha := Lib.hid (andNot_int c h0 (by omega))
  unfold prevC
  by_cases a1 : 12352 ≤ c
  · by_cases a2 : c ≤ 12447
    · rw [if_pos ⟨a1, a2⟩]
      go_enter Tryz.func194, Tryz.ntmps194
      go_wp2
      go_ret
      exact ⟨rfl, rfl⟩
    · rw [if_neg (by omega)]
      by_cases b1 : 19968 ≤ c
      · by_cases b2 : c ≤ 40869
        · rw [if_pos ⟨b1, b2⟩]
          go_enter Tryz.func194, Tryz.ntmps194
          go_wp2
          go_ret
          exact ⟨rfl, rfl⟩
        · rw [if_neg (by omega)]
          by_cases c1 : 44032 ≤ c
          · by_cases c2 : c ≤ 55203
            · rw [if_pos ⟨c1, c2⟩]
              go_enter Tryz.func194, Tryz.ntmps194
              go_wp2
              go_ret
              exact ⟨rfl, rfl⟩
            · rw [if_neg (by omega)]
              go_enter Tryz.func194, Tryz.ntmps194
              go_wp2
              go_ret
              exact ⟨by simp only [ha.out]; simp; omega, rfl⟩
          · rw [if_neg (by omega)]
            go_enter Tryz.func194, Tryz.ntmps194
            go_wp2
            go_ret
            exact ⟨by simp only [ha.out]; simp; omega, rfl⟩
      · have c1 : ¬ 44032 ≤ c := by omega
        rw [if_neg (by omega), if_neg (by omega)]
        go_enter Tryz.func194, Tryz.ntmps194
        go_wp2
        go_ret
        exact ⟨by simp only [ha.out]; simp; omega, rfl⟩
  · have b1 : ¬ 19968 ≤ c := by omega
    have c1 : ¬ 44032 ≤ c := by omega
    rw [if_neg (by omega), if_neg (by omega), if_neg (by omega)]
    go_enter Tryz.func194, Tryz.ntmps194
    go_wp2
    go_ret
    exact ⟨by simp only [ha.out]; simp; omega, rfl⟩
def placeC (d : Int) : Int × Int × Nat :=
  if -64 ≤ d ∧ d ≤ 63 then (0, 144 + d, 0) else if 187659 < d then (d - 187660, 254, 3) else if 10512 < d then (d - 10513, 251, 2) else if 63 < d then (d - 64, 208, 1)
  else if d < -187660 then (d + 187660, 34, 3) else if d < -10513 then (d + 10513, 37, 2) else (d + 64, 80, 1)
theorem place_calls (d : Int) (w : World) (h0 : -1114111 ≤ d) (h1 : d ≤ 1114111) :
    Calls Tryz.prog 195 #[.int .i64 d] w fun e w' => e = .returned (.tuple #[.int .i64 (placeC d).1, .int .i64 (placeC d).2.1, .int .i64 (placeC d).2.2]) ∧ w = w' := by
  unfold placeC
  by_cases a1 : -64 ≤ d
  · by_cases a2 : d ≤ 63
    · rw [if_pos ⟨a1, a2⟩]
      go_enter Tryz.func195, Tryz.ntmps195
      go_wp2
      go_ret3
      exact ⟨by first | rfl | (simp; omega), rfl⟩
    · rw [if_neg (by omega)]
      by_cases b1 : 187659 < d
      · rw [if_pos b1]
        go_enter Tryz.func195, Tryz.ntmps195
        go_wp2
        go_ret3
        exact ⟨by first | rfl | (simp; omega), rfl⟩
      · rw [if_neg b1]
        by_cases b2 : 10512 < d
        · rw [if_pos b2]
          go_enter Tryz.func195, Tryz.ntmps195
          go_wp2
          go_ret3
          exact ⟨by first | rfl | (simp; omega), rfl⟩
        · have b3 : 63 < d := by omega
          rw [if_neg b2, if_pos b3]
          go_enter Tryz.func195, Tryz.ntmps195
          go_wp2
          go_ret3
          exact ⟨by first | rfl | (simp; omega), rfl⟩
  · have b1 : ¬ 187659 < d := by omega
    have b2 : ¬ 10512 < d := by omega
    have b3 : ¬ 63 < d := by omega
    rw [if_neg (by omega), if_neg b1, if_neg b2, if_neg b3]
    by_cases c1 : d < -187660
    · rw [if_pos c1]
      go_enter Tryz.func195, Tryz.ntmps195
      go_wp2
      go_ret3
      exact ⟨by first | rfl | (simp; omega), rfl⟩
    · rw [if_neg c1]
      by_cases c2 : d < -10513
      · rw [if_pos c2]
        go_enter Tryz.func195, Tryz.ntmps195
        go_wp2
        go_ret3
        exact ⟨by first | rfl | (simp; omega), rfl⟩
      · rw [if_neg c2]
        go_enter Tryz.func195, Tryz.ntmps195
        go_wp2
        go_ret3
        exact ⟨by first | rfl | (simp; omega), rfl⟩
def byteC (v : Int) : Int := if 20 ≤ v then v + 13 else if 16 ≤ v then v + 12 else if 6 ≤ v then v + 10 else v + 1
theorem byte_calls (v : Int) (w : World) (h0 : 0 ≤ v) (h1 : v < 243) : Calls Tryz.prog 196 #[.int .i64 v] w fun e w' => e = .returned (.tuple #[.int .u8 (byteC v), .bool true]) ∧ w = w' := by
  have k0 : ¬ v < 0 := by omega
  have k1 : ¬ 243 ≤ v := by omega
  unfold byteC
  by_cases a1 : 20 ≤ v
  · rw [if_pos a1]
    go_enter Tryz.func196, Tryz.ntmps196
    go_wp2
    go_ret2
    exact ⟨by first | rfl | (simp; omega), rfl⟩
  · rw [if_neg a1]
    by_cases a2 : 16 ≤ v
    · rw [if_pos a2]
      go_enter Tryz.func196, Tryz.ntmps196
      go_wp2
      go_ret2
      exact ⟨by first | rfl | (simp; omega), rfl⟩
    · rw [if_neg a2]
      by_cases a3 : 6 ≤ v
      · rw [if_pos a3]
        go_enter Tryz.func196, Tryz.ntmps196
        go_wp2
        go_ret2
        exact ⟨by first | rfl | (simp; omega), rfl⟩
      · rw [if_neg a3]
        go_enter Tryz.func196, Tryz.ntmps196
        go_wp2
        go_ret2
        exact ⟨by first | rfl | (simp; omega), rfl⟩
/-- Trail bytes, the last ones of so many. -/
def digs (L : Int) : Nat → List Int
  | 0 => []
  | j + 1 => byteC (L / 243 ^ j % 243) :: digs L j
theorem digs_length (L : Int) : ∀ j, (digs L j).length = j
  | 0 => rfl
  | j + 1 => by unfold digs; rw [List.length_cons, digs_length L j]
def packC (d : Int) : List Int := ((placeC d).2.1 + (placeC d).1 / 243 ^ (placeC d).2.2) :: digs (placeC d).1 (placeC d).2.2
theorem byteC_rng {v : Int} (h0 : 0 ≤ v) (h1 : v < 243) : 1 ≤ byteC v ∧ byteC v ≤ 255 := by unfold byteC; repeat' split <;> omega
theorem place_rng {d : Int} (h0 : -1114111 ≤ d) (h1 : d ≤ 1114111) : (placeC d).2.2 ≤ 3 ∧ -1200000 ≤ (placeC d).1 ∧ (placeC d).1 ≤ 1200000 ∧ 33 ≤ (placeC d).2.1 + (placeC d).1 / 243 ^ (placeC d).2.2 ∧ (placeC d).2.1 + (placeC d).1 / 243 ^ (placeC d).2.2 ≤ 254 := by
  unfold placeC
  repeat' split
  all_goals
    simp only
    refine ⟨by omega, by omega, by omega, ?_, ?_⟩ <;> omega
def u8s (xs : List Int) : List Value := xs.map fun x => .int .u8 x
theorem u8s_length (xs : List Int) : (u8s xs).length = xs.length := by simp [u8s]
theorem pow_succ' (x : Int) (j : Nat) : x / 243 ^ (j + 1) = x / 243 ^ j / 243 := by
  rw [Int.pow_succ, Int.ediv_ediv_of_nonneg (Int.pow_nonneg (by decide))]
theorem div_le {x : Int} {B : Int} (h0 : -B ≤ x) (h1 : x ≤ B) (hB : 0 ≤ B) : ∀ j : Nat, -B ≤ x / 243 ^ j ∧ x / 243 ^ j ≤ B
  | 0 => by simp; omega
  | j + 1 => by
    have := div_le h0 h1 hB j
    rw [pow_succ']
    omega
theorem trunc_pos {x : Int} (h : 0 ≤ x) : Int.tmod x 243 = x % 243 ∧ Int.tdiv x 243 = x / 243 := ⟨Int.tmod_eq_emod_of_nonneg h, Int.tdiv_eq_ediv_of_nonneg h⟩
theorem trunc_neg {x : Int} (h : x < 0) : (x % 243 = 0 → Int.tmod x 243 = 0 ∧ Int.tdiv x 243 = x / 243) ∧ (x % 243 ≠ 0 → Int.tmod x 243 = x % 243 - 243 ∧ Int.tdiv x 243 = x / 243 + 1) := by
  have h1 : Int.tdiv x 243 = -((-x) / 243) := by
    have : x = -(-x) := by omega
    rw [this, Int.neg_tdiv, Int.tdiv_eq_ediv_of_nonneg (by omega), Int.neg_neg]
  have h2 : Int.tmod x 243 = -((-x) % 243) := by
    have : x = -(-x) := by omega
    rw [this, Int.neg_tmod, Int.tmod_eq_emod_of_nonneg (by omega), Int.neg_neg]
  rw [h1, h2]
  omega
def PRel (w : World) (a t : Nat) (L : Int) (lv iv : Value) (wr : World) : Prop :=
  ∃ k j : Nat, k + j = t ∧ lv = .int .i64 (L / 243 ^ j) ∧ iv = .int .i64 k ∧ wr.heap[a]? = some (.cells (u8s (List.replicate (k + 1) 0 ++ digs L j)).toArray 5 (0, 0)) ∧ Below w.heap.size w wr
theorem pset {k : Nat} {x : Int} {D : List Int} : (u8s (List.replicate (k + 1) 0 ++ D)).toArray.setIfInBounds k (.int .u8 x) = (u8s (List.replicate k 0 ++ x :: D)).toArray := by
  have : (List.replicate (k + 1) (0 : Int) ++ D) = List.replicate k 0 ++ 0 :: D := by
    rw [List.replicate_succ', List.append_assoc]; rfl
  rw [this]
  unfold u8s
  rw [List.map_append, List.map_append, List.map_cons, List.map_cons]
  apply Array.toList_inj.1
  simp [List.set_append]
theorem make_u8 : ∀ t : Nat, t ≤ 3 → ∀ w : World, (Instr.makeSlice 68 (.int .i64 ((t : Int) + 1)) (.int .i64 ((t : Int) + 1))).run Tryz.prog w = .ok (.slice (some ⟨w.heap.size, 0, none⟩) (t + 1) (t + 1)) (w.alloc (.cells (u8s (List.replicate (t + 1) 0)).toArray 5))
  | 0, _, w => by kernel_rfl
  | 1, _, w => by kernel_rfl
  | 2, _, w => by kernel_rfl
  | 3, _, w => by kernel_rfl
  | _ + 4, h, _ => absurd h (by omega)
theorem bytes_of {w : World} {a : Nat} {l : List Int} (h : w.heap[a]? = some (.cells (u8s l).toArray 5 (0, 0))) : (convert 68 9 (.slice (some ⟨a, 0, none⟩) l.length l.length)).run Tryz.prog w = .ok (.string (strOfNums l)) w := by
  refine run_convert_bytes_arg _ _ 5 Tryz.underlying68 Tryz.underlying5 a 0 l.length l.length l rfl (fun i hi => ?_) _ Tryz.underlying9
  rw [cell_of h]
  simp [u8s, List.getD_eq_getElem?_getD, hi]
theorem dcell {w : World} {a k : Nat} {l : List Int} (h : w.heap[a]? = some (.cells (u8s l).toArray 5 (0, 0))) (hk : k < l.length) : w.cell? ⟨a, k, none⟩ = some (.int .u8 (l.getD k 0)) := by
  rw [cell_of h]
  simp [u8s, List.getD_eq_getElem?_getD, hk]
set_option maxRecDepth 100000 in
set_option maxHeartbeats 4000000 in
theorem pack_calls (d : Int) (w : World) (h0 : -1114111 ≤ d) (h1 : d ≤ 1114111) : Calls Tryz.prog 193 #[.int .i64 d] w fun e w' => e = .returned (.tuple #[.string (strOfNums (packC d)), .bool true]) ∧ Below w.heap.size w w' := by
  have hp := place_calls d w h0 h1
  obtain ⟨r1, r2, r3, r4, r5⟩ := place_rng h0 h1
  unfold packC
  generalize placeC d = pc at hp r1 r2 r3 r4 r5 ⊢
  obtain ⟨L, ld, t⟩ := pc
  simp only at hp r1 r2 r3 r4 r5 ⊢
  have k0 : ¬ d < -1114111 := by omega
  have k1 : ¬ 1114111 < d := by omega
  have hmk := make_u8 t r1
  have HP := Lib.hid hp
  have HR := Lib.hid (And.intro r4 r5)
  have HL := Lib.hid (And.intro r2 r3)
  clear hp r4 r5 r2 r3
  go_enter Tryz.func193, Tryz.ntmps193
  go_wp2_with (go_at_call 195; refine HP.out.mono ?_; rintro e w1 ⟨rfl, rfl⟩)
  go_loopw [4, 8] (fun l i wr => PRel w w.heap.size t L l i wr) (fun _ i _ => (intOf i).toNat)
  case atStart =>
    refine ⟨t, 0, by omega, by simp, rfl, ?_, (Below.refl _ _).alloc (Nat.le_refl _) _⟩
    rw [heap_alloc_new]
    simp [digs]
  case round =>
    obtain ⟨k, j, hkj, rfl, rfl, hbk, hbl⟩ := hrel
    have HBk := Lib.hid hbk
    have HBl := Lib.hid hbl
    have hxr := div_le HL.out.1 HL.out.2 (by decide) j
    have hdg : digs L (j + 1) = byteC (L / 243 ^ j % 243) :: digs L j := rfl
    have hpw := pow_succ' L j
    have hre : j = t → 33 ≤ ld + L / 243 ^ j ∧ ld + L / 243 ^ j ≤ 254 := fun h => by rw [h]; exact HR.out
    have hrs : j = t → L / 243 ^ t = L / 243 ^ j := fun h => by rw [h]
    generalize L / 243 ^ j = x at hxr hdg hpw hre hrs ⊢
    have HD := Lib.hid (And.intro hdg hpw)
    clear hbk hbl hdg hpw
    by_cases hk : k = 0
    · obtain rfl : j = t := by omega
      have HB0 := Lib.hid (show wr.heap[w.heap.size]? = some (.cells (u8s (List.replicate (0 + 1) 0 ++ digs L j)).toArray 5 (0, 0)) by have := HBk.out; rw [hk] at this; exact this)
      have hkn : ¬ (0 : Int) < (k : Int) := by omega
      obtain ⟨y0, y1⟩ := hre rfl
      have hxe := hrs rfl
      have hset : (wr.setCell ⟨w.heap.size, 0, none⟩ (.int .u8 (ld + x))).heap[w.heap.size]? = some (.cells (u8s ((ld + x) :: digs L j)).toArray 5 (0, 0)) := by
        have := pset (k := 0) (x := ld + x) (D := digs L j)
        rw [heap_setCell_same wr _ _ _ _ _ HB0.out, this]
        rfl
      have hcv := bytes_of hset
      rw [show ((ld + x) :: digs L j).length = j + 1 by rw [List.length_cons, digs_length]] at hcv
      have hfz := frozen_of HB0.out
      have hcl := dcell (k := 0) HB0.out (by rw [List.length_append, List.length_replicate]; omega)
      have HXe := Lib.hid hxe
      clear hset hre hrs hxe hmk hk HBk
      go_wp2_with fail
      go_ret2
      refine ⟨?_, HBl.out.setCell (Nat.le_refl _) _⟩
      rw [HXe.out]
      rfl
    · obtain ⟨k, rfl⟩ : ∃ n, k = n + 1 := ⟨k - 1, by omega⟩
      have hk0 : (0 : Int) < ((k + 1 : Nat) : Int) := by omega
      have hby := fun w => byte_calls (x % 243) w (by omega) (by omega)
      have HBy := Lib.hid hby
      have hfz := frozen_of HBk.out
      have hcl := dcell (k := k + 1) HBk.out (by rw [List.length_append, List.length_replicate]; omega)
      have hset : (wr.setCell ⟨w.heap.size, k + 1, none⟩ (.int .u8 (byteC (x % 243)))).heap[w.heap.size]? = some (.cells (u8s (List.replicate (k + 1) 0 ++ byteC (x % 243) :: digs L j)).toArray 5 (0, 0)) := by rw [heap_setCell_same wr _ _ _ _ _ HBk.out, pset]
      have HSet := Lib.hid hset
      have hkt : k + 1 < t + 1 := by omega
      clear hby hset hre hrs hmk
      rcases Int.lt_or_le x 0 with hx | hx
      · obtain ⟨n1, n2⟩ := trunc_neg hx
        by_cases hz : x % 243 = 0
        · obtain ⟨e1, e2⟩ := n1 hz
          rw [hz] at HBy
          have HZ := Lib.hid hz
          clear n1 n2 hz
          go_wp2_with fail
          refine (HBy.out _).mono ?_
          rintro e w1 ⟨rfl, rfl⟩
          have hz := HZ.out
          go_wp2_with fail
          go_roundw
          case rel =>
            refine ⟨k, j + 1, by omega, by rw [HD.out.2], by go_num, ?_, HBl.out.setCell (Nat.le_refl _) _⟩
            rw [HD.out.1]
            have := HSet.out
            rw [hz] at this ⊢
            exact this
          case measure => simp [intOf]
        · obtain ⟨e1, e2⟩ := n2 hz
          have e3 : x % 243 - 243 < 0 := by omega
          clear n1 n2 hz
          go_wp2_with fail
          refine (HBy.out _).mono ?_
          rintro e w1 ⟨rfl, rfl⟩
          go_wp2_with fail
          go_roundw
          case rel =>
            refine ⟨k, j + 1, by omega, by rw [HD.out.2], by go_num, ?_, HBl.out.setCell (Nat.le_refl _) _⟩
            rw [HD.out.1]
            exact HSet.out
          case measure => simp [intOf]
      · obtain ⟨e1, e2⟩ := trunc_pos hx
        have e3 : ¬ x % 243 < 0 := by omega
        go_wp2_with fail
        refine (HBy.out _).mono ?_
        rintro e w1 ⟨rfl, rfl⟩
        go_wp2_with fail
        go_roundw
        case rel =>
          refine ⟨k, j + 1, by omega, by rw [HD.out.2], by go_num, ?_, HBl.out.setCell (Nat.le_refl _) _⟩
          rw [HD.out.1]
          exact HSet.out
        case measure => simp [intOf]
end Go.Proofs.YtooiooledeblmaaGreat.Out
end
section
set_option linter.unusedVariables false
namespace Go.Proofs.YtooiooledeblmaaGreat.Open
open Go.ChangeShapes Go.WideShapes Go.RowKit Go.Proofs.YtooiooledeblmaaGreatW.PrintWords
section
variable {H : Type} {enc : TypeId × Value → H} {P : Program} {W : World} {base : Nat} {spare : Nat → Bool} {held : Bool}
/-- What is read at this type is of this kind, and good. -/
def Opens {α : Type} (enc : TypeId × Value → H) (P : Program) (W : World) (base : Nat) (spare : Nat → Bool) (held : Bool) (d : Kd α) (e : TypeId) (good : α → Prop) : Prop :=
  ∀ fuel cs x, cs.length = d.sz → DataW.trod enc P W base spare held fuel e cs = some x → ∃ y, d.K W y cs ∧ good y
theorem opens_int {k : IntKind} {e : TypeId} (he : P.underlying e = some (.int k)) : Opens enc P W base spare held (Kd.int k) e (fun n => (Lit.int k n).wf = true) := by
  intro fuel cs x _ h
  obtain ⟨n, rfl, _, hw⟩ := DataW.trod_int he h
  exact ⟨n, rfl, hw⟩
theorem opens_string {e : TypeId} (he : P.underlying e = some .string) : Opens enc P W base spare held Kd.string e (fun s => s.size ≤ maxLen) := by
  intro fuel cs x _ h
  obtain ⟨s, rfl, _, hs⟩ := DataW.trod_string he h
  exact ⟨s, rfl, hs⟩
theorem opens_cells {α : Type} {d : Kd α} {e : TypeId} {good : α → Prop} (ho : Opens enc P W base spare held d e good) (hc : P.cellsOf e = d.sz) {a : Addr} {m n : Nat} {D : Nat → DataW H} {Pl : Nat → List MemPlace}
    (h : ∀ i, i < m → ∃ cs', W.cells? base (a.add (i * P.cellsOf e)) (P.cellsOf e) = some cs' ∧ DataW.trod enc P W base spare held n e cs' = some (D i, Pl i)) :
    ∀ len, len ≤ m → ∃ l : List α, l.length = len ∧ (∀ j p, l[j]? = some p → ∃ c, c.length = d.sz ∧ d.K W p c ∧ ∀ i u, c[i]? = some u → W.cell? (a.add (j * d.sz + i)) = some u) ∧ ∀ x ∈ l, good x
  | 0, _ => ⟨[], rfl, fun j p hj => by simp at hj, fun x hx => by cases hx⟩
  | len + 1, hl => by
    obtain ⟨l, h1, h2, h3⟩ := opens_cells ho hc h len (by omega)
    obtain ⟨cs', hcs, ht⟩ := h len (by omega)
    obtain ⟨_, hlen, hcell⟩ := World.cells?_some hcs
    obtain ⟨y, hy, hg⟩ := ho _ _ _ (by omega) ht
    refine ⟨l ++ [y], by simp [h1], fun j p hj => ?_, fun x hx => ?_⟩
    · rcases Nat.lt_or_ge j l.length with hjl | hjl
      · rw [List.getElem?_append_left hjl] at hj
        exact h2 j p hj
      · have hjl' : j = l.length := by
          have := (List.getElem?_eq_some_iff.1 hj).1
          simp at this
          omega
        subst hjl'
        have hp : y = p := by simpa using hj
        subst hp
        refine ⟨cs', by omega, hy, fun i u hu => ?_⟩
        have hi : i < cs'.length := (List.getElem?_eq_some_iff.1 hu).1
        have := hcell i (by omega)
        rw [Deep.add_add, hc] at this
        rw [h1, this, hu]
    · rcases List.mem_append.1 hx with hx | hx
      · exact h3 x hx
      · rw [List.mem_singleton.1 hx]; exact hg
theorem opens_row {α : Type} {d : Kd α} {t e : TypeId} {good : α → Prop} (ht : P.underlying t = some (.slice e)) (hc : P.cellsOf e = d.sz) (ho : Opens enc P W base spare held d e good) {fuel : Nat} {cs : List Value} {x : DataW H × List MemPlace}
    (h : DataW.trod enc P W base spare held fuel t cs = some x) : ∃ (A : Option Addr) (c : Nat) (l : List α), cs = [.slice A l.length c] ∧ l.length ≤ c ∧ c ≤ maxLen ∧ d.C W A l.length l ∧ ∀ x ∈ l, good x := by
  rcases Deep.open_slice ht h with ⟨rfl, _⟩ | ⟨a, len, cap, m, n, D, Pl, rfl, hb, hl, hm, hmm, _, hx⟩
  · exact ⟨none, 0, [], rfl, by simp, by simp, ⟨rfl, by simp, fun hn => absurd hn (by simp)⟩, fun x hx => by cases hx⟩
  · have hlm : len ≤ m := by rw [hmm]; split <;> omega
    obtain ⟨l, h1, h2, h3⟩ := opens_cells ho hc hx len hlm
    subst h1
    exact ⟨some a, cap, l, rfl, hl, hm, ⟨rfl, by simp only [maxLen] at hm; omega, fun _ => ⟨a, rfl, h2⟩⟩, h3⟩
theorem opens_slice {α : Type} {d : Kd α} {t e : TypeId} {good : α → Prop} (ht : P.underlying t = some (.slice e)) (hc : P.cellsOf e = d.sz) (ho : Opens enc P W base spare held d e good) :
    Opens enc P W base spare held (Kd.slice e d) t (fun l => l.length ≤ maxLen ∧ ∀ x ∈ l, good x) := by
  intro fuel cs x _ h
  obtain ⟨A, c, l, rfl, h1, h2, h3, h4⟩ := opens_row ht hc ho h
  exact ⟨l, ⟨A, c, rfl, h1, h3⟩, by omega, h4⟩
/-- A slice argument, opened. -/
theorem open_arg {α : Type} {d : Kd α} {t e : TypeId} {good : α → Prop} (ht : P.underlying t = some (.slice e)) (hc : P.cellsOf e = d.sz) (ho : Opens enc P W base spare held d e good) {a : Option Addr} {len cap : Nat} {y : DataW H} {ps : List MemPlace}
    (h : DataW.Trod enc P W base spare held t (.slice a len cap) y ps) : ∃ l : List α, len = l.length ∧ l.length ≤ cap ∧ l.length ≤ maxLen ∧ d.C W a l.length l ∧ ∀ x ∈ l, good x := by
  obtain ⟨fuel, hf⟩ := h
  obtain ⟨A, c, l, hcs, h1, h2, h3, h4⟩ := opens_row ht hc ho hf
  simp [Value.cells] at hcs
  obtain ⟨rfl, rfl, rfl⟩ := hcs
  exact ⟨l, rfl, h1, by omega, h3, h4⟩
/-- A row's slice is no longer than its weight allows. -/
theorem sized_any {ts : List TypeId} {ds : List (DataW H)} {j : Nat} {t e : TypeId} {a : Option Addr} {len cap : Nat} {d : DataW H} {ps : List MemPlace}
    (hsz : (DataW.weightsEach P ts ds).all (· ≤ reachBytes) = true) (ht : ts[j]? = some t) (hd : ds[j]? = some d) (hu : P.underlying t = some (.slice e)) {B : Nat} (hB : P.bytesOf e = B)
    (h : DataW.Trod enc P W base spare held t (.slice a len cap) d ps) : len * B ≤ 140737488351232 := by
  obtain ⟨fuel, hf⟩ := h
  rcases Deep.open_slice hu hf with ⟨hcs, _⟩ | ⟨x, l, c, m, n, D, Pl, hcs, _, hl, _, _, hx, _⟩
  · simp [Value.cells] at hcs
    obtain ⟨rfl, rfl, rfl⟩ := hcs
    simp
  · simp [Value.cells] at hcs
    obtain ⟨rfl, rfl, rfl⟩ := hcs
    obtain ⟨hx, _⟩ := Prod.mk.inj hx
    subst hx
    have z := sized_slice hsz ht hd hu
    rw [hB] at z
    refine Nat.le_trans (Nat.mul_le_mul_right _ ?_) z
    simp
end
end Go.Proofs.YtooiooledeblmaaGreat.Open
end
section
namespace Go.Proofs.YtooiooledeblmaaGreat.Lst
open Go.RowKit Go.Proofs.YtooiooledeblmaaGreat.Win Go.Proofs.YtooiooledeblmaaGreat.Stp
set_option linter.unusedVariables false
set_option linter.unusedSimpArgs false
/-- A list that is read at an address. -/
def Lst (w : World) (k : IntKind) (A : Option Addr) (xs : List Int) : Prop := ∀ j, j < xs.length → ∃ a : Addr, A = some a ∧ w.cell? (a.add j) = some (.int k (xs.getD j 0))
theorem Lst.nil (w : World) (k : IntKind) (A : Option Addr) : Lst w k A [] := fun j hj => absurd hj (Nat.not_lt_zero _)
theorem Lst.below {w w1 : World} {k : IntKind} {A : Option Addr} {xs : List Int} (h : Lst w k A xs) (hb : Below w.heap.size w w1) : Lst w1 k A xs := fun j hj => by
  obtain ⟨a, rfl, hc⟩ := h j hj
  exact ⟨a, rfl, (hb.cell (p := a.add j) (World.block_lt_of_cell? w _ hc)).trans hc⟩
theorem Lst.chg {S : Nat → Prop} {w w1 : World} {k : IntKind} {A : Option Addr} {xs : List Int} (h : Lst w k A xs) (hb : Chg S w w1) (hs : ∀ a, A = some a → ¬ S a.block) : Lst w1 k A xs := fun j hj => by
  obtain ⟨a, rfl, hc⟩ := h j hj
  refine ⟨a, rfl, ?_⟩
  have hlt := World.block_lt_of_cell? w _ hc
  have e := hb.block (a.add j).block hlt (by have := hs a rfl; unfold Addr.add; split <;> exact this)
  rw [← hc]
  unfold World.cell?
  rw [e]
theorem Lst.take {w : World} {k : IntKind} {A : Option Addr} {xs : List Int} (h : Lst w k A xs) (n : Nat) : Lst w k A (xs.take n) := fun j hj => by
  rw [List.length_take] at hj
  obtain ⟨a, rfl, hc⟩ := h j (by omega)
  refine ⟨a, rfl, hc.trans ?_⟩
  rw [List.getD_eq_getElem?_getD, List.getD_eq_getElem?_getD, List.getElem?_take_of_lt (by omega)]
theorem Lst.of_owns {w : World} {base n : Nat} {e : TypeId} {A : Option Addr} {c : Nat} {xs : List Int} (h : w.ownsRow base e 1 (.slice A n c) xs.length (u32s xs)) : Lst w .u32 A xs := fun j hj => by
  obtain ⟨r, c', hv, _, _⟩ := h.form (by omega)
  injection hv with hA _ _
  subst hA
  have hcells := h.cells (g := r) rfl
  refine ⟨_, rfl, hcells j _ ?_⟩
  unfold u32s
  rw [List.getElem?_map, List.getElem?_eq_getElem hj, List.getD_eq_getElem?_getD, List.getElem?_eq_getElem hj]
  rfl
theorem owns_form {w : World} {base n : Nat} {e : TypeId} {size : Nat} {v : Value} {xs : List Value} (h : w.ownsRow base e size v n xs) : ∃ A c, v = .slice A n c := by
  rcases h.2 with ⟨h1, h2⟩ | ⟨g', cap, cur, h1, _⟩
  · exact ⟨none, 0, by rw [h1, h2]⟩
  · exact ⟨_, _, h1⟩
theorem wpList_append_row {P : Program} {w : World} {ops : Array Oper} {rest : List Oper} {o : Oper} {a : Act} {Q : Exit → Act → World → Prop} (hgd : o.guard = none) (s x : Operand) (t : TypeId)
    (ho : o.op = .call { callee := .builtin .append, args := #[s, x], argTypes := #[t, t] })
    (base : Nat) (e : TypeId) (i : TypeInfo) (z : Value) (size bytes : Nat) (ht : P.underlying t = some (.slice e)) (hi : P.info? e = some i) (hz : i.zero = some z)
    (hsize : i.size = size) (hby : i.bytes = bytes) (hzs : z.cells.size = size) (hsz : 0 < size)
    (v : Value) (n : Nat) (xs : List Value) (hs : a.eval s = v) (hown : w.ownsRow base e size v n xs)
    (base2 : Nat) (v2 : Value) (m : Nat) (news : List Value) (hx : a.eval x = v2) (hown2 : w.ownsRow base2 e size v2 m news) (hl : news.length = m * size) (h1 : ∀ u ∈ news, u.oneCell' = true)
    (h63 : n + m ≤ maxLen) (hbytes : (n + m) * bytes ≤ 140737488355328) (hbase : base ≤ w.heap.size)
    (h : ∀ v' w', w'.ownsRow base e size v' (n + m) (xs ++ news) → w.grownBy w' v.ownBlock → wpList P ops Q rest (a.put o.dst v') w') : wpList P ops Q (o :: rest) a w := by
  have h2 := hown2.2
  rcases h2 with ⟨h3, h4⟩ | ⟨g', cap, cur, h3, h4⟩
  · subst h3; subst h4
    have : news = [] := List.eq_nil_of_length_eq_zero (by omega)
    subst this
    refine wpList_append_own_none hgd s x t ho base e i size ht hi v n xs hs hown hx (h v w ?_ ?_)
    · simpa using hown
    · exact ⟨rfl, rfl, rfl, Nat.le_refl _, fun _ _ _ => rfl⟩
  · subst h3
    refine wpList_append_own w hgd s x t ho base e i z size bytes ht hi hz hsize hby hzs hsz v n xs hs hown ⟨g', 0, none⟩ m cap news hx hl (hown2.cells (g := g') rfl) h1 h63 hbytes hbase fun v' w' q1 q2 _ => h v' w' q1 q2
def ord : List Int → List Int → Int
  | [], [] => 0
  | [], _ :: _ => -1
  | _ :: _, [] => 1
  | x :: xs, y :: ys => if x < y then -1 else if y < x then 1 else ord xs ys
theorem ord_zero : ∀ xs ys : List Int, ord xs ys = 0 ↔ xs = ys
  | [], [] => by simp [ord]
  | [], _ :: _ => by simp [ord]
  | _ :: _, [] => by simp [ord]
  | x :: xs, y :: ys => by
    have ih := ord_zero xs ys
    unfold ord
    split
    · simp; omega
    · split
      · simp; omega
      · rw [ih]; simp; omega
theorem drop_cons {xs : List Int} {k : Nat} (h : k < xs.length) : xs.drop k = xs.getD k 0 :: xs.drop (k + 1) := by
  rw [List.drop_eq_getElem_cons h, List.getD_eq_getElem?_getD, List.getElem?_eq_getElem h]; rfl
theorem ord_at (xs ys : List Int) (k : Nat) (h1 : k < xs.length) (h2 : k < ys.length) : ord (xs.drop k) (ys.drop k) = if xs.getD k 0 < ys.getD k 0 then -1 else if ys.getD k 0 < xs.getD k 0 then 1 else ord (xs.drop (k + 1)) (ys.drop (k + 1)) := by
  rw [drop_cons h1, drop_cons h2]; rfl
/-- Nothing but the order's draws. -/
def Drew (w w' : World) : Prop := ∃ n, w' = w.drewN n
theorem Drew.refl (w : World) : Drew w w := ⟨0, rfl⟩
theorem Drew.more {w w' : World} (h : Drew w w') (n : Nat) : Drew w (w'.drewN n) := by
  obtain ⟨k, rfl⟩ := h
  exact ⟨k + n, by simp [World.drewN_drewN]⟩
theorem Drew.below {w w' : World} (h : Drew w w') (B : Nat) : Below B w w' := by
  obtain ⟨k, rfl⟩ := h
  exact below_drewN (Below.refl B w) k
theorem Lst.drew {w w1 : World} {k : IntKind} {A : Option Addr} {xs : List Int} (h : Lst w k A xs) (hb : Drew w w1) : Lst w1 k A xs := h.below (hb.below _)
def OrdRel (w : World) (xs ys : List Int) (i : Value) (wr : World) : Prop := ∃ k : Nat, k ≤ xs.length ∧ k ≤ ys.length ∧ i = .int .i64 k ∧ Drew w wr ∧ ord xs ys = ord (xs.drop k) (ys.drop k)
set_option maxHeartbeats 2000000 in
theorem order_calls {w : World} {A B : Option Addr} {c d : Nat} {xs ys : List Int} (hA : Lst w .u32 A xs) (hB : Lst w .u32 B ys) (hx : xs.length ≤ 1000000) (hy : ys.length ≤ 1000000) :
    Calls Tryz.prog 11 #[.slice A xs.length c, .slice B ys.length d] w fun e w' => e = .returned (.int .i64 (ord xs ys)) ∧ Drew w w' := by
  have HA := Lib.hid hA
  have HB := Lib.hid hB
  clear hA hB
  go_enter Tryz.func11, Tryz.ntmps11
  go_wp2_with fail
  go_loopw [5] (fun i wr => OrdRel w xs ys i wr) (fun i _ => xs.length - (intOf i).toNat)
  case atStart => exact ⟨0, Nat.zero_le _, Nat.zero_le _, rfl, Drew.refl _, rfl⟩
  case round =>
    obtain ⟨k, hk1, hk2, rfl, hdr, ho⟩ := hrel
    have HD := Lib.hid hdr
    have HO := Lib.hid ho
    clear ho hdr
    by_cases h1 : k < xs.length
    · by_cases h2 : k < ys.length
      · obtain ⟨a, rfl, q1⟩ := (Lst.drew HA.out HD.out) k h1
        obtain ⟨b, rfl, q2⟩ := (Lst.drew HB.out HD.out) k h2
        have ho := HO.out
        rw [ord_at xs ys k h1 h2] at ho
        generalize xs.getD k 0 = x at q1 ho
        generalize ys.getD k 0 = y at q2 ho
        have HP := Lib.hid ho
        clear ho
        by_cases c1 : x < y
        · go_wp2_with fail
          go_quiet (fail)
          go_wp2_with fail
          go_ret
          refine ⟨?_, HD.out.more _⟩
          rw [HP.out, if_pos c1]; rfl
        · by_cases c2 : y < x
          · go_wp2_with fail
            go_quiet (fail)
            go_wp2_with fail
            go_quiet (fail)
            go_wp2_with fail
            go_ret
            refine ⟨?_, (HD.out.more _).more _⟩
            rw [HP.out, if_neg (by omega), if_pos c2]; rfl
          · go_wp2_with fail
            go_quiet (fail)
            go_wp2_with fail
            go_quiet (fail)
            go_wp2_with fail
            go_roundw
            case rel => exact ⟨k + 1, h1, h2, by go_num, HD.out.more _, by rw [HP.out, if_neg (by omega), if_neg (by omega)]⟩
            case measure => simp [intOf]; omega
      · obtain rfl : k = ys.length := by omega
        go_wp2
        go_ret
        refine ⟨?_, HD.out⟩
        rw [HO.out, drop_cons h1, List.drop_length]; rfl
    · obtain rfl : k = xs.length := by omega
      by_cases h2 : xs.length < ys.length
      · go_wp2
        go_ret
        refine ⟨?_, HD.out⟩
        rw [HO.out, drop_cons h2, List.drop_length]; rfl
      · have h3 : xs.length = ys.length := by omega
        go_wp2
        go_ret
        refine ⟨?_, HD.out⟩
        rw [HO.out, List.drop_length, h3, List.drop_length]; rfl
theorem same_calls {w : World} {A B : Option Addr} {c d : Nat} {xs ys : List Int} (hA : Lst w .u32 A xs) (hB : Lst w .u32 B ys) (hx : xs.length ≤ 1000000) (hy : ys.length ≤ 1000000) :
    Calls Tryz.prog 19 #[.slice A xs.length c, .slice B ys.length d] w fun e w' => e = .returned (.bool (decide (xs = ys))) ∧ Drew w w' := by
  have HO := Lib.hid (order_calls (c := c) (d := d) hA hB hx hy)
  clear hA hB
  go_enter Tryz.func19, Tryz.ntmps19
  go_wp2_with (go_at_call 11; refine HO.out.mono ?_; rintro e w1 ⟨rfl, hd⟩; have HD := Lib.hid hd; clear hd)
  go_ret
  refine ⟨?_, HD.out⟩
  have : (ord xs ys == 0) = decide (xs = ys) := by
    rw [Bool.eq_iff_iff]
    simp [ord_zero]
  rw [this]
  rfl
end Go.Proofs.YtooiooledeblmaaGreat.Lst
end
section
namespace Go.Proofs.YtooiooledeblmaaGreat.Out
open Go.RowKit Go.Proofs.YtooiooledeblmaaGreat.Win Go.Proofs.YtooiooledeblmaaGreat.Stp Go.Proofs.YtooiooledeblmaaGreat.Lst
set_option linter.unusedVariables false
set_option linter.unusedSimpArgs false
def b40 : B4 := { at_ := 0, err := 0, pl := 0, fin := false }
section
variable {R : Type} (B : R → Int → List Int) (N : R → Int → R)
/-- What is told of scalars, from a state on; the state behind them. -/
def told : R → List Int → List Int
  | _, [] => []
  | r, c :: cs => B r c ++ told (N r c) cs
def foldN : R → List Int → R
  | r, [] => r
  | r, c :: cs => foldN (N r c) cs
theorem told_snoc (c : Int) : ∀ (cs : List Int) (r : R), told B N r (cs ++ [c]) = told B N r cs ++ B (foldN N r cs) c ∧ foldN N r (cs ++ [c]) = N (foldN N r cs) c
  | [], r => by simp [told, foldN]
  | x :: cs, r => by
    obtain ⟨h1, h2⟩ := told_snoc c cs (N r x)
    simp only [told, foldN, List.cons_append]
    rw [h1, h2]
    simp
end
theorem told_len {R : Type} {B : R → Int → List Int} (N : R → Int → R) (h : ∀ r c, (B r c).length ≤ 5) : ∀ (cs : List Int) (r : R), (told B N r cs).length ≤ 5 * cs.length
  | [], r => by simp [told]
  | c :: cs, r => by
    have h1 := h r c
    have h2 := told_len N h cs (N r c)
    simp only [told, List.length_append, List.length_cons]
    omega
theorem fold_inv {R : Type} {N : R → Int → R} {I : R → Prop} (h : ∀ r c, I r → 0 ≤ c → isB c = true → I (N r c)) : ∀ (cs : List Int) (r : R), I r → (∀ x ∈ cs, 0 ≤ x ∧ isB x = true) → I (foldN N r cs)
  | [], _, hr, _ => hr
  | c :: cs, r, hr, ha => fold_inv h cs (N r c) (h r c hr (ha c List.mem_cons_self).1 (ha c List.mem_cons_self).2) (fun x hx => ha x (List.mem_cons_of_mem _ hx))
def FeedRel {R : Type} (T : TypeId) (rest : R → List Value) (B : R → Int → List Int) (N : R → Int → R) (r : R) (w : World) (g : Nat) (l : List Int) (vo i : Value) (wr : World) : Prop :=
  ∃ n : Nat, n ≤ l.length ∧ vo = .string (strOfNums (told B N r (l.take n))) ∧ i = .int .i64 n ∧ OutAt T wr g { b40 with at_ := (n : Int) } [] (rest (foldN N r (l.take n))) ∧ Chg (ES g) w wr
def FeedPost {R : Type} (T : TypeId) (rest : R → List Value) (B : R → Int → List Int) (N : R → Int → R) (r : R) (w : World) (g : Nat) (l : List Int) (e : Ending) (wr : World) : Prop :=
  e = .returned (.tuple #[.int .i64 l.length, .string (strOfNums (told B N r l))]) ∧ OutAt T wr g { b40 with at_ := (l.length : Int) } [] (rest (foldN N r l)) ∧ Chg (ES g) w wr
set_option maxRecDepth 100000 in
set_option maxHeartbeats 8000000 in
theorem bocu_feed {T : TypeId} {R : Type} {rest : R → List Value} {B : R → Int → List Int} {N : R → Int → R} {I : R → Prop} {r : R} {w : World} {g : Nat} {l : List Int} {A : Option Addr} {cap : Nat} (room : Int) (h : OutAt T w g b40 [] (rest r))
    (hby : ∀ (r : R) (c : Int) (w' : World) (b : B4) (l : List Int), I r → OutAt T w' g b l (rest r) → 0 ≤ c → isB c = true → l.length ≤ 1000 → Calls Tryz.prog 192 #[.pointer (some ⟨g, 0, none⟩), .int .u32 c] w' fun e w2 => e = .returned (.string (strOfNums (B r c))) ∧ OutAt T w2 g b l (rest (N r c)) ∧ Chg (ES g) w' w2)
    (hB : ∀ r c, (B r c).length ≤ 5) (hI : I r) (hIN : ∀ r c, I r → 0 ≤ c → isB c = true → I (N r c))
    (hl : l.length ≤ 600) (hA : ∀ wr, Chg (ES g) w wr → Lst wr .u32 A l) (hr : ∀ x ∈ l, 0 ≤ x ∧ isB x = true) (r1 : 4096 ≤ room) (r2 : room ≤ 1000000) :
    Calls Tryz.prog 191 #[.pointer (some ⟨g, 0, none⟩), .slice A l.length cap, .int .i64 room] w (FeedPost T rest B N r w g l) := by
  have hgi := give_calls room h (by decide) (by simp; omega)
  have H := Lib.hid h
  have HBy := Lib.hid hby
  have HA := Lib.hid hA
  have HR := Lib.hid hr
  have HI := Lib.hid (fun n => fold_inv hIN (l.take n) r hI (fun x hx => hr x (List.mem_of_mem_take hx)))
  have HGi := Lib.hid hgi
  clear h hby hA hr hgi hI hIN
  go_enter Tryz.func191, Tryz.ntmps191
  go_wp2_with fail
  refine HGi.out.mono ?_
  rintro e w1 ⟨rfl, h1, hc1⟩
  have H1 := Lib.hid h1
  have HC1 := Lib.hid hc1
  clear h1 hc1
  go_wp2_with fail
  go_loopw [8, 9] (fun vo i wr => FeedRel T rest B N r w g l vo i wr) (fun _ i _ => l.length - (intOf i).toNat)
  case atStart => exact ⟨0, Nat.zero_le _, rfl, rfl, H1.out, HC1.out⟩
  case round =>
    obtain ⟨n, hn, rfl, rfl, ho, hc⟩ := hrel
    have hsl := told_len N hB (l.take n) r
    have hln : (l.take n).length = n := by rw [List.length_take]; omega
    rw [hln] at hsl
    have HO := Lib.hid ho
    have HC := Lib.hid hc
    have HKe := Lib.hid (kept_calls ho (by decide))
    have hgoing := going_calls g _ wr ho.base
    have hge : ({ b40 with at_ := (n : Int) } : B4).going = true := rfl
    rw [hge] at hgoing
    have HGg := Lib.hid hgoing
    have hXs := str_size (told B N r (l.take n))
    clear ho hc hgoing hge hln
    by_cases hlt : n < l.length
    · obtain ⟨a, rfl, q⟩ := (HA.out wr HC.out) n hlt
      have hrx := HR.out (l.getD n 0) (by rw [List.getD_eq_getElem?_getD, List.getElem?_eq_getElem hlt]; exact List.getElem_mem _)
      have htk : l.take (n + 1) = l.take n ++ [l.getD n 0] := by rw [List.take_succ_eq_append_getElem hlt, List.getD_eq_getElem?_getD, List.getElem?_eq_getElem hlt]; rfl
      obtain ⟨t1, t2⟩ := told_snoc B N (l.getD n 0) (l.take n) r
      rw [← htk] at t1 t2
      have hA2 := HA.out
      obtain ⟨x, hx⟩ : ∃ x, x = l.getD n 0 := ⟨_, rfl⟩
      have hq2 : ∀ w2, Chg (ES g) wr w2 → w2.cell? (a.add n) = some (.int .u32 x) := fun w2 hc2 => by
        obtain ⟨a2, ha2, q2⟩ := (HA.out w2 (HC.out.trans hc2)) n hlt
        injection ha2 with ha2
        rw [← ha2] at q2
        rw [q2, hx]
      rw [← hx] at q hrx t1 t2
      obtain ⟨x0, xb⟩ := hrx
      have hisx := sis_calls x
      rw [xb] at hisx
      obtain ⟨S, hS⟩ : ∃ S, S = told B N r (l.take n) := ⟨_, rfl⟩
      obtain ⟨rn, hrn⟩ : ∃ q, q = foldN N r (l.take n) := ⟨_, rfl⟩
      rw [← hS, ← hrn] at t1
      rw [← hrn] at t2
      rw [← hrn] at HO
      have HIn := Lib.hid (show I rn by rw [hrn]; exact HI.out n)
      rw [← hS] at hXs hsl
      rw [← hS]
      have HIs := Lib.hid hisx
      have HXB := Lib.hid xb
      have HT := Lib.hid (And.intro t1 t2)
      have hbx := hB rn x
      have HQ2 := Lib.hid hq2
      clear hisx xb t1 t2 hx htk hA2 hS hrn hq2
      go_wp2_with fail
      refine HKe.out.mono ?_
      rintro e w2 ⟨rfl, rfl⟩
      go_wp2_with fail
      refine HGg.out.mono ?_
      rintro e w2 ⟨rfl, rfl⟩
      go_wp2_with fail
      refine (HIs.out _).mono ?_
      rintro e w2 ⟨rfl, rfl⟩
      go_upto_region 6 with fail
      go_cut [] from 16 to 74 (fun wx => OutAt T wx g { b40 with at_ := (n : Int) } (B rn x) (rest (N rn x)) ∧ Chg (ES g) wr wx)
      case first =>
        have hd0 := Lib.hid (HO.out.drewN 1)
        go_region_with (first | (go_at_call 192; refine (HBy.out rn x _ _ _ HIn.out hd0.out x0 HXB.out (by decide)).mono ?_; rintro e w2 ⟨rfl, ho2, hc2⟩; have HO2 := Lib.hid ho2; have HC2 := Lib.hid ((Chg.drew (S := ES g) _).trans hc2); clear ho2 hc2) | (go_at_call 146; refine (keep_calls (B rn x) HO2.out (by decide) (by omega)).mono ?_; rintro e w3 ⟨rfl, ho3, hc3⟩; have HO3 := Lib.hid ho3; have HC3 := Lib.hid (HC2.out.trans hc3); clear ho3 hc3))
        all_goals
          go_wp2_with fail
          go_meet
          exact ⟨HO3.out, HC3.out⟩
      case rest =>
        obtain ⟨ho2, hc2⟩ := hcut
        have hea := eat_calls g _ 1 wc ho2.base rfl (by decide) (by decide) (show (0 : Int) ≤ (n : Int) by omega) (show (n : Int) ≤ 1000000000 by omega)
        have HO2 := Lib.hid ho2
        have HC2 := Lib.hid hc2
        have HEa := Lib.hid hea
        clear ho2 hc2 hea
        go_wp2_with fail
        refine HEa.out.mono ?_
        rintro e w3 ⟨rfl, rfl⟩
        have ho3 := HO2.out.setAt ((n : Int) + 1)
        obtain ⟨w3, hw3⟩ : ∃ w3, w3 = wc.setCell ⟨g, 0, none⟩ (.int .i64 ((n : Int) + 1)) := ⟨_, rfl⟩
        have hw3' : wc.setCell ⟨g, 0, none⟩ (.int .i64 (({ b40 with at_ := (n : Int) } : B4).at_ + 1)) = w3 := hw3.symm
        have HC3 := Lib.hid (show Chg (ES g) wr w3 by rw [hw3]; exact HC2.out.trans (es_g 0 _))
        rw [← hw3] at ho3
        rw [hw3']
        have hgv := give_calls (room - (S.length : Int)) ho3 (by omega) (by omega)
        have HGv := Lib.hid hgv
        clear hw3 hw3' ho3 hgv
        go_wp2_with fail
        refine HGv.out.mono ?_
        rintro e w4 ⟨rfl, ho4, hc4⟩
        have HO4 := Lib.hid ho4
        have HC4 := Lib.hid (HC3.out.trans hc4)
        have hT := str_size (B rn x)
        have happ := str_append S (B rn x)
        have HAp := Lib.hid happ
        clear ho4 hc4
        go_wp2_with fail
        go_roundw
        case rel =>
          refine ⟨n + 1, hlt, by rw [HT.out.1], by go_num, ?_, HC.out.trans HC4.out⟩
          rw [HT.out.2]
          have := HO4.out
          simpa using this
        case measure => simp [intOf]; omega
    · obtain rfl : n = l.length := by omega
      obtain ⟨S, hS⟩ : ∃ S, S = told B N r (l.take l.length) := ⟨_, rfl⟩
      rw [← hS]
      have HS := Lib.hid hS
      clear hS
      go_wp2_with fail
      go_ret2
      have hS := HS.out
      have hO := HO.out
      rw [List.take_length] at hS hO
      exact ⟨by rw [← hS]; rfl, hO, HC.out⟩
end Go.Proofs.YtooiooledeblmaaGreat.Out
end
