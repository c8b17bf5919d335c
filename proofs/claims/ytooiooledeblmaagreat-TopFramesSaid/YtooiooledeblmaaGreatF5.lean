/- strings.Builder: a string written, the whole told. codec.Encode by BOCU-1. What Encode needs of an encoder. codec.Encode by the encoder uni8.Encoder. codec.Encode by the encoder uni16.Encoder. codec.Encode by the encoder uni32.Encoder. codec.Encode by the encoder ebcdic.Encoder. NewEncoder of the codecs that know no state; Encode by all whose bytes are told at once. trans.Text, at "A" from UTF-8 to UTF-EBCDIC. tally.Of, at one letter of ASCII. The sum of bytes: that it is some number, and four bytes. A crate's head and end, by their lengths. -/
import Derived.Test.YtooiooledeblmaaGreatF4
import Derived.Test.YtooiooledeblmaaGreatShelf
section
namespace Go.Proofs.YtooiooledeblmaaGreat.Out
open Go.RowKit Go.Proofs.YtooiooledeblmaaGreat.Win Go.Proofs.YtooiooledeblmaaGreat.Stp Go.Proofs.YtooiooledeblmaaGreat.Lst
set_option linter.unusedVariables false
set_option linter.unusedSimpArgs false
/-- A builder that holds these bytes; B: below which nothing is its own. -/
def BldAt (B b : Nat) (s : ByteArray) (w : World) : Prop := Lib.IsBuilder 70 5 B b (Lib.strCells s) w
/-- All other blocks stand, but for rows of bytes. -/
abbrev Oth (b : Nat) (w w' : World) : Prop := Lib.OthersKept 5 (some b) w w'
theorem own_chg {S : Nat → Prop} {w w' : World} {base : Nat} {e : TypeId} {size n : Nat} {v : Value} {xs : List Value} (h : w.ownsRow base e size v n xs) (hc : Chg S w w') (hs : ∀ k, v.ownBlock = some k → ¬ S k) : w'.ownsRow base e size v n xs := by
  obtain ⟨a1, a2⟩ := h
  refine ⟨a1, ?_⟩
  rcases a2 with a2 | ⟨g', cap, cur, hv, hb, hh, r⟩
  · exact .inl a2
  · have hlt : g' < w.heap.size := (Array.getElem?_eq_some_iff.1 hh).1
    exact .inr ⟨g', cap, cur, hv, hb, (hc.block g' hlt (hs g' (by rw [hv]; rfl))).trans hh, r⟩
theorem bld_new (B : Nat) (w : World) (hB : B ≤ w.heap.size) : BldAt B w.heap.size ByteArray.empty (w.alloc (.cells #[.pointer none, .slice none 0 0] 70)) := by
  refine .inl ⟨hB, .slice none 0 0, heap_alloc_new _ _, World.ownsRow_nil _ _ _ _, by simp [Value.ownBlock]⟩
theorem bld_keep {B b : Nat} {s : ByteArray} {w w' : World} (h : BldAt B b s w) (hb : Below w.heap.size w w') : BldAt B b s w' := by
  have key : ∀ p, Lib.BuilderAt 70 5 B b p (Lib.strCells s) w → Lib.BuilderAt 70 5 B b p (Lib.strCells s) w' := by
    rintro p ⟨h1, v, h2, h3, h4⟩
    refine ⟨h1, v, ?_, own_chg h3 (Chg.of_below (S := fun _ => False) hb) (fun _ _ h => h), h4⟩
    rw [hb.block b (Array.getElem?_eq_some_iff.1 h2).1]
    exact h2
  rcases h with h | h
  · exact .inl (key _ h)
  · exact .inr (key _ h)
/-- What a machine does to its own block leaves a builder as it is. -/
theorem bld_chg {B b : Nat} {s : ByteArray} {w w' : World} {S : Nat → Prop} (h : BldAt B b s w) (hc : Chg S w w') (hs : ¬ S b) (hn : ∀ i cs fz, w.heap[i]? = some (.cells cs 5 fz) → ¬ S i) : BldAt B b s w' := by
  have key : ∀ p, Lib.BuilderAt 70 5 B b p (Lib.strCells s) w → Lib.BuilderAt 70 5 B b p (Lib.strCells s) w' := by
    rintro p ⟨h1, v, h2, h3, h4⟩
    refine ⟨h1, v, ?_, own_chg h3 hc (fun i hi hh => ?_), h4⟩
    · rw [hc.block b (Array.getElem?_eq_some_iff.1 h2).1 hs]
      exact h2
    · rcases h3.2 with ⟨hv, _⟩ | ⟨g, cap, cur, hv, _, hb, _⟩
      · rw [hv] at hi; cases hi
      · rw [hv] at hi
        simp [Value.ownBlock] at hi
        subst hi
        exact hn _ _ _ hb hh
  rcases h with h | h
  · exact .inl (key _ h)
  · exact .inr (key _ h)
theorem info_u8 : (Tryz.prog.info? 5).map (fun i => (i.zero, i.size, i.bytes)) = some (some (.int .u8 0), 1, 1) := by kernel_rfl
theorem noEscape (v : Value) (w : World) : (callFunc 108 #[v]).run Tryz.prog w = .ok (.value v) w := by kernel_rfl
theorem sizeBld : (Tryz.prog.info? 70).map (·.size) = some 2 := by kernel_rfl
theorem liesBld : liesAt Tryz.prog Tryz.prog.depth 70 (2 / Tryz.prog.cellsOf 70) 0 70 1 = true := by kernel_rfl
def CopyPost (B b : Nat) (s : ByteArray) (w : World) (e : Ending) (w' : World) : Prop := e = .returned (.tuple #[]) ∧ Lib.BuilderAt 70 5 B b (.pointer (some ⟨b, 0, none⟩)) (Lib.strCells s) w' ∧ Below B w w' ∧ Oth b w w'
set_option maxRecDepth 100000 in
theorem copyCheck_calls {B b : Nat} {s : ByteArray} {w : World} (h : BldAt B b s w) : Calls Tryz.prog 69 #[.pointer (some ⟨b, 0, none⟩)] w (CopyPost B b s w) := by
  rcases h with h | h
  · obtain ⟨h1, v, h2, h3, h4⟩ := h
    have c0 : w.cell? ⟨b, 0, none⟩ = some (.pointer none) := by rw [cell_of h2]; rfl
    have f0 := frozen_of h2 0
    have hset : Lib.BuilderAt 70 5 B b (.pointer (some ⟨b, 0, none⟩)) (Lib.strCells s) (w.setCell ⟨b, 0, none⟩ (.pointer (some ⟨b, 0, none⟩))) := by
      refine ⟨h1, v, ?_, own_chg h3 (Chg.set (S := fun i => i = b) w rfl 0 _) (fun i hi hh => h4 (by rw [hi, hh])), h4⟩
      rw [heap_setCell_same w b 0 _ _ _ h2]
      rfl
    have HS := Lib.hid hset
    have ho : Oth b w (w.setCell ⟨b, 0, none⟩ (.pointer (some ⟨b, 0, none⟩))) := (Lib.OthersKept.refl _ _ w).setCell ⟨b, 0, none⟩ rfl _
    have HO := Lib.hid ho
    obtain ⟨j, hj, hjs⟩ := Option.map_eq_some_iff.1 sizeBld
    have hsh : w.shape? b = some (70, 2) := by simp [World.shape?, h2]
    have hct := Lib.run_to_unsafe w ⟨b, 0, none⟩ Tryz.underlying67 Tryz.underlying187 hj (by rw [hjs]; decide) hsh (Nat.zero_lt_succ 1)
    have hcf := Lib.run_from_unsafe w ⟨b, 0, none⟩ Tryz.underlying187 Tryz.underlying67 hj hsh liesBld
    have HNe := noEscape (.pointer (some ⟨b, 0, none⟩)) w
    have h1' := Lib.hid h1
    clear h2 h3 h4 hset ho h1 hsh hj hjs
    go_enter Tryz.func69, Tryz.ntmps69
    go_wp2
    go_end0
    exact ⟨rfl, HS.out, (Below.refl _ _).setCell h1'.out _, HO.out⟩
  · have HS := Lib.hid h
    obtain ⟨h1, v, h2, h3, h4⟩ := h
    have c0 : w.cell? ⟨b, 0, none⟩ = some (.pointer (some ⟨b, 0, none⟩)) := by rw [cell_of h2]; rfl
    obtain ⟨j, hj, _⟩ := Option.map_eq_some_iff.1 sizeBld
    have hne := Lib.run_neq_ptr_same w ⟨b, 0, none⟩ Tryz.underlying67 hj
    clear h1 h2 h3 h4
    go_enter Tryz.func69, Tryz.ntmps69
    go_wp2
    go_end0
    exact ⟨rfl, HS.out, Below.refl _ _, Lib.OthersKept.refl _ _ _⟩
def WritePost (B b : Nat) (s t : ByteArray) (w : World) (e : Ending) (w' : World) : Prop := e = .returned (.tuple #[.int .i64 t.size, .nilIface]) ∧ BldAt B b (s ++ t) w' ∧ Below B w w' ∧ Oth b w w'
theorem strCells_append (s t : ByteArray) : Lib.strCells (s ++ t) = Lib.strCells s ++ Lib.strCells t := by
  unfold Lib.strCells
  rw [ByteArray.data_append, Array.toList_append, List.map_append]
set_option maxRecDepth 100000 in
set_option maxHeartbeats 1000000 in
theorem bld_write {B b : Nat} {s : ByteArray} (t : ByteArray) {w : World} (h : BldAt B b s w) (hs : s.size ≤ 10000000) (ht : t.size ≤ 10000000) (hBw : B ≤ w.heap.size) : Calls Tryz.prog 35 #[.pointer (some ⟨b, 0, none⟩), .string t] w (WritePost B b s t w) := by
  obtain ⟨i0, hi, hz0, hz1, hz2⟩ := info_parts info_u8
  have HN : Hid (i0.zero = some (.int .u8 0) ∧ i0.size = 1 ∧ i0.bytes = 1 ∧ Tryz.prog.info? 5 = some i0) := ⟨hz0, hz1, hz2, hi⟩
  have HC := Lib.hid (copyCheck_calls h)
  clear hz0 hz1 hz2 hi h
  go_enter Tryz.func35, Tryz.ntmps35
  go_wp2_with fail
  refine HC.out.mono ?_
  rintro e w1 ⟨rfl, h1, hb1, ho1⟩
  obtain ⟨hB, v, hbk, hown, hne⟩ := h1
  have c1 : w1.cell? ⟨b, 1, none⟩ = some v := by rw [cell_of hbk]; rfl
  have HOwn := Lib.hid hown
  have HBk := Lib.hid hbk
  have HNe := Lib.hid hne
  have HB1 := Lib.hid hb1
  have HO1 := Lib.hid ho1
  have hs1 : (Lib.strCells s).length = s.size := Lib.strCells_length s
  have HS1 := Lib.hid hs1
  clear hown hbk hne hb1 ho1 hs1
  have hlt : b < w1.heap.size := (Array.getElem?_eq_some_iff.1 HBk.out).1
  have HLt := Lib.hid hlt
  clear hlt
  go_wp2_with (at_builtin; refine Lib.wpList_append_own_string _ rfl _ _ 68 9 rfl B 5 i0 Tryz.underlying68 Tryz.underlying9 HN.out.2.2.2 HN.out.1 HN.out.2.1 HN.out.2.2.1 _ _ _ rfl HOwn.out t rfl ?c3 ?c4 ?c5 ?_; (case c3 => (rw [HS1.out]; unfold maxLen; omega)); (case c4 => (rw [HS1.out]; omega)); (case c5 => (have := HB1.out.size; omega)); intro v' w2 hown' hgrow hx; obtain ⟨A', c', rfl⟩ := Lst.owns_form hown'; have HB2 := Lib.hid (show w2.heap[b]? = some (.cells #[.pointer (some ⟨b, 0, none⟩), v] 70 (0, 0)) from (hgrow.block b HLt.out (fun e => HNe.out e.symm)).trans HBk.out); have d1 : w2.cell? ⟨b, 1, none⟩ = some v := (by rw [cell_of HB2.out]; rfl); have f1 := frozen_of HB2.out 1; have HOwn2 := Lib.hid hown'; have HGr := Lib.hid (show w1.grownBy w2 v.ownBlock from hgrow); clear hown' hgrow hx)
  go_ret2
  refine ⟨rfl, .inr ?_, ?_, ?_⟩
  · refine Lib.BuilderAt.put (T := 70) (e := 5) hB HB2.out (bs' := Lib.strCells (s ++ t)) ?_ (by decide)
    rw [strCells_append, List.length_append, Lib.strCells_length t]
    exact HOwn2.out
  · exact (HB1.out.grown HGr.out (by have := HB1.out.size; omega) (fun k hk => (HOwn.out.lt k hk).1)).setCell (p := ⟨b, 1, none⟩) hB _
  · refine Lib.OthersKept.setCell (HO1.out.grown HGr.out (fun g hg => ?_)) ⟨b, 1, none⟩ rfl _
    rcases HOwn.out.2 with ⟨hv, _⟩ | ⟨g', cap', cur, hv, _, hb, _⟩
    · rw [hv] at hg; cases hg
    · rw [hv] at hg
      simp [Value.ownBlock] at hg
      subst hg
      exact ⟨_, _, hb⟩
theorem bld_string {B b : Nat} {s : ByteArray} {w : World} (h : BldAt B b s w) (hBw : B ≤ w.heap.size) : Calls Tryz.prog 36 #[.pointer (some ⟨b, 0, none⟩)] w fun e w' => e = .returned (.string s) ∧ Below B w w' ∧ Oth b w w' := by
  refine (Tryz.Builder_String_any_k B b s.data.toList w (Lib.IsBuilderF.of h) hBw).mono ?_
  rintro e w' ⟨rfl, _, h2, h3⟩
  exact ⟨by simp, h2, h3⟩
end Go.Proofs.YtooiooledeblmaaGreat.Out
end
section
namespace Go.Proofs.YtooiooledeblmaaGreat.Out
open Go.RowKit Go.Proofs.YtooiooledeblmaaGreat.Win Go.Proofs.YtooiooledeblmaaGreat.Stp Go.Proofs.YtooiooledeblmaaGreat.Lst
set_option linter.unusedVariables false
set_option linter.unusedSimpArgs false
theorem mk_bocu (v : Value) (w : World) : (Instr.makeInterface 121 v).run Tryz.prog w = .ok (.iface 121 v) w := run_makeInterface w 121 v (by kernel_rfl)
theorem feed_bocu (g : Nat) (w : World) : (method 407 121 (.pointer (some ⟨g, 0, none⟩)) "Feed").run Tryz.prog w = .ok (191, .pointer (some ⟨g, 0, none⟩)) w := by kernel_rfl
theorem end_bocu (g : Nat) (w : World) : (method 407 121 (.pointer (some ⟨g, 0, none⟩)) "End").run Tryz.prog w = .ok (139, .pointer (some ⟨g, 0, none⟩)) w := by kernel_rfl
theorem done_bocu (g : Nat) (w : World) : (method 407 121 (.pointer (some ⟨g, 0, none⟩)) "Done").run Tryz.prog w = .ok (138, .pointer (some ⟨g, 0, none⟩)) w := by kernel_rfl
theorem fail_bocu (g : Nat) (w : World) : (method 407 121 (.pointer (some ⟨g, 0, none⟩)) "Fail").run Tryz.prog w = .ok (140, .pointer (some ⟨g, 0, none⟩)) w := by kernel_rfl
attribute [local go_sem] mk_bocu feed_bocu end_bocu done_bocu fail_bocu
theorem cnew_bocu (w : World) : Calls Tryz.prog 34 #[.int .i64 8] w fun e w' => e = .returned (.tuple #[.iface 121 (.pointer (some ⟨w.heap.size, 0, none⟩)), .int .i64 0]) ∧ OutAt 182 w' w.heap.size b40 [] (bocuR 64) ∧ Below w.heap.size w w' ∧ w'.heap.size = w.heap.size + 1 := by
  go_enter Tryz.func34, Tryz.ntmps34
  go_wp2_with fail
  refine (bocu_new _).mono ?_
  rintro e w1 ⟨rfl, h1, h2, h3⟩
  go_wp2_with fail
  go_ret2
  exact ⟨rfl, h1, h2, h3⟩
def EncPost (w : World) (bs : List Int) (e : Ending) (w' : World) : Prop := e = .returned (.tuple #[.string (strOfNums bs), .agg #[.int .i64 0, .int .i64 0]]) ∧ Below w.heap.size w w'
set_option maxRecDepth 100000 in
set_option maxHeartbeats 8000000 in
theorem encode_bocu {w : World} {A : Option Addr} {cap : Nat} {l : List Int} (hL : ∀ wx, Below w.heap.size w wx → Lst wx .u32 A l) (hr : ∀ x ∈ l, 0 ≤ x ∧ isB x = true) (hl : l.length ≤ 600) (hcap : l.length ≤ cap) :
    Calls Tryz.prog 17 #[.int .i64 8, .slice A l.length cap] w (EncPost w (told bocuB bocuN 64 l)) := by
  have HL := Lib.hid hL
  have HR := Lib.hid hr
  clear hL hr
  go_enter Tryz.func17, Tryz.ntmps17
  go_wp2_with fail
  refine (cnew_bocu _).mono ?_
  rintro e w1 ⟨rfl, ho, hb, hz⟩
  obtain ⟨w0, hw0⟩ : ∃ w0, w0 = w.alloc (.cells #[.int .i64 0, .int .i64 0] 39) := ⟨_, rfl⟩
  rw [← hw0] at ho hb hz ⊢
  have hz0 : w0.heap.size = w.heap.size + 1 := by rw [hw0]; simp
  have hr0 : w0.heap[w.heap.size]? = some (.cells #[.int .i64 0, .int .i64 0] 39 (0, 0)) := by rw [hw0]; exact heap_alloc_new _ _
  have hb0 : Below w.heap.size w w0 := by rw [hw0]; exact (Below.refl _ _).alloc (Nat.le_refl _) _
  obtain ⟨g, hg⟩ : ∃ g, g = w0.heap.size := ⟨_, rfl⟩
  rw [← hg] at ho hz ⊢
  have hr1 := (hb.block w.heap.size (by omega)).trans hr0
  have hb1 := hb0.trans (Below.mono hb (by omega))
  have HO := Lib.hid ho
  have HR1 := Lib.hid hr1
  have HB1 := Lib.hid hb1
  have HG := Lib.hid (show w.heap.size < g ∧ w1.heap.size = g + 1 by omega)
  clear ho hb hz hw0 hz0 hr0 hb0 hg hr1 hb1
  go_upto_block 0 with fail
  obtain ⟨b, hbd⟩ : ∃ b, b = w1.heap.size := ⟨_, rfl⟩
  obtain ⟨w2, hw2⟩ : ∃ w2, w2 = w1.alloc (.cells #[.pointer none, .slice none 0 0] 70) := ⟨_, rfl⟩
  have hbg : g < b ∧ w.heap.size < g := by have := HG.out; omega
  have HBl := Lib.hid (show BldAt w.heap.size b ByteArray.empty w2 by rw [hw2, hbd]; exact bld_new _ _ (by omega))
  have HO2 := Lib.hid (show OutAt 182 w2 g b40 [] (bocuR 64) by rw [hw2]; exact HO.out.alloc _)
  have HR2 := Lib.hid (show w2.heap[w.heap.size]? = some (.cells #[.int .i64 0, .int .i64 0] 39 (0, 0)) by rw [hw2, Below.heap_alloc _ _ _ (by omega)]; exact HR1.out)
  have HB2 := Lib.hid (show Below w.heap.size w w2 by rw [hw2]; exact HB1.out.alloc HB1.out.size _)
  have HBG := Lib.hid hbg
  rw [← hw2, ← hbd]
  clear hbd hw2 hbg HO HR1 HB1 HG
  go_wp2_with fail
  go_loopw [1] (fun v wr => v = .slice A l.length cap ∧ w2 = wr) (fun _ _ => 0)
  case atStart => exact ⟨rfl, rfl⟩
  case round =>
    obtain ⟨rfl, rfl⟩ := hrel
    have hfs : ∀ i, ES g i → w.heap.size ≤ i := by intro i hi; have : i = g := hi; have := HBG.out; omega
    have hfd := bocu_feed (cap := cap) (l := l) 4096 HO2.out (fun r c w' b l hI h h0 hb hl => bocu_bytes g r c w' b l hI h h0 hb hl) bocuB_len ⟨by decide, by decide⟩ bocuN_inv hl (fun wr hc => HL.out wr (Chg.below HB2.out hc hfs)) HR.out (by decide) (by decide)
    have hlen := told_len bocuN bocuB_len l 64
    obtain ⟨S, hS⟩ : ∃ S, S = told bocuB bocuN 64 l := ⟨_, rfl⟩
    unfold FeedPost at hfd
    rw [← hS] at hfd hlen
    obtain ⟨rn, hrn⟩ : ∃ q, q = foldN bocuN 64 l := ⟨_, rfl⟩
    rw [← hrn] at hfd
    have hsz := str_size S
    have HFd := Lib.hid hfd
    have HS := Lib.hid hS
    have HFs := Lib.hid hfs
    clear hfd hS hrn hfs
    go_wp2_with fail
    refine HFd.out.mono ?_
    rintro e w3 ⟨rfl, ho3, hc3⟩
    have hb3 : BldAt w.heap.size b ByteArray.empty w3 := bld_chg HBl.out hc3 (by intro h; have : b = g := h; have := HBG.out; omega) (by
      intro i cs fz h hh
      have : i = g := hh
      subst this
      have := h.symm.trans HO2.out.blk
      simp at this)
    have hr3 := (hc3.block w.heap.size (Array.getElem?_eq_some_iff.1 HR2.out).1 (by intro h; have : w.heap.size = g := h; have := HBG.out; omega)).trans HR2.out
    have hbw3 := Chg.below HB2.out hc3 HFs.out
    have hwr := bld_write (strOfNums S) hb3 (by decide) (by omega) hbw3.size
    have HWr := Lib.hid hwr
    have HO3 := Lib.hid ho3
    have HR3 := Lib.hid hr3
    have HB3 := Lib.hid hbw3
    clear ho3 hc3 hb3 hr3 hbw3 hwr
    go_wp2_with fail
    refine HWr.out.mono ?_
    rintro e w4 ⟨rfl, hb4, hbe4, hot4⟩
    rw [ByteArray.empty_append] at hb4
    have ho4 : OutAt 182 w4 g { b40 with at_ := (l.length : Int) } [] (bocuR rn) := ⟨hot4 g _ HO3.out.blk (by intro h; injection h with h; have := HBG.out; omega) (by intro c fz h; cases h)⟩
    have hr4 := hot4 w.heap.size _ HR3.out (by intro h; injection h with h; have := HBG.out; omega) (by intro c fz h; cases h)
    have HEnd := Lib.hid (oend_calls ho4 rfl)
    have HBl4 := Lib.hid hb4
    have HB4 := Lib.hid (HB3.out.trans hbe4)
    have HR4 := Lib.hid hr4
    have HO4 := Lib.hid ho4
    clear hb4 hbe4 hot4 ho4 hr4
    go_upto_region 7 with fail
    go_cut [1] from 22 to 41 (fun v wx => (∃ A' c', v = .slice A' 0 c') ∧ w4 = wx)
    case first =>
      go_wp2_with fail
      all_goals
        go_meet
        exact ⟨⟨_, _, rfl⟩, rfl⟩
    case rest =>
      obtain ⟨⟨A', c', rfl⟩, rfl⟩ := hcut
      go_wp2_with fail
      refine HEnd.out.mono ?_
      rintro e w5 ⟨rfl, ho5, hc5⟩
      have hb5 : BldAt w.heap.size b (strOfNums S) w5 := bld_chg HBl4.out hc5 (by intro h; have : b = g := h; have := HBG.out; omega) (by
        intro i cs fz h hh
        have : i = g := hh
        subst this
        have := h.symm.trans HO4.out.blk
        simp at this)
      have hr5 := (hc5.block w.heap.size (Array.getElem?_eq_some_iff.1 HR4.out).1 (by intro h; have : w.heap.size = g := h; have := HBG.out; omega)).trans HR4.out
      have HB5 := Lib.hid (Chg.below HB4.out hc5 HFs.out)
      have HDn := Lib.hid (odone_calls ho5 (by decide))
      have HBl5 := Lib.hid hb5
      have HR5 := Lib.hid hr5
      have HO5 := Lib.hid ho5
      clear ho5 hc5 hb5 hr5
      go_wp2_with fail
      go_loopw [12] (fun v wr => w5 = wr) (fun _ _ => 0)
      case atStart => rfl
      case round =>
        subst hrel
        have HSt := Lib.hid (bld_string HBl5.out HB5.out.size)
        go_wp2_with fail
        refine HDn.out.mono ?_
        rintro e w6 ⟨rfl, rfl⟩
        go_wp2_with fail
        refine HSt.out.mono ?_
        rintro e w6 ⟨rfl, hb6, hot6⟩
        have ho6 : OutAt 182 w6 g { b40 with at_ := (l.length : Int), fin := true } [] (bocuR rn) := ⟨hot6 g _ HO5.out.blk (by intro h; injection h with h; have := HBG.out; omega) (by intro c fz h; cases h)⟩
        have hr6 := hot6 w.heap.size _ HR5.out (by intro h; injection h with h; have := HBG.out; omega) (by intro c fz h; cases h)
        have HFl := Lib.hid (fail_calls g _ w6 ho6.base)
        have HR6 := Lib.hid hr6
        have HB6 := Lib.hid (HB5.out.trans hb6)
        clear hb6 hot6 ho6 hr6
        go_wp2_with fail
        refine HFl.out.mono ?_
        rintro e w7 ⟨rfl, rfl⟩
        obtain ⟨w7, hw7⟩ : ∃ w7, w7 = w6.alloc (.cells #[.int .i64 0, .int .i64 0] 39) := ⟨_, rfl⟩
        have hw7' : w6.alloc (.cells #[.int .i64 b40.err, .int .i64 b40.pl] 39) = w7 := hw7.symm
        have hr7 : w7.heap[w.heap.size]? = some (.cells #[.int .i64 0, .int .i64 0] 39 (0, 0)) := by rw [hw7, Below.heap_alloc _ _ _ (Array.getElem?_eq_some_iff.1 HR6.out).1]; exact HR6.out
        have hb7 : Below w.heap.size w w7 := by rw [hw7]; exact HB6.out.alloc HB6.out.size _
        rw [hw7']
        have c0 : w7.cell? ⟨w.heap.size, 0, none⟩ = some (.int .i64 0) := by rw [cell_of hr7]; rfl
        have c1 : w7.cell? ⟨w.heap.size, 1, none⟩ = some (.int .i64 0) := by rw [cell_of hr7]; rfl
        have f0 := frozen_of hr7 0
        have f1 := frozen_of hr7 1
        have HB7 := Lib.hid hb7
        clear hw7 hw7' hr7 hb7
        go_wp2_with fail
        have e0 : ((w7.setCell ⟨w.heap.size, 0, none⟩ (.int .i64 b40.err)).setCell ⟨w.heap.size, 1, none⟩ (.int .i64 b40.pl)).cell? ⟨w.heap.size, 0, none⟩ = some (.int .i64 0) := by
          rw [World.cell?_setCell_other _ _ _ _ (by simp), World.cell?_setCell_same _ _ _ c0]
          rfl
        have e1 : ((w7.setCell ⟨w.heap.size, 0, none⟩ (.int .i64 b40.err)).setCell ⟨w.heap.size, 1, none⟩ (.int .i64 b40.pl)).cell? ⟨w.heap.size, 1, none⟩ = some (.int .i64 0) := by
          rw [World.cell?_setCell_same (u := .int .i64 0) _ _ _ (by rw [World.cell?_setCell_other _ _ _ _ (by simp)]; exact c1)]
          rfl
        refine bodyPost_ret (v := .tuple #[.string (strOfNums S), .agg #[.int .i64 0, .int .i64 0]]) (by simp [results, Tryz.results17, go_sem, e0, e1]) rfl ⟨by rw [HS.out], (HB7.out.setCell (p := ⟨w.heap.size, 0, none⟩) (Nat.le_refl _) _).setCell (p := ⟨w.heap.size, 1, none⟩) (Nat.le_refl _) _⟩
end Go.Proofs.YtooiooledeblmaaGreat.Out
end
section
namespace Go.Proofs.YtooiooledeblmaaGreat.Out
open Go.RowKit Go.Proofs.YtooiooledeblmaaGreat.Win Go.Proofs.YtooiooledeblmaaGreat.Stp Go.Proofs.YtooiooledeblmaaGreat.Lst
set_option linter.unusedVariables false
set_option linter.unusedSimpArgs false
def FedPost (T : TypeId) (w : World) (g n : Nat) (S : List Int) (e : Ending) (wr : World) : Prop :=
  e = .returned (.tuple #[.int .i64 n, .string (strOfNums S)]) ∧ (∃ rs, OutAt T wr g { b40 with at_ := (n : Int) } [] rs) ∧ Chg (ES g) w wr
def Rdy (T : TypeId) (F : Nat) (l S : List Int) (g : Nat) (wx : World) : Prop :=
  (∃ rs, OutAt T wx g b40 [] rs) ∧ ∀ (A : Option Addr) (cap : Nat), (∀ wr, Chg (ES g) wx wr → Lst wr .u32 A l) → Calls Tryz.prog F #[.pointer (some ⟨g, 0, none⟩), .slice A l.length cap, .int .i64 4096] wx (FedPost T wx g l.length S)
def NewPost (PT T : TypeId) (F : Nat) (l S : List Int) (w : World) (e : Ending) (w' : World) : Prop :=
  ∃ g, w.heap.size ≤ g ∧ g < w'.heap.size ∧ e = .returned (.tuple #[.iface PT (.pointer (some ⟨g, 0, none⟩)), .int .i64 0]) ∧ Below w.heap.size w w' ∧ ∀ wy, Below w'.heap.size w' wy → Rdy T F l S g wy
theorem FedPost.of {R : Type} {T : TypeId} {rest : R → List Value} {B : R → Int → List Int} {N : R → Int → R} {r : R} {w : World} {g : Nat} {l : List Int} {e : Ending} {wr : World} (h : FeedPost T rest B N r w g l e wr) : FedPost T w g l.length (told B N r l) e wr := ⟨h.1, ⟨_, h.2.1⟩, h.2.2⟩
end Go.Proofs.YtooiooledeblmaaGreat.Out
end
section
namespace Go.Proofs.YtooiooledeblmaaGreat.Out
open Go.RowKit Go.Proofs.YtooiooledeblmaaGreat.Win Go.Proofs.YtooiooledeblmaaGreat.Stp Go.Proofs.YtooiooledeblmaaGreat.Lst
set_option linter.unusedVariables false
set_option linter.unusedSimpArgs false
theorem mk_uni8 (v : Value) (w : World) : (Instr.makeInterface 111 v).run Tryz.prog w = .ok (.iface 111 v) w := run_makeInterface w 111 v (by kernel_rfl)
theorem feed_uni8 (g : Nat) (w : World) : (method 407 111 (.pointer (some ⟨g, 0, none⟩)) "Feed").run Tryz.prog w = .ok (141, .pointer (some ⟨g, 0, none⟩)) w := by kernel_rfl
theorem end_uni8 (g : Nat) (w : World) : (method 407 111 (.pointer (some ⟨g, 0, none⟩)) "End").run Tryz.prog w = .ok (139, .pointer (some ⟨g, 0, none⟩)) w := by kernel_rfl
theorem done_uni8 (g : Nat) (w : World) : (method 407 111 (.pointer (some ⟨g, 0, none⟩)) "Done").run Tryz.prog w = .ok (138, .pointer (some ⟨g, 0, none⟩)) w := by kernel_rfl
theorem fail_uni8 (g : Nat) (w : World) : (method 407 111 (.pointer (some ⟨g, 0, none⟩)) "Fail").run Tryz.prog w = .ok (140, .pointer (some ⟨g, 0, none⟩)) w := by kernel_rfl
attribute [local go_sem] mk_uni8 feed_uni8 end_uni8 done_uni8 fail_uni8
set_option maxRecDepth 100000 in
set_option maxHeartbeats 8000000 in
theorem encode_uni8 {c : Int} {S : List Int} {w : World} {A : Option Addr} {cap : Nat} {l : List Int} (hnew : ∀ wx, Calls Tryz.prog 34 #[.int .i64 c] wx (NewPost 111 169 141 l S wx)) (hlen : S.length ≤ 5 * l.length)
    (hL : ∀ wx, Below w.heap.size w wx → Lst wx .u32 A l) (hl : l.length ≤ 600) (hcap : l.length ≤ cap) :
    Calls Tryz.prog 17 #[.int .i64 c, .slice A l.length cap] w (EncPost w S) := by
  have HL := Lib.hid hL
  have HNew := Lib.hid hnew
  clear hL hnew
  go_enter Tryz.func17, Tryz.ntmps17
  go_wp2_with fail
  refine (HNew.out _).mono ?_
  rintro e w1 ⟨g, hg, hgl, rfl, hb, hrd⟩
  obtain ⟨w0, hw0⟩ : ∃ w0, w0 = w.alloc (.cells #[.int .i64 0, .int .i64 0] 39) := ⟨_, rfl⟩
  rw [← hw0] at hb hg
  have hz0 : w0.heap.size = w.heap.size + 1 := by rw [hw0]; simp
  have hr0 : w0.heap[w.heap.size]? = some (.cells #[.int .i64 0, .int .i64 0] 39 (0, 0)) := by rw [hw0]; exact heap_alloc_new _ _
  have hb0 : Below w.heap.size w w0 := by rw [hw0]; exact (Below.refl _ _).alloc (Nat.le_refl _) _
  have hr1 := (hb.block w.heap.size (by omega)).trans hr0
  have hb1 := hb0.trans (Below.mono hb (by omega))
  have HRd := Lib.hid hrd
  have HR1 := Lib.hid hr1
  have HB1 := Lib.hid hb1
  have HG := Lib.hid (show w.heap.size < g ∧ g < w1.heap.size by omega)
  clear hrd hb hw0 hz0 hr0 hb0 hg hgl hr1 hb1
  go_upto_block 0 with fail
  obtain ⟨b, hbd⟩ : ∃ b, b = w1.heap.size := ⟨_, rfl⟩
  obtain ⟨w2, hw2⟩ : ∃ w2, w2 = w1.alloc (.cells #[.pointer none, .slice none 0 0] 70) := ⟨_, rfl⟩
  have hbg : g < b ∧ w.heap.size < g := by have := HG.out; omega
  have HBl := Lib.hid (show BldAt w.heap.size b ByteArray.empty w2 by rw [hw2, hbd]; exact bld_new _ _ (by omega))
  obtain ⟨⟨rs, ho2⟩, hfd⟩ := HRd.out w2 (by rw [hw2]; exact (Below.refl _ _).alloc (Nat.le_refl _) _)
  have HO2 := Lib.hid ho2
  have HFd0 := Lib.hid hfd
  clear ho2 hfd
  have HR2 := Lib.hid (show w2.heap[w.heap.size]? = some (.cells #[.int .i64 0, .int .i64 0] 39 (0, 0)) by rw [hw2, Below.heap_alloc _ _ _ (by omega)]; exact HR1.out)
  have HB2 := Lib.hid (show Below w.heap.size w w2 by rw [hw2]; exact HB1.out.alloc HB1.out.size _)
  have HBG := Lib.hid hbg
  rw [← hw2, ← hbd]
  clear hbd hw2 hbg HRd HR1 HB1 HG
  go_wp2_with fail
  go_loopw [1] (fun v wr => v = .slice A l.length cap ∧ w2 = wr) (fun _ _ => 0)
  case atStart => exact ⟨rfl, rfl⟩
  case round =>
    obtain ⟨rfl, rfl⟩ := hrel
    have hfs : ∀ i, ES g i → w.heap.size ≤ i := by intro i hi; have : i = g := hi; have := HBG.out; omega
    have hfd := HFd0.out A cap (fun wr hc => HL.out wr (Chg.below HB2.out hc hfs))
    have hsz := str_size S
    have HFd := Lib.hid hfd
    have HFs := Lib.hid hfs
    clear hfd hfs
    go_wp2_with fail
    refine HFd.out.mono ?_
    rintro e w3 ⟨rfl, ⟨rs3, ho3⟩, hc3⟩
    have hb3 : BldAt w.heap.size b ByteArray.empty w3 := bld_chg HBl.out hc3 (by intro h; have : b = g := h; have := HBG.out; omega) (by
      intro i cs fz h hh
      have : i = g := hh
      subst this
      have := h.symm.trans HO2.out.blk
      simp at this)
    have hr3 := (hc3.block w.heap.size (Array.getElem?_eq_some_iff.1 HR2.out).1 (by intro h; have : w.heap.size = g := h; have := HBG.out; omega)).trans HR2.out
    have hbw3 := Chg.below HB2.out hc3 HFs.out
    have hwr := bld_write (strOfNums S) hb3 (by decide) (by omega) hbw3.size
    have HWr := Lib.hid hwr
    have HO3 := Lib.hid ho3
    have HR3 := Lib.hid hr3
    have HB3 := Lib.hid hbw3
    clear ho3 hc3 hb3 hr3 hbw3 hwr
    go_wp2_with fail
    refine HWr.out.mono ?_
    rintro e w4 ⟨rfl, hb4, hbe4, hot4⟩
    rw [ByteArray.empty_append] at hb4
    have ho4 : OutAt 169 w4 g { b40 with at_ := (l.length : Int) } [] rs3 := ⟨hot4 g _ HO3.out.blk (by intro h; injection h with h; have := HBG.out; omega) (by intro c fz h; cases h)⟩
    have hr4 := hot4 w.heap.size _ HR3.out (by intro h; injection h with h; have := HBG.out; omega) (by intro c fz h; cases h)
    have HEnd := Lib.hid (oend_calls ho4 rfl)
    have HBl4 := Lib.hid hb4
    have HB4 := Lib.hid (HB3.out.trans hbe4)
    have HR4 := Lib.hid hr4
    have HO4 := Lib.hid ho4
    clear hb4 hbe4 hot4 ho4 hr4
    go_upto_region 7 with fail
    go_cut [1] from 22 to 41 (fun v wx => (∃ A' c', v = .slice A' 0 c') ∧ w4 = wx)
    case first =>
      go_wp2_with fail
      all_goals
        go_meet
        exact ⟨⟨_, _, rfl⟩, rfl⟩
    case rest =>
      obtain ⟨⟨A', c', rfl⟩, rfl⟩ := hcut
      go_wp2_with fail
      refine HEnd.out.mono ?_
      rintro e w5 ⟨rfl, ho5, hc5⟩
      have hb5 : BldAt w.heap.size b (strOfNums S) w5 := bld_chg HBl4.out hc5 (by intro h; have : b = g := h; have := HBG.out; omega) (by
        intro i cs fz h hh
        have : i = g := hh
        subst this
        have := h.symm.trans HO4.out.blk
        simp at this)
      have hr5 := (hc5.block w.heap.size (Array.getElem?_eq_some_iff.1 HR4.out).1 (by intro h; have : w.heap.size = g := h; have := HBG.out; omega)).trans HR4.out
      have HB5 := Lib.hid (Chg.below HB4.out hc5 HFs.out)
      have HDn := Lib.hid (odone_calls ho5 (by decide))
      have HBl5 := Lib.hid hb5
      have HR5 := Lib.hid hr5
      have HO5 := Lib.hid ho5
      clear ho5 hc5 hb5 hr5
      go_wp2_with fail
      go_loopw [12] (fun v wr => w5 = wr) (fun _ _ => 0)
      case atStart => rfl
      case round =>
        subst hrel
        have HSt := Lib.hid (bld_string HBl5.out HB5.out.size)
        go_wp2_with fail
        refine HDn.out.mono ?_
        rintro e w6 ⟨rfl, rfl⟩
        go_wp2_with fail
        refine HSt.out.mono ?_
        rintro e w6 ⟨rfl, hb6, hot6⟩
        have ho6 : OutAt 169 w6 g { b40 with at_ := (l.length : Int), fin := true } [] rs3 := ⟨hot6 g _ HO5.out.blk (by intro h; injection h with h; have := HBG.out; omega) (by intro c fz h; cases h)⟩
        have hr6 := hot6 w.heap.size _ HR5.out (by intro h; injection h with h; have := HBG.out; omega) (by intro c fz h; cases h)
        have HFl := Lib.hid (fail_calls g _ w6 ho6.base)
        have HR6 := Lib.hid hr6
        have HB6 := Lib.hid (HB5.out.trans hb6)
        clear hb6 hot6 ho6 hr6
        go_wp2_with fail
        refine HFl.out.mono ?_
        rintro e w7 ⟨rfl, rfl⟩
        obtain ⟨w7, hw7⟩ : ∃ w7, w7 = w6.alloc (.cells #[.int .i64 0, .int .i64 0] 39) := ⟨_, rfl⟩
        have hw7' : w6.alloc (.cells #[.int .i64 b40.err, .int .i64 b40.pl] 39) = w7 := hw7.symm
        have hr7 : w7.heap[w.heap.size]? = some (.cells #[.int .i64 0, .int .i64 0] 39 (0, 0)) := by rw [hw7, Below.heap_alloc _ _ _ (Array.getElem?_eq_some_iff.1 HR6.out).1]; exact HR6.out
        have hb7 : Below w.heap.size w w7 := by rw [hw7]; exact HB6.out.alloc HB6.out.size _
        rw [hw7']
        have c0 : w7.cell? ⟨w.heap.size, 0, none⟩ = some (.int .i64 0) := by rw [cell_of hr7]; rfl
        have c1 : w7.cell? ⟨w.heap.size, 1, none⟩ = some (.int .i64 0) := by rw [cell_of hr7]; rfl
        have f0 := frozen_of hr7 0
        have f1 := frozen_of hr7 1
        have HB7 := Lib.hid hb7
        clear hw7 hw7' hr7 hb7
        go_wp2_with fail
        have e0 : ((w7.setCell ⟨w.heap.size, 0, none⟩ (.int .i64 b40.err)).setCell ⟨w.heap.size, 1, none⟩ (.int .i64 b40.pl)).cell? ⟨w.heap.size, 0, none⟩ = some (.int .i64 0) := by
          rw [World.cell?_setCell_other _ _ _ _ (by simp), World.cell?_setCell_same _ _ _ c0]
          rfl
        have e1 : ((w7.setCell ⟨w.heap.size, 0, none⟩ (.int .i64 b40.err)).setCell ⟨w.heap.size, 1, none⟩ (.int .i64 b40.pl)).cell? ⟨w.heap.size, 1, none⟩ = some (.int .i64 0) := by
          rw [World.cell?_setCell_same (u := .int .i64 0) _ _ _ (by rw [World.cell?_setCell_other _ _ _ _ (by simp)]; exact c1)]
          rfl
        refine bodyPost_ret (v := .tuple #[.string (strOfNums S), .agg #[.int .i64 0, .int .i64 0]]) (by simp [results, Tryz.results17, go_sem, e0, e1]) rfl ⟨rfl, (HB7.out.setCell (p := ⟨w.heap.size, 0, none⟩) (Nat.le_refl _) _).setCell (p := ⟨w.heap.size, 1, none⟩) (Nat.le_refl _) _⟩
end Go.Proofs.YtooiooledeblmaaGreat.Out
end
section
namespace Go.Proofs.YtooiooledeblmaaGreat.Out
open Go.RowKit Go.Proofs.YtooiooledeblmaaGreat.Win Go.Proofs.YtooiooledeblmaaGreat.Stp Go.Proofs.YtooiooledeblmaaGreat.Lst
set_option linter.unusedVariables false
set_option linter.unusedSimpArgs false
theorem mk_uni16 (v : Value) (w : World) : (Instr.makeInterface 113 v).run Tryz.prog w = .ok (.iface 113 v) w := run_makeInterface w 113 v (by kernel_rfl)
theorem feed_uni16 (g : Nat) (w : World) : (method 407 113 (.pointer (some ⟨g, 0, none⟩)) "Feed").run Tryz.prog w = .ok (150, .pointer (some ⟨g, 0, none⟩)) w := by kernel_rfl
theorem end_uni16 (g : Nat) (w : World) : (method 407 113 (.pointer (some ⟨g, 0, none⟩)) "End").run Tryz.prog w = .ok (139, .pointer (some ⟨g, 0, none⟩)) w := by kernel_rfl
theorem done_uni16 (g : Nat) (w : World) : (method 407 113 (.pointer (some ⟨g, 0, none⟩)) "Done").run Tryz.prog w = .ok (138, .pointer (some ⟨g, 0, none⟩)) w := by kernel_rfl
theorem fail_uni16 (g : Nat) (w : World) : (method 407 113 (.pointer (some ⟨g, 0, none⟩)) "Fail").run Tryz.prog w = .ok (140, .pointer (some ⟨g, 0, none⟩)) w := by kernel_rfl
attribute [local go_sem] mk_uni16 feed_uni16 end_uni16 done_uni16 fail_uni16
set_option maxRecDepth 100000 in
set_option maxHeartbeats 8000000 in
theorem encode_uni16 {c : Int} {S : List Int} {w : World} {A : Option Addr} {cap : Nat} {l : List Int} (hnew : ∀ wx, Calls Tryz.prog 34 #[.int .i64 c] wx (NewPost 113 171 150 l S wx)) (hlen : S.length ≤ 5 * l.length)
    (hL : ∀ wx, Below w.heap.size w wx → Lst wx .u32 A l) (hl : l.length ≤ 600) (hcap : l.length ≤ cap) :
    Calls Tryz.prog 17 #[.int .i64 c, .slice A l.length cap] w (EncPost w S) := by
  have HL := Lib.hid hL
  have HNew := Lib.hid hnew
  clear hL hnew
  go_enter Tryz.func17, Tryz.ntmps17
  go_wp2_with fail
  refine (HNew.out _).mono ?_
  rintro e w1 ⟨g, hg, hgl, rfl, hb, hrd⟩
  obtain ⟨w0, hw0⟩ : ∃ w0, w0 = w.alloc (.cells #[.int .i64 0, .int .i64 0] 39) := ⟨_, rfl⟩
  rw [← hw0] at hb hg
  have hz0 : w0.heap.size = w.heap.size + 1 := by rw [hw0]; simp
  have hr0 : w0.heap[w.heap.size]? = some (.cells #[.int .i64 0, .int .i64 0] 39 (0, 0)) := by rw [hw0]; exact heap_alloc_new _ _
  have hb0 : Below w.heap.size w w0 := by rw [hw0]; exact (Below.refl _ _).alloc (Nat.le_refl _) _
  have hr1 := (hb.block w.heap.size (by omega)).trans hr0
  have hb1 := hb0.trans (Below.mono hb (by omega))
  have HRd := Lib.hid hrd
  have HR1 := Lib.hid hr1
  have HB1 := Lib.hid hb1
  have HG := Lib.hid (show w.heap.size < g ∧ g < w1.heap.size by omega)
  clear hrd hb hw0 hz0 hr0 hb0 hg hgl hr1 hb1
  go_upto_block 0 with fail
  obtain ⟨b, hbd⟩ : ∃ b, b = w1.heap.size := ⟨_, rfl⟩
  obtain ⟨w2, hw2⟩ : ∃ w2, w2 = w1.alloc (.cells #[.pointer none, .slice none 0 0] 70) := ⟨_, rfl⟩
  have hbg : g < b ∧ w.heap.size < g := by have := HG.out; omega
  have HBl := Lib.hid (show BldAt w.heap.size b ByteArray.empty w2 by rw [hw2, hbd]; exact bld_new _ _ (by omega))
  obtain ⟨⟨rs, ho2⟩, hfd⟩ := HRd.out w2 (by rw [hw2]; exact (Below.refl _ _).alloc (Nat.le_refl _) _)
  have HO2 := Lib.hid ho2
  have HFd0 := Lib.hid hfd
  clear ho2 hfd
  have HR2 := Lib.hid (show w2.heap[w.heap.size]? = some (.cells #[.int .i64 0, .int .i64 0] 39 (0, 0)) by rw [hw2, Below.heap_alloc _ _ _ (by omega)]; exact HR1.out)
  have HB2 := Lib.hid (show Below w.heap.size w w2 by rw [hw2]; exact HB1.out.alloc HB1.out.size _)
  have HBG := Lib.hid hbg
  rw [← hw2, ← hbd]
  clear hbd hw2 hbg HRd HR1 HB1 HG
  go_wp2_with fail
  go_loopw [1] (fun v wr => v = .slice A l.length cap ∧ w2 = wr) (fun _ _ => 0)
  case atStart => exact ⟨rfl, rfl⟩
  case round =>
    obtain ⟨rfl, rfl⟩ := hrel
    have hfs : ∀ i, ES g i → w.heap.size ≤ i := by intro i hi; have : i = g := hi; have := HBG.out; omega
    have hfd := HFd0.out A cap (fun wr hc => HL.out wr (Chg.below HB2.out hc hfs))
    have hsz := str_size S
    have HFd := Lib.hid hfd
    have HFs := Lib.hid hfs
    clear hfd hfs
    go_wp2_with fail
    refine HFd.out.mono ?_
    rintro e w3 ⟨rfl, ⟨rs3, ho3⟩, hc3⟩
    have hb3 : BldAt w.heap.size b ByteArray.empty w3 := bld_chg HBl.out hc3 (by intro h; have : b = g := h; have := HBG.out; omega) (by
      intro i cs fz h hh
      have : i = g := hh
      subst this
      have := h.symm.trans HO2.out.blk
      simp at this)
    have hr3 := (hc3.block w.heap.size (Array.getElem?_eq_some_iff.1 HR2.out).1 (by intro h; have : w.heap.size = g := h; have := HBG.out; omega)).trans HR2.out
    have hbw3 := Chg.below HB2.out hc3 HFs.out
    have hwr := bld_write (strOfNums S) hb3 (by decide) (by omega) hbw3.size
    have HWr := Lib.hid hwr
    have HO3 := Lib.hid ho3
    have HR3 := Lib.hid hr3
    have HB3 := Lib.hid hbw3
    clear ho3 hc3 hb3 hr3 hbw3 hwr
    go_wp2_with fail
    refine HWr.out.mono ?_
    rintro e w4 ⟨rfl, hb4, hbe4, hot4⟩
    rw [ByteArray.empty_append] at hb4
    have ho4 : OutAt 171 w4 g { b40 with at_ := (l.length : Int) } [] rs3 := ⟨hot4 g _ HO3.out.blk (by intro h; injection h with h; have := HBG.out; omega) (by intro c fz h; cases h)⟩
    have hr4 := hot4 w.heap.size _ HR3.out (by intro h; injection h with h; have := HBG.out; omega) (by intro c fz h; cases h)
    have HEnd := Lib.hid (oend_calls ho4 rfl)
    have HBl4 := Lib.hid hb4
    have HB4 := Lib.hid (HB3.out.trans hbe4)
    have HR4 := Lib.hid hr4
    have HO4 := Lib.hid ho4
    clear hb4 hbe4 hot4 ho4 hr4
    go_upto_region 7 with fail
    go_cut [1] from 22 to 41 (fun v wx => (∃ A' c', v = .slice A' 0 c') ∧ w4 = wx)
    case first =>
      go_wp2_with fail
      all_goals
        go_meet
        exact ⟨⟨_, _, rfl⟩, rfl⟩
    case rest =>
      obtain ⟨⟨A', c', rfl⟩, rfl⟩ := hcut
      go_wp2_with fail
      refine HEnd.out.mono ?_
      rintro e w5 ⟨rfl, ho5, hc5⟩
      have hb5 : BldAt w.heap.size b (strOfNums S) w5 := bld_chg HBl4.out hc5 (by intro h; have : b = g := h; have := HBG.out; omega) (by
        intro i cs fz h hh
        have : i = g := hh
        subst this
        have := h.symm.trans HO4.out.blk
        simp at this)
      have hr5 := (hc5.block w.heap.size (Array.getElem?_eq_some_iff.1 HR4.out).1 (by intro h; have : w.heap.size = g := h; have := HBG.out; omega)).trans HR4.out
      have HB5 := Lib.hid (Chg.below HB4.out hc5 HFs.out)
      have HDn := Lib.hid (odone_calls ho5 (by decide))
      have HBl5 := Lib.hid hb5
      have HR5 := Lib.hid hr5
      have HO5 := Lib.hid ho5
      clear ho5 hc5 hb5 hr5
      go_wp2_with fail
      go_loopw [12] (fun v wr => w5 = wr) (fun _ _ => 0)
      case atStart => rfl
      case round =>
        subst hrel
        have HSt := Lib.hid (bld_string HBl5.out HB5.out.size)
        go_wp2_with fail
        refine HDn.out.mono ?_
        rintro e w6 ⟨rfl, rfl⟩
        go_wp2_with fail
        refine HSt.out.mono ?_
        rintro e w6 ⟨rfl, hb6, hot6⟩
        have ho6 : OutAt 171 w6 g { b40 with at_ := (l.length : Int), fin := true } [] rs3 := ⟨hot6 g _ HO5.out.blk (by intro h; injection h with h; have := HBG.out; omega) (by intro c fz h; cases h)⟩
        have hr6 := hot6 w.heap.size _ HR5.out (by intro h; injection h with h; have := HBG.out; omega) (by intro c fz h; cases h)
        have HFl := Lib.hid (fail_calls g _ w6 ho6.base)
        have HR6 := Lib.hid hr6
        have HB6 := Lib.hid (HB5.out.trans hb6)
        clear hb6 hot6 ho6 hr6
        go_wp2_with fail
        refine HFl.out.mono ?_
        rintro e w7 ⟨rfl, rfl⟩
        obtain ⟨w7, hw7⟩ : ∃ w7, w7 = w6.alloc (.cells #[.int .i64 0, .int .i64 0] 39) := ⟨_, rfl⟩
        have hw7' : w6.alloc (.cells #[.int .i64 b40.err, .int .i64 b40.pl] 39) = w7 := hw7.symm
        have hr7 : w7.heap[w.heap.size]? = some (.cells #[.int .i64 0, .int .i64 0] 39 (0, 0)) := by rw [hw7, Below.heap_alloc _ _ _ (Array.getElem?_eq_some_iff.1 HR6.out).1]; exact HR6.out
        have hb7 : Below w.heap.size w w7 := by rw [hw7]; exact HB6.out.alloc HB6.out.size _
        rw [hw7']
        have c0 : w7.cell? ⟨w.heap.size, 0, none⟩ = some (.int .i64 0) := by rw [cell_of hr7]; rfl
        have c1 : w7.cell? ⟨w.heap.size, 1, none⟩ = some (.int .i64 0) := by rw [cell_of hr7]; rfl
        have f0 := frozen_of hr7 0
        have f1 := frozen_of hr7 1
        have HB7 := Lib.hid hb7
        clear hw7 hw7' hr7 hb7
        go_wp2_with fail
        have e0 : ((w7.setCell ⟨w.heap.size, 0, none⟩ (.int .i64 b40.err)).setCell ⟨w.heap.size, 1, none⟩ (.int .i64 b40.pl)).cell? ⟨w.heap.size, 0, none⟩ = some (.int .i64 0) := by
          rw [World.cell?_setCell_other _ _ _ _ (by simp), World.cell?_setCell_same _ _ _ c0]
          rfl
        have e1 : ((w7.setCell ⟨w.heap.size, 0, none⟩ (.int .i64 b40.err)).setCell ⟨w.heap.size, 1, none⟩ (.int .i64 b40.pl)).cell? ⟨w.heap.size, 1, none⟩ = some (.int .i64 0) := by
          rw [World.cell?_setCell_same (u := .int .i64 0) _ _ _ (by rw [World.cell?_setCell_other _ _ _ _ (by simp)]; exact c1)]
          rfl
        refine bodyPost_ret (v := .tuple #[.string (strOfNums S), .agg #[.int .i64 0, .int .i64 0]]) (by simp [results, Tryz.results17, go_sem, e0, e1]) rfl ⟨rfl, (HB7.out.setCell (p := ⟨w.heap.size, 0, none⟩) (Nat.le_refl _) _).setCell (p := ⟨w.heap.size, 1, none⟩) (Nat.le_refl _) _⟩
end Go.Proofs.YtooiooledeblmaaGreat.Out
end
section
namespace Go.Proofs.YtooiooledeblmaaGreat.Out
open Go.RowKit Go.Proofs.YtooiooledeblmaaGreat.Win Go.Proofs.YtooiooledeblmaaGreat.Stp Go.Proofs.YtooiooledeblmaaGreat.Lst
set_option linter.unusedVariables false
set_option linter.unusedSimpArgs false
theorem mk_uni32 (v : Value) (w : World) : (Instr.makeInterface 115 v).run Tryz.prog w = .ok (.iface 115 v) w := run_makeInterface w 115 v (by kernel_rfl)
theorem feed_uni32 (g : Nat) (w : World) : (method 407 115 (.pointer (some ⟨g, 0, none⟩)) "Feed").run Tryz.prog w = .ok (153, .pointer (some ⟨g, 0, none⟩)) w := by kernel_rfl
theorem end_uni32 (g : Nat) (w : World) : (method 407 115 (.pointer (some ⟨g, 0, none⟩)) "End").run Tryz.prog w = .ok (139, .pointer (some ⟨g, 0, none⟩)) w := by kernel_rfl
theorem done_uni32 (g : Nat) (w : World) : (method 407 115 (.pointer (some ⟨g, 0, none⟩)) "Done").run Tryz.prog w = .ok (138, .pointer (some ⟨g, 0, none⟩)) w := by kernel_rfl
theorem fail_uni32 (g : Nat) (w : World) : (method 407 115 (.pointer (some ⟨g, 0, none⟩)) "Fail").run Tryz.prog w = .ok (140, .pointer (some ⟨g, 0, none⟩)) w := by kernel_rfl
attribute [local go_sem] mk_uni32 feed_uni32 end_uni32 done_uni32 fail_uni32
set_option maxRecDepth 100000 in
set_option maxHeartbeats 8000000 in
theorem encode_uni32 {c : Int} {S : List Int} {w : World} {A : Option Addr} {cap : Nat} {l : List Int} (hnew : ∀ wx, Calls Tryz.prog 34 #[.int .i64 c] wx (NewPost 115 173 153 l S wx)) (hlen : S.length ≤ 5 * l.length)
    (hL : ∀ wx, Below w.heap.size w wx → Lst wx .u32 A l) (hl : l.length ≤ 600) (hcap : l.length ≤ cap) :
    Calls Tryz.prog 17 #[.int .i64 c, .slice A l.length cap] w (EncPost w S) := by
  have HL := Lib.hid hL
  have HNew := Lib.hid hnew
  clear hL hnew
  go_enter Tryz.func17, Tryz.ntmps17
  go_wp2_with fail
  refine (HNew.out _).mono ?_
  rintro e w1 ⟨g, hg, hgl, rfl, hb, hrd⟩
  obtain ⟨w0, hw0⟩ : ∃ w0, w0 = w.alloc (.cells #[.int .i64 0, .int .i64 0] 39) := ⟨_, rfl⟩
  rw [← hw0] at hb hg
  have hz0 : w0.heap.size = w.heap.size + 1 := by rw [hw0]; simp
  have hr0 : w0.heap[w.heap.size]? = some (.cells #[.int .i64 0, .int .i64 0] 39 (0, 0)) := by rw [hw0]; exact heap_alloc_new _ _
  have hb0 : Below w.heap.size w w0 := by rw [hw0]; exact (Below.refl _ _).alloc (Nat.le_refl _) _
  have hr1 := (hb.block w.heap.size (by omega)).trans hr0
  have hb1 := hb0.trans (Below.mono hb (by omega))
  have HRd := Lib.hid hrd
  have HR1 := Lib.hid hr1
  have HB1 := Lib.hid hb1
  have HG := Lib.hid (show w.heap.size < g ∧ g < w1.heap.size by omega)
  clear hrd hb hw0 hz0 hr0 hb0 hg hgl hr1 hb1
  go_upto_block 0 with fail
  obtain ⟨b, hbd⟩ : ∃ b, b = w1.heap.size := ⟨_, rfl⟩
  obtain ⟨w2, hw2⟩ : ∃ w2, w2 = w1.alloc (.cells #[.pointer none, .slice none 0 0] 70) := ⟨_, rfl⟩
  have hbg : g < b ∧ w.heap.size < g := by have := HG.out; omega
  have HBl := Lib.hid (show BldAt w.heap.size b ByteArray.empty w2 by rw [hw2, hbd]; exact bld_new _ _ (by omega))
  obtain ⟨⟨rs, ho2⟩, hfd⟩ := HRd.out w2 (by rw [hw2]; exact (Below.refl _ _).alloc (Nat.le_refl _) _)
  have HO2 := Lib.hid ho2
  have HFd0 := Lib.hid hfd
  clear ho2 hfd
  have HR2 := Lib.hid (show w2.heap[w.heap.size]? = some (.cells #[.int .i64 0, .int .i64 0] 39 (0, 0)) by rw [hw2, Below.heap_alloc _ _ _ (by omega)]; exact HR1.out)
  have HB2 := Lib.hid (show Below w.heap.size w w2 by rw [hw2]; exact HB1.out.alloc HB1.out.size _)
  have HBG := Lib.hid hbg
  rw [← hw2, ← hbd]
  clear hbd hw2 hbg HRd HR1 HB1 HG
  go_wp2_with fail
  go_loopw [1] (fun v wr => v = .slice A l.length cap ∧ w2 = wr) (fun _ _ => 0)
  case atStart => exact ⟨rfl, rfl⟩
  case round =>
    obtain ⟨rfl, rfl⟩ := hrel
    have hfs : ∀ i, ES g i → w.heap.size ≤ i := by intro i hi; have : i = g := hi; have := HBG.out; omega
    have hfd := HFd0.out A cap (fun wr hc => HL.out wr (Chg.below HB2.out hc hfs))
    have hsz := str_size S
    have HFd := Lib.hid hfd
    have HFs := Lib.hid hfs
    clear hfd hfs
    go_wp2_with fail
    refine HFd.out.mono ?_
    rintro e w3 ⟨rfl, ⟨rs3, ho3⟩, hc3⟩
    have hb3 : BldAt w.heap.size b ByteArray.empty w3 := bld_chg HBl.out hc3 (by intro h; have : b = g := h; have := HBG.out; omega) (by
      intro i cs fz h hh
      have : i = g := hh
      subst this
      have := h.symm.trans HO2.out.blk
      simp at this)
    have hr3 := (hc3.block w.heap.size (Array.getElem?_eq_some_iff.1 HR2.out).1 (by intro h; have : w.heap.size = g := h; have := HBG.out; omega)).trans HR2.out
    have hbw3 := Chg.below HB2.out hc3 HFs.out
    have hwr := bld_write (strOfNums S) hb3 (by decide) (by omega) hbw3.size
    have HWr := Lib.hid hwr
    have HO3 := Lib.hid ho3
    have HR3 := Lib.hid hr3
    have HB3 := Lib.hid hbw3
    clear ho3 hc3 hb3 hr3 hbw3 hwr
    go_wp2_with fail
    refine HWr.out.mono ?_
    rintro e w4 ⟨rfl, hb4, hbe4, hot4⟩
    rw [ByteArray.empty_append] at hb4
    have ho4 : OutAt 173 w4 g { b40 with at_ := (l.length : Int) } [] rs3 := ⟨hot4 g _ HO3.out.blk (by intro h; injection h with h; have := HBG.out; omega) (by intro c fz h; cases h)⟩
    have hr4 := hot4 w.heap.size _ HR3.out (by intro h; injection h with h; have := HBG.out; omega) (by intro c fz h; cases h)
    have HEnd := Lib.hid (oend_calls ho4 rfl)
    have HBl4 := Lib.hid hb4
    have HB4 := Lib.hid (HB3.out.trans hbe4)
    have HR4 := Lib.hid hr4
    have HO4 := Lib.hid ho4
    clear hb4 hbe4 hot4 ho4 hr4
    go_upto_region 7 with fail
    go_cut [1] from 22 to 41 (fun v wx => (∃ A' c', v = .slice A' 0 c') ∧ w4 = wx)
    case first =>
      go_wp2_with fail
      all_goals
        go_meet
        exact ⟨⟨_, _, rfl⟩, rfl⟩
    case rest =>
      obtain ⟨⟨A', c', rfl⟩, rfl⟩ := hcut
      go_wp2_with fail
      refine HEnd.out.mono ?_
      rintro e w5 ⟨rfl, ho5, hc5⟩
      have hb5 : BldAt w.heap.size b (strOfNums S) w5 := bld_chg HBl4.out hc5 (by intro h; have : b = g := h; have := HBG.out; omega) (by
        intro i cs fz h hh
        have : i = g := hh
        subst this
        have := h.symm.trans HO4.out.blk
        simp at this)
      have hr5 := (hc5.block w.heap.size (Array.getElem?_eq_some_iff.1 HR4.out).1 (by intro h; have : w.heap.size = g := h; have := HBG.out; omega)).trans HR4.out
      have HB5 := Lib.hid (Chg.below HB4.out hc5 HFs.out)
      have HDn := Lib.hid (odone_calls ho5 (by decide))
      have HBl5 := Lib.hid hb5
      have HR5 := Lib.hid hr5
      have HO5 := Lib.hid ho5
      clear ho5 hc5 hb5 hr5
      go_wp2_with fail
      go_loopw [12] (fun v wr => w5 = wr) (fun _ _ => 0)
      case atStart => rfl
      case round =>
        subst hrel
        have HSt := Lib.hid (bld_string HBl5.out HB5.out.size)
        go_wp2_with fail
        refine HDn.out.mono ?_
        rintro e w6 ⟨rfl, rfl⟩
        go_wp2_with fail
        refine HSt.out.mono ?_
        rintro e w6 ⟨rfl, hb6, hot6⟩
        have ho6 : OutAt 173 w6 g { b40 with at_ := (l.length : Int), fin := true } [] rs3 := ⟨hot6 g _ HO5.out.blk (by intro h; injection h with h; have := HBG.out; omega) (by intro c fz h; cases h)⟩
        have hr6 := hot6 w.heap.size _ HR5.out (by intro h; injection h with h; have := HBG.out; omega) (by intro c fz h; cases h)
        have HFl := Lib.hid (fail_calls g _ w6 ho6.base)
        have HR6 := Lib.hid hr6
        have HB6 := Lib.hid (HB5.out.trans hb6)
        clear hb6 hot6 ho6 hr6
        go_wp2_with fail
        refine HFl.out.mono ?_
        rintro e w7 ⟨rfl, rfl⟩
        obtain ⟨w7, hw7⟩ : ∃ w7, w7 = w6.alloc (.cells #[.int .i64 0, .int .i64 0] 39) := ⟨_, rfl⟩
        have hw7' : w6.alloc (.cells #[.int .i64 b40.err, .int .i64 b40.pl] 39) = w7 := hw7.symm
        have hr7 : w7.heap[w.heap.size]? = some (.cells #[.int .i64 0, .int .i64 0] 39 (0, 0)) := by rw [hw7, Below.heap_alloc _ _ _ (Array.getElem?_eq_some_iff.1 HR6.out).1]; exact HR6.out
        have hb7 : Below w.heap.size w w7 := by rw [hw7]; exact HB6.out.alloc HB6.out.size _
        rw [hw7']
        have c0 : w7.cell? ⟨w.heap.size, 0, none⟩ = some (.int .i64 0) := by rw [cell_of hr7]; rfl
        have c1 : w7.cell? ⟨w.heap.size, 1, none⟩ = some (.int .i64 0) := by rw [cell_of hr7]; rfl
        have f0 := frozen_of hr7 0
        have f1 := frozen_of hr7 1
        have HB7 := Lib.hid hb7
        clear hw7 hw7' hr7 hb7
        go_wp2_with fail
        have e0 : ((w7.setCell ⟨w.heap.size, 0, none⟩ (.int .i64 b40.err)).setCell ⟨w.heap.size, 1, none⟩ (.int .i64 b40.pl)).cell? ⟨w.heap.size, 0, none⟩ = some (.int .i64 0) := by
          rw [World.cell?_setCell_other _ _ _ _ (by simp), World.cell?_setCell_same _ _ _ c0]
          rfl
        have e1 : ((w7.setCell ⟨w.heap.size, 0, none⟩ (.int .i64 b40.err)).setCell ⟨w.heap.size, 1, none⟩ (.int .i64 b40.pl)).cell? ⟨w.heap.size, 1, none⟩ = some (.int .i64 0) := by
          rw [World.cell?_setCell_same (u := .int .i64 0) _ _ _ (by rw [World.cell?_setCell_other _ _ _ _ (by simp)]; exact c1)]
          rfl
        refine bodyPost_ret (v := .tuple #[.string (strOfNums S), .agg #[.int .i64 0, .int .i64 0]]) (by simp [results, Tryz.results17, go_sem, e0, e1]) rfl ⟨rfl, (HB7.out.setCell (p := ⟨w.heap.size, 0, none⟩) (Nat.le_refl _) _).setCell (p := ⟨w.heap.size, 1, none⟩) (Nat.le_refl _) _⟩
end Go.Proofs.YtooiooledeblmaaGreat.Out
end
section
namespace Go.Proofs.YtooiooledeblmaaGreat.Out
open Go.RowKit Go.Proofs.YtooiooledeblmaaGreat.Win Go.Proofs.YtooiooledeblmaaGreat.Stp Go.Proofs.YtooiooledeblmaaGreat.Lst
set_option linter.unusedVariables false
set_option linter.unusedSimpArgs false
theorem mk_ebcdic (v : Value) (w : World) : (Instr.makeInterface 117 v).run Tryz.prog w = .ok (.iface 117 v) w := run_makeInterface w 117 v (by kernel_rfl)
theorem feed_ebcdic (g : Nat) (w : World) : (method 407 117 (.pointer (some ⟨g, 0, none⟩)) "Feed").run Tryz.prog w = .ok (155, .pointer (some ⟨g, 0, none⟩)) w := by kernel_rfl
theorem end_ebcdic (g : Nat) (w : World) : (method 407 117 (.pointer (some ⟨g, 0, none⟩)) "End").run Tryz.prog w = .ok (139, .pointer (some ⟨g, 0, none⟩)) w := by kernel_rfl
theorem done_ebcdic (g : Nat) (w : World) : (method 407 117 (.pointer (some ⟨g, 0, none⟩)) "Done").run Tryz.prog w = .ok (138, .pointer (some ⟨g, 0, none⟩)) w := by kernel_rfl
theorem fail_ebcdic (g : Nat) (w : World) : (method 407 117 (.pointer (some ⟨g, 0, none⟩)) "Fail").run Tryz.prog w = .ok (140, .pointer (some ⟨g, 0, none⟩)) w := by kernel_rfl
attribute [local go_sem] mk_ebcdic feed_ebcdic end_ebcdic done_ebcdic fail_ebcdic
set_option maxRecDepth 100000 in
set_option maxHeartbeats 8000000 in
theorem encode_ebcdic {c : Int} {S : List Int} {w : World} {A : Option Addr} {cap : Nat} {l : List Int} (hnew : ∀ wx, Calls Tryz.prog 34 #[.int .i64 c] wx (NewPost 117 178 155 l S wx)) (hlen : S.length ≤ 5 * l.length)
    (hL : ∀ wx, Below w.heap.size w wx → Lst wx .u32 A l) (hl : l.length ≤ 600) (hcap : l.length ≤ cap) :
    Calls Tryz.prog 17 #[.int .i64 c, .slice A l.length cap] w (EncPost w S) := by
  have HL := Lib.hid hL
  have HNew := Lib.hid hnew
  clear hL hnew
  go_enter Tryz.func17, Tryz.ntmps17
  go_wp2_with fail
  refine (HNew.out _).mono ?_
  rintro e w1 ⟨g, hg, hgl, rfl, hb, hrd⟩
  obtain ⟨w0, hw0⟩ : ∃ w0, w0 = w.alloc (.cells #[.int .i64 0, .int .i64 0] 39) := ⟨_, rfl⟩
  rw [← hw0] at hb hg
  have hz0 : w0.heap.size = w.heap.size + 1 := by rw [hw0]; simp
  have hr0 : w0.heap[w.heap.size]? = some (.cells #[.int .i64 0, .int .i64 0] 39 (0, 0)) := by rw [hw0]; exact heap_alloc_new _ _
  have hb0 : Below w.heap.size w w0 := by rw [hw0]; exact (Below.refl _ _).alloc (Nat.le_refl _) _
  have hr1 := (hb.block w.heap.size (by omega)).trans hr0
  have hb1 := hb0.trans (Below.mono hb (by omega))
  have HRd := Lib.hid hrd
  have HR1 := Lib.hid hr1
  have HB1 := Lib.hid hb1
  have HG := Lib.hid (show w.heap.size < g ∧ g < w1.heap.size by omega)
  clear hrd hb hw0 hz0 hr0 hb0 hg hgl hr1 hb1
  go_upto_block 0 with fail
  obtain ⟨b, hbd⟩ : ∃ b, b = w1.heap.size := ⟨_, rfl⟩
  obtain ⟨w2, hw2⟩ : ∃ w2, w2 = w1.alloc (.cells #[.pointer none, .slice none 0 0] 70) := ⟨_, rfl⟩
  have hbg : g < b ∧ w.heap.size < g := by have := HG.out; omega
  have HBl := Lib.hid (show BldAt w.heap.size b ByteArray.empty w2 by rw [hw2, hbd]; exact bld_new _ _ (by omega))
  obtain ⟨⟨rs, ho2⟩, hfd⟩ := HRd.out w2 (by rw [hw2]; exact (Below.refl _ _).alloc (Nat.le_refl _) _)
  have HO2 := Lib.hid ho2
  have HFd0 := Lib.hid hfd
  clear ho2 hfd
  have HR2 := Lib.hid (show w2.heap[w.heap.size]? = some (.cells #[.int .i64 0, .int .i64 0] 39 (0, 0)) by rw [hw2, Below.heap_alloc _ _ _ (by omega)]; exact HR1.out)
  have HB2 := Lib.hid (show Below w.heap.size w w2 by rw [hw2]; exact HB1.out.alloc HB1.out.size _)
  have HBG := Lib.hid hbg
  rw [← hw2, ← hbd]
  clear hbd hw2 hbg HRd HR1 HB1 HG
  go_wp2_with fail
  go_loopw [1] (fun v wr => v = .slice A l.length cap ∧ w2 = wr) (fun _ _ => 0)
  case atStart => exact ⟨rfl, rfl⟩
  case round =>
    obtain ⟨rfl, rfl⟩ := hrel
    have hfs : ∀ i, ES g i → w.heap.size ≤ i := by intro i hi; have : i = g := hi; have := HBG.out; omega
    have hfd := HFd0.out A cap (fun wr hc => HL.out wr (Chg.below HB2.out hc hfs))
    have hsz := str_size S
    have HFd := Lib.hid hfd
    have HFs := Lib.hid hfs
    clear hfd hfs
    go_wp2_with fail
    refine HFd.out.mono ?_
    rintro e w3 ⟨rfl, ⟨rs3, ho3⟩, hc3⟩
    have hb3 : BldAt w.heap.size b ByteArray.empty w3 := bld_chg HBl.out hc3 (by intro h; have : b = g := h; have := HBG.out; omega) (by
      intro i cs fz h hh
      have : i = g := hh
      subst this
      have := h.symm.trans HO2.out.blk
      simp at this)
    have hr3 := (hc3.block w.heap.size (Array.getElem?_eq_some_iff.1 HR2.out).1 (by intro h; have : w.heap.size = g := h; have := HBG.out; omega)).trans HR2.out
    have hbw3 := Chg.below HB2.out hc3 HFs.out
    have hwr := bld_write (strOfNums S) hb3 (by decide) (by omega) hbw3.size
    have HWr := Lib.hid hwr
    have HO3 := Lib.hid ho3
    have HR3 := Lib.hid hr3
    have HB3 := Lib.hid hbw3
    clear ho3 hc3 hb3 hr3 hbw3 hwr
    go_wp2_with fail
    refine HWr.out.mono ?_
    rintro e w4 ⟨rfl, hb4, hbe4, hot4⟩
    rw [ByteArray.empty_append] at hb4
    have ho4 : OutAt 178 w4 g { b40 with at_ := (l.length : Int) } [] rs3 := ⟨hot4 g _ HO3.out.blk (by intro h; injection h with h; have := HBG.out; omega) (by intro c fz h; cases h)⟩
    have hr4 := hot4 w.heap.size _ HR3.out (by intro h; injection h with h; have := HBG.out; omega) (by intro c fz h; cases h)
    have HEnd := Lib.hid (oend_calls ho4 rfl)
    have HBl4 := Lib.hid hb4
    have HB4 := Lib.hid (HB3.out.trans hbe4)
    have HR4 := Lib.hid hr4
    have HO4 := Lib.hid ho4
    clear hb4 hbe4 hot4 ho4 hr4
    go_upto_region 7 with fail
    go_cut [1] from 22 to 41 (fun v wx => (∃ A' c', v = .slice A' 0 c') ∧ w4 = wx)
    case first =>
      go_wp2_with fail
      all_goals
        go_meet
        exact ⟨⟨_, _, rfl⟩, rfl⟩
    case rest =>
      obtain ⟨⟨A', c', rfl⟩, rfl⟩ := hcut
      go_wp2_with fail
      refine HEnd.out.mono ?_
      rintro e w5 ⟨rfl, ho5, hc5⟩
      have hb5 : BldAt w.heap.size b (strOfNums S) w5 := bld_chg HBl4.out hc5 (by intro h; have : b = g := h; have := HBG.out; omega) (by
        intro i cs fz h hh
        have : i = g := hh
        subst this
        have := h.symm.trans HO4.out.blk
        simp at this)
      have hr5 := (hc5.block w.heap.size (Array.getElem?_eq_some_iff.1 HR4.out).1 (by intro h; have : w.heap.size = g := h; have := HBG.out; omega)).trans HR4.out
      have HB5 := Lib.hid (Chg.below HB4.out hc5 HFs.out)
      have HDn := Lib.hid (odone_calls ho5 (by decide))
      have HBl5 := Lib.hid hb5
      have HR5 := Lib.hid hr5
      have HO5 := Lib.hid ho5
      clear ho5 hc5 hb5 hr5
      go_wp2_with fail
      go_loopw [12] (fun v wr => w5 = wr) (fun _ _ => 0)
      case atStart => rfl
      case round =>
        subst hrel
        have HSt := Lib.hid (bld_string HBl5.out HB5.out.size)
        go_wp2_with fail
        refine HDn.out.mono ?_
        rintro e w6 ⟨rfl, rfl⟩
        go_wp2_with fail
        refine HSt.out.mono ?_
        rintro e w6 ⟨rfl, hb6, hot6⟩
        have ho6 : OutAt 178 w6 g { b40 with at_ := (l.length : Int), fin := true } [] rs3 := ⟨hot6 g _ HO5.out.blk (by intro h; injection h with h; have := HBG.out; omega) (by intro c fz h; cases h)⟩
        have hr6 := hot6 w.heap.size _ HR5.out (by intro h; injection h with h; have := HBG.out; omega) (by intro c fz h; cases h)
        have HFl := Lib.hid (fail_calls g _ w6 ho6.base)
        have HR6 := Lib.hid hr6
        have HB6 := Lib.hid (HB5.out.trans hb6)
        clear hb6 hot6 ho6 hr6
        go_wp2_with fail
        refine HFl.out.mono ?_
        rintro e w7 ⟨rfl, rfl⟩
        obtain ⟨w7, hw7⟩ : ∃ w7, w7 = w6.alloc (.cells #[.int .i64 0, .int .i64 0] 39) := ⟨_, rfl⟩
        have hw7' : w6.alloc (.cells #[.int .i64 b40.err, .int .i64 b40.pl] 39) = w7 := hw7.symm
        have hr7 : w7.heap[w.heap.size]? = some (.cells #[.int .i64 0, .int .i64 0] 39 (0, 0)) := by rw [hw7, Below.heap_alloc _ _ _ (Array.getElem?_eq_some_iff.1 HR6.out).1]; exact HR6.out
        have hb7 : Below w.heap.size w w7 := by rw [hw7]; exact HB6.out.alloc HB6.out.size _
        rw [hw7']
        have c0 : w7.cell? ⟨w.heap.size, 0, none⟩ = some (.int .i64 0) := by rw [cell_of hr7]; rfl
        have c1 : w7.cell? ⟨w.heap.size, 1, none⟩ = some (.int .i64 0) := by rw [cell_of hr7]; rfl
        have f0 := frozen_of hr7 0
        have f1 := frozen_of hr7 1
        have HB7 := Lib.hid hb7
        clear hw7 hw7' hr7 hb7
        go_wp2_with fail
        have e0 : ((w7.setCell ⟨w.heap.size, 0, none⟩ (.int .i64 b40.err)).setCell ⟨w.heap.size, 1, none⟩ (.int .i64 b40.pl)).cell? ⟨w.heap.size, 0, none⟩ = some (.int .i64 0) := by
          rw [World.cell?_setCell_other _ _ _ _ (by simp), World.cell?_setCell_same _ _ _ c0]
          rfl
        have e1 : ((w7.setCell ⟨w.heap.size, 0, none⟩ (.int .i64 b40.err)).setCell ⟨w.heap.size, 1, none⟩ (.int .i64 b40.pl)).cell? ⟨w.heap.size, 1, none⟩ = some (.int .i64 0) := by
          rw [World.cell?_setCell_same (u := .int .i64 0) _ _ _ (by rw [World.cell?_setCell_other _ _ _ _ (by simp)]; exact c1)]
          rfl
        refine bodyPost_ret (v := .tuple #[.string (strOfNums S), .agg #[.int .i64 0, .int .i64 0]]) (by simp [results, Tryz.results17, go_sem, e0, e1]) rfl ⟨rfl, (HB7.out.setCell (p := ⟨w.heap.size, 0, none⟩) (Nat.le_refl _) _).setCell (p := ⟨w.heap.size, 1, none⟩) (Nat.le_refl _) _⟩
end Go.Proofs.YtooiooledeblmaaGreat.Out
end
section
namespace Go.Proofs.YtooiooledeblmaaGreat.Out
open Go.RowKit Go.Proofs.YtooiooledeblmaaGreat.Win Go.Proofs.YtooiooledeblmaaGreat.Stp Go.Proofs.YtooiooledeblmaaGreat.Lst
set_option linter.unusedVariables false
set_option linter.unusedSimpArgs false
def u8B : Unit → Int → List Int := fun _ c => uni8B c
def u16B (big : Bool) : Unit → Int → List Int := fun _ c => uni16B big c
def u32B (big : Bool) : Unit → Int → List Int := fun _ c => uni32B big c
def bgR (big : Bool) : Unit → List Value := fun _ => [.bool big]
def noR : Unit → List Value := fun _ => []
theorem uni8B_len (c : Int) : (uni8B c).length ≤ 5 := by
  unfold uni8B
  repeat' split
  all_goals simp
theorem uni16B_len (big : Bool) (c : Int) : (uni16B big c).length ≤ 5 := by
  unfold uni16B
  split
  · rw [unitB_len]; decide
  · rw [List.length_append, unitB_len, unitB_len]; decide
theorem uni32B_len (big : Bool) (c : Int) : (uni32B big c).length ≤ 5 := by unfold uni32B; split <;> simp
theorem ebB_len (r : Unit) (c : Int) : (ebB r c).length ≤ 5 := by
  unfold ebB
  rw [List.length_map]
  exact mod8B_len c
theorem uni8_new (w : World) : Calls Tryz.prog 62 #[] w fun e w' => e = .returned (.pointer (some ⟨w.heap.size, 0, none⟩)) ∧ OutAt 169 w' w.heap.size b40 [] [] ∧ Below w.heap.size w w' ∧ w'.heap.size = w.heap.size + 1 := by
  go_enter Tryz.func62, Tryz.ntmps62
  go_wp2
  go_ret
  exact ⟨rfl, ⟨heap_alloc_new _ _⟩, (Below.refl _ _).alloc (Nat.le_refl _) _, by simp⟩
theorem uni16_new (big : Bool) (w : World) : Calls Tryz.prog 63 #[.bool big] w fun e w' => e = .returned (.pointer (some ⟨w.heap.size, 0, none⟩)) ∧ OutAt 171 w' w.heap.size b40 [] (bgR big ()) ∧ Below w.heap.size w w' ∧ w'.heap.size = w.heap.size + 1 := by
  go_enter Tryz.func63, Tryz.ntmps63
  go_wp2
  go_ret
  exact ⟨rfl, ⟨heap_alloc_new _ _⟩, (Below.refl _ _).alloc (Nat.le_refl _) _, by simp⟩
theorem uni32_new (big : Bool) (w : World) : Calls Tryz.prog 64 #[.bool big] w fun e w' => e = .returned (.pointer (some ⟨w.heap.size, 0, none⟩)) ∧ OutAt 173 w' w.heap.size b40 [] (bgR big ()) ∧ Below w.heap.size w w' ∧ w'.heap.size = w.heap.size + 1 := by
  go_enter Tryz.func64, Tryz.ntmps64
  go_wp2
  go_ret
  exact ⟨rfl, ⟨heap_alloc_new _ _⟩, (Below.refl _ _).alloc (Nat.le_refl _) _, by simp⟩
theorem rdy_uni8 {w : World} {g : Nat} {l : List Int} (h : OutAt 169 w g b40 [] (noR ())) (hl : l.length ≤ 600) (hr : ∀ x ∈ l, 0 ≤ x ∧ isB x = true) : Rdy 169 141 l (told u8B unN () l) g w :=
  ⟨⟨_, h⟩, fun A cap hA => (uni8_feed (cap := cap) (l := l) (rest := noR) (B := u8B) (N := unN) (I := fun _ => True) (r := ()) 4096 h (fun r c w' b l _ h h0 hb hl => (uni8_bytes g c w' h0 hb).mono (fun e w2 hp => ⟨hp.1, h.below hp.2, Chg.of_below hp.2⟩)) (fun _ c => uni8B_len c) trivial (fun _ _ _ _ _ => trivial) hl hA hr (by decide) (by decide)).mono (fun e wr hp => FedPost.of hp)⟩
theorem rdy_uni16 (big : Bool) {w : World} {g : Nat} {l : List Int} (h : OutAt 171 w g b40 [] ((bgR big) ())) (hl : l.length ≤ 600) (hr : ∀ x ∈ l, 0 ≤ x ∧ isB x = true) : Rdy 171 150 l (told (u16B big) unN () l) g w :=
  ⟨⟨_, h⟩, fun A cap hA => (uni16_feed (cap := cap) (l := l) (rest := (bgR big)) (B := (u16B big)) (N := unN) (I := fun _ => True) (r := ()) 4096 h (fun r c w' b l _ h h0 hb hl => (uni16_bytes g big c w' h.c5 h0 hb).mono (fun e w2 hp => ⟨hp.1, h.below hp.2, Chg.of_below hp.2⟩)) (fun _ c => uni16B_len big c) trivial (fun _ _ _ _ _ => trivial) hl hA hr (by decide) (by decide)).mono (fun e wr hp => FedPost.of hp)⟩
theorem rdy_uni32 (big : Bool) {w : World} {g : Nat} {l : List Int} (h : OutAt 173 w g b40 [] ((bgR big) ())) (hl : l.length ≤ 600) (hr : ∀ x ∈ l, 0 ≤ x ∧ isB x = true) : Rdy 173 153 l (told (u32B big) unN () l) g w :=
  ⟨⟨_, h⟩, fun A cap hA => (uni32_feed (cap := cap) (l := l) (rest := (bgR big)) (B := (u32B big)) (N := unN) (I := fun _ => True) (r := ()) 4096 h (fun r c w' b l _ h h0 hb hl => (uni32_bytes g big c w' h.c5 h0 hb).mono (fun e w2 hp => ⟨hp.1, h.below hp.2, Chg.of_below hp.2⟩)) (fun _ c => uni32B_len big c) trivial (fun _ _ _ _ _ => trivial) hl hA hr (by decide) (by decide)).mono (fun e wr hp => FedPost.of hp)⟩
theorem rdy_ebcdic {w : World} {g gt : Nat} {l : List Int} (h : OutAt 178 w g b40 [] (ptR gt ())) (ht : TabAt w gt) (hgt : gt ≠ g) (hl : l.length ≤ 600) (hr : ∀ x ∈ l, 0 ≤ x ∧ isB x = true) : Rdy 178 155 l (told ebB unN () l) g w :=
  ⟨⟨_, h⟩, fun A cap hA => (ebcdic_feed (cap := cap) (l := l) 4096 h ht hgt hl hA hr (by decide) (by decide)).mono (fun e wr hp => FedPost.of hp)⟩
theorem mk_n1 (v : Value) (w : World) : (Instr.makeInterface 111 v).run Tryz.prog w = .ok (.iface 111 v) w := run_makeInterface w 111 v (by kernel_rfl)
section
attribute [local go_sem] mk_n1
theorem cnew_1 {l : List Int} (hl : l.length ≤ 600) (hr : ∀ x ∈ l, 0 ≤ x ∧ isB x = true) (w : World) : Calls Tryz.prog 34 #[.int .i64 1] w (NewPost 111 169 141 l (told u8B unN () l) w) := by
  go_enter Tryz.func34, Tryz.ntmps34
  go_wp2_with fail
  refine (uni8_new _).mono ?_
  rintro e w1 ⟨rfl, h1, h2, h3⟩
  go_wp2_with fail
  go_ret2
  exact ⟨_, Nat.le_refl _, h1.lt, rfl, h2, fun wy hy => rdy_uni8 (h1.below hy) hl hr⟩
end
theorem mk_n2 (v : Value) (w : World) : (Instr.makeInterface 113 v).run Tryz.prog w = .ok (.iface 113 v) w := run_makeInterface w 113 v (by kernel_rfl)
section
attribute [local go_sem] mk_n2
theorem cnew_2 {l : List Int} (hl : l.length ≤ 600) (hr : ∀ x ∈ l, 0 ≤ x ∧ isB x = true) (w : World) : Calls Tryz.prog 34 #[.int .i64 2] w (NewPost 113 171 150 l (told (u16B true) unN () l) w) := by
  go_enter Tryz.func34, Tryz.ntmps34
  go_wp2_with fail
  refine (uni16_new true _).mono ?_
  rintro e w1 ⟨rfl, h1, h2, h3⟩
  go_wp2_with fail
  go_ret2
  exact ⟨_, Nat.le_refl _, h1.lt, rfl, h2, fun wy hy => rdy_uni16 true (h1.below hy) hl hr⟩
end
theorem mk_n3 (v : Value) (w : World) : (Instr.makeInterface 113 v).run Tryz.prog w = .ok (.iface 113 v) w := run_makeInterface w 113 v (by kernel_rfl)
section
attribute [local go_sem] mk_n3
theorem cnew_3 {l : List Int} (hl : l.length ≤ 600) (hr : ∀ x ∈ l, 0 ≤ x ∧ isB x = true) (w : World) : Calls Tryz.prog 34 #[.int .i64 3] w (NewPost 113 171 150 l (told (u16B false) unN () l) w) := by
  go_enter Tryz.func34, Tryz.ntmps34
  go_wp2_with fail
  refine (uni16_new false _).mono ?_
  rintro e w1 ⟨rfl, h1, h2, h3⟩
  go_wp2_with fail
  go_ret2
  exact ⟨_, Nat.le_refl _, h1.lt, rfl, h2, fun wy hy => rdy_uni16 false (h1.below hy) hl hr⟩
end
theorem mk_n4 (v : Value) (w : World) : (Instr.makeInterface 115 v).run Tryz.prog w = .ok (.iface 115 v) w := run_makeInterface w 115 v (by kernel_rfl)
section
attribute [local go_sem] mk_n4
theorem cnew_4 {l : List Int} (hl : l.length ≤ 600) (hr : ∀ x ∈ l, 0 ≤ x ∧ isB x = true) (w : World) : Calls Tryz.prog 34 #[.int .i64 4] w (NewPost 115 173 153 l (told (u32B true) unN () l) w) := by
  go_enter Tryz.func34, Tryz.ntmps34
  go_wp2_with fail
  refine (uni32_new true _).mono ?_
  rintro e w1 ⟨rfl, h1, h2, h3⟩
  go_wp2_with fail
  go_ret2
  exact ⟨_, Nat.le_refl _, h1.lt, rfl, h2, fun wy hy => rdy_uni32 true (h1.below hy) hl hr⟩
end
theorem mk_n5 (v : Value) (w : World) : (Instr.makeInterface 115 v).run Tryz.prog w = .ok (.iface 115 v) w := run_makeInterface w 115 v (by kernel_rfl)
section
attribute [local go_sem] mk_n5
theorem cnew_5 {l : List Int} (hl : l.length ≤ 600) (hr : ∀ x ∈ l, 0 ≤ x ∧ isB x = true) (w : World) : Calls Tryz.prog 34 #[.int .i64 5] w (NewPost 115 173 153 l (told (u32B false) unN () l) w) := by
  go_enter Tryz.func34, Tryz.ntmps34
  go_wp2_with fail
  refine (uni32_new false _).mono ?_
  rintro e w1 ⟨rfl, h1, h2, h3⟩
  go_wp2_with fail
  go_ret2
  exact ⟨_, Nat.le_refl _, h1.lt, rfl, h2, fun wy hy => rdy_uni32 false (h1.below hy) hl hr⟩
end
theorem mk_n6 (v : Value) (w : World) : (Instr.makeInterface 117 v).run Tryz.prog w = .ok (.iface 117 v) w := run_makeInterface w 117 v (by kernel_rfl)
section
attribute [local go_sem] mk_n6
theorem cnew_6 {l : List Int} (hl : l.length ≤ 600) (hr : ∀ x ∈ l, 0 ≤ x ∧ isB x = true) (w : World) : Calls Tryz.prog 34 #[.int .i64 6] w (NewPost 117 178 155 l (told ebB unN () l) w) := by
  go_enter Tryz.func34, Tryz.ntmps34
  go_wp2_with fail
  refine (ebcdic_new _).mono ?_
  rintro e w1 ⟨g, hg, rfl, h1, h2, h3⟩
  go_wp2_with fail
  go_ret2
  exact ⟨g, Nat.le_of_lt hg, h1.lt, rfl, h3, fun wy hy => rdy_ebcdic (h1.below hy) ((hy.block _ (Array.getElem?_eq_some_iff.1 h2).1).trans h2) (by omega) hl hr⟩
end
/-- The bytes of a list by a codec whose encoder tells each scalar's bytes at once. -/
def encS (c : Int) (l : List Int) : List Int :=
  if c = 1 then told u8B unN () l else if c = 2 then told (u16B true) unN () l else if c = 3 then told (u16B false) unN () l else if c = 4 then told (u32B true) unN () l
  else if c = 5 then told (u32B false) unN () l else if c = 6 then told ebB unN () l else told bocuB bocuN 64 l
theorem encode_all {c : Int} (hc : (1 ≤ c ∧ c ≤ 6) ∨ c = 8) {w : World} {A : Option Addr} {cap : Nat} {l : List Int} (hL : ∀ wx, Below w.heap.size w wx → Lst wx .u32 A l) (hr : ∀ x ∈ l, 0 ≤ x ∧ isB x = true) (hl : l.length ≤ 600) (hcap : l.length ≤ cap) :
    Calls Tryz.prog 17 #[.int .i64 c, .slice A l.length cap] w (EncPost w (encS c l)) := by
  have : c = 1 ∨ c = 2 ∨ c = 3 ∨ c = 4 ∨ c = 5 ∨ c = 6 ∨ c = 8 := by omega
  rcases this with rfl | rfl | rfl | rfl | rfl | rfl | rfl
  · exact encode_uni8 (cnew_1 hl hr) (told_len unN (fun _ c => uni8B_len c) l ()) hL hl hcap
  · exact encode_uni16 (cnew_2 hl hr) (told_len unN (fun _ c => uni16B_len true c) l ()) hL hl hcap
  · exact encode_uni16 (cnew_3 hl hr) (told_len unN (fun _ c => uni16B_len false c) l ()) hL hl hcap
  · exact encode_uni32 (cnew_4 hl hr) (told_len unN (fun _ c => uni32B_len true c) l ()) hL hl hcap
  · exact encode_uni32 (cnew_5 hl hr) (told_len unN (fun _ c => uni32B_len false c) l ()) hL hl hcap
  · exact encode_ebcdic (cnew_6 hl hr) (told_len unN ebB_len l ()) hL hl hcap
  · exact encode_bocu hL hr hl hcap
end Go.Proofs.YtooiooledeblmaaGreat.Out
end
section
namespace Go.Proofs.YtooiooledeblmaaGreat.Dcd
open Go.RowKit Go.Proofs.YtooiooledeblmaaGreat.Win Go.Proofs.YtooiooledeblmaaGreat.Stp Go.Proofs.YtooiooledeblmaaGreat.Mach Go.Proofs.YtooiooledeblmaaGreat.Dec Go.Proofs.YtooiooledeblmaaGreatW.PrintMore Go.Proofs.YtooiooledeblmaaGreat.Out Go.Proofs.YtooiooledeblmaaGreat.Lst
set_option linter.unusedVariables false
set_option linter.unusedSimpArgs false
theorem lst_own {w : World} {base r c : Nat} {l : List Int} (h : w.ownsRow base 31 1 (.slice (some ⟨r, 0, none⟩) l.length c) l.length (u32s l)) {wx : World} (hb : Below w.heap.size w wx) : Lst wx .u32 (some ⟨r, 0, none⟩) l := by
  intro k hk
  refine ⟨⟨r, 0, none⟩, rfl, ?_⟩
  have hlt := (h.lt r rfl).2
  have hc := h.cells (g := r) rfl k (.int .u32 (l.getD k 0)) (by simp [u32s, List.getElem?_map, List.getElem?_eq_getElem hk, List.getD_eq_getElem?_getD])
  exact (hb.cell (p := (⟨r, 0, none⟩ : Addr).add k) (World.block_lt_of_cell? w _ hc)).trans hc
theorem name_1 (w : World) : Calls Tryz.prog 30 #[.int .i64 1] w fun e w' => e = .returned (.string ⟨#[117, 116, 102, 45, 56]⟩) ∧ Below w.heap.size w w' := by
  go_enter Tryz.func30, Tryz.ntmps30
  go_wp2_with fail
  go_ret
  exact ⟨rfl, (Below.refl _ _).alloc (Nat.le_refl _) _⟩
theorem name_6 (w : World) : Calls Tryz.prog 30 #[.int .i64 6] w fun e w' => e = .returned (.string ⟨#[117, 116, 102, 45, 101, 98, 99, 100, 105, 99]⟩) ∧ Below w.heap.size w w' := by
  go_enter Tryz.func30, Tryz.ntmps30
  go_wp2_with fail
  go_ret
  exact ⟨rfl, (Below.refl _ _).alloc (Nat.le_refl _) _⟩
set_option maxRecDepth 100000 in
set_option maxHeartbeats 8000000 in
theorem text_live (w : World) : Calls Tryz.prog 15 #[.int .i64 1, .int .i64 6, .string (strOfNums [65])] w (EncPost w [193]) := by
  have hE := fun (w0 : World) (r c : Nat) (hL : ∀ wx, Below w0.heap.size w0 wx → Lst wx .u32 (some ⟨r, 0, none⟩) [65]) (hc : 1 ≤ c) => encode_all (c := 6) (.inl (by decide)) (l := [65]) (cap := c) hL (by decide +kernel) (by decide) hc
  rw [show encS 6 [65] = [193] from by decide +kernel] at hE
  have HE := Lib.hid hE
  have HD := Lib.hid decode_A
  clear hE
  go_enter Tryz.func15, Tryz.ntmps15
  go_wp2_with fail
  refine (name_1 _).mono ?_
  rintro e w1 ⟨rfl, hb1⟩
  have HB1 := Lib.hid (((Below.refl _ w).alloc (Nat.le_refl _) _).trans (Below.mono hb1 (by simp)))
  have hr1 := (hb1.block w.heap.size (by simp)).trans (heap_alloc_new w _)
  have HR1 := Lib.hid hr1
  clear hb1 hr1
  go_wp2_with fail
  refine (name_6 _).mono ?_
  rintro e w2 ⟨rfl, hb2⟩
  have HB2 := Lib.hid (HB1.out.trans (Below.mono hb2 HB1.out.size))
  have HR2 := Lib.hid ((hb2.block w.heap.size (Array.getElem?_eq_some_iff.1 HR1.out).1).trans HR1.out)
  clear hb2 HB1 HR1
  go_wp2_with fail
  refine (HD.out _).mono ?_
  rintro e w3 ⟨r, c, rfl, ho3, hb3⟩
  have hc : 1 ≤ c := by
    rcases ho3.2 with ⟨h1, _⟩ | ⟨g', cap, cur, h1, _, _, h4, _⟩
    · cases h1
    · injection h1 with _ _ h1; simp at h4; omega
  have HB3 := Lib.hid (HB2.out.trans (Below.mono hb3 HB2.out.size))
  have HR3 := Lib.hid ((hb3.block w.heap.size (Array.getElem?_eq_some_iff.1 HR2.out).1).trans HR2.out)
  have HO3 := Lib.hid ho3
  have HC := Lib.hid hc
  clear hb3 ho3 hc HB2 HR2
  go_wp2_with fail
  refine (HE.out _ r c (fun wx hx => lst_own HO3.out (((Below.refl _ w3).alloc (Nat.le_refl _) _).trans (Below.mono hx (by simp)))) HC.out).mono ?_
  rintro e w4 ⟨rfl, hb4⟩
  have hR4 := (hb4.block w.heap.size (by have := (Array.getElem?_eq_some_iff.1 HR3.out).1; simp; omega)).trans ((Below.heap_alloc w3 _ _ (Array.getElem?_eq_some_iff.1 HR3.out).1).trans HR3.out)
  have hP4 := (hb4.block w3.heap.size (by simp)).trans (heap_alloc_new w3 _)
  have hB4 := (HB3.out.trans ((Below.refl _ w3).alloc (Nat.le_refl _) _ |> fun h => Below.mono h HB3.out.size)).trans (Below.mono hb4 (by have := HB3.out.size; simp; omega))
  have hne : w.heap.size < w3.heap.size := (Array.getElem?_eq_some_iff.1 HR3.out).1
  obtain ⟨p, hp⟩ : ∃ p, p = w3.heap.size := ⟨_, rfl⟩
  rw [← hp] at hP4 hne
  have HB4 := Lib.hid hB4
  have HX := Lib.hid (And.intro hR4 hP4)
  rw [← hp]
  clear hp HB3 HR3 HO3 hR4 hP4 hB4 hb4
  go_wp2_with fail
  obtain ⟨w5, hw5⟩ : ∃ w5, w5 = w4.alloc (.cells #[.int .i64 0, .int .i64 0] 39) := ⟨_, rfl⟩
  rw [← hw5]
  have hr5 : w5.heap[w.heap.size]? = some (.cells #[.int .i64 0, .int .i64 0] 39 (0, 0)) := by rw [hw5, Below.heap_alloc _ _ _ (Array.getElem?_eq_some_iff.1 HX.out.1).1]; exact HX.out.1
  have hp5 : w5.heap[p]? = some (.cells #[.int .i64 0, .int .i64 0] 39 (0, 0)) := by rw [hw5, Below.heap_alloc _ _ _ (Array.getElem?_eq_some_iff.1 HX.out.2).1]; exact HX.out.2
  have hb5 : Below w.heap.size w w5 := by rw [hw5]; exact HB4.out.alloc HB4.out.size _
  have c0 : w5.cell? ⟨w.heap.size, 0, none⟩ = some (.int .i64 0) := by rw [cell_of hr5]; rfl
  have c1 : w5.cell? ⟨w.heap.size, 1, none⟩ = some (.int .i64 0) := by rw [cell_of hr5]; rfl
  have d0 : w5.cell? ⟨p, 0, none⟩ = some (.int .i64 0) := by rw [cell_of hp5]; rfl
  have d1 : w5.cell? ⟨p, 1, none⟩ = some (.int .i64 0) := by rw [cell_of hp5]; rfl
  have f0 := frozen_of hr5 0
  have f1 := frozen_of hr5 1
  have HB5 := Lib.hid hb5
  clear HB4 HX hw5 hr5 hp5 hb5
  go_region_with fail
  go_wp2_with fail
  have e0 : ((w5.setCell ⟨w.heap.size, 0, none⟩ (.int .i64 0)).setCell ⟨w.heap.size, 1, none⟩ (.int .i64 0)).drew.cell? ⟨w.heap.size, 0, none⟩ = some (.int .i64 0) := by
    show ((w5.setCell ⟨w.heap.size, 0, none⟩ (.int .i64 0)).setCell ⟨w.heap.size, 1, none⟩ (.int .i64 0)).cell? ⟨w.heap.size, 0, none⟩ = _
    rw [World.cell?_setCell_other _ _ _ _ (by simp), World.cell?_setCell_same _ _ _ c0]
  have e1 : ((w5.setCell ⟨w.heap.size, 0, none⟩ (.int .i64 0)).setCell ⟨w.heap.size, 1, none⟩ (.int .i64 0)).drew.cell? ⟨w.heap.size, 1, none⟩ = some (.int .i64 0) := by
    show ((w5.setCell ⟨w.heap.size, 0, none⟩ (.int .i64 0)).setCell ⟨w.heap.size, 1, none⟩ (.int .i64 0)).cell? ⟨w.heap.size, 1, none⟩ = _
    rw [World.cell?_setCell_same (u := .int .i64 0) _ _ _ (by rw [World.cell?_setCell_other _ _ _ _ (by simp)]; exact c1)]
  refine bodyPost_ret (v := .tuple #[.string (strOfNums [193]), .agg #[.int .i64 0, .int .i64 0]]) (by simp [results, Tryz.results15, go_sem, e0, e1]) rfl ⟨rfl, below_drewN ((HB5.out.setCell (p := ⟨w.heap.size, 0, none⟩) (Nat.le_refl _) _).setCell (p := ⟨w.heap.size, 1, none⟩) (Nat.le_refl _) _) 1⟩
end Go.Proofs.YtooiooledeblmaaGreat.Dcd
end
section
namespace Go.Proofs.YtooiooledeblmaaGreat.Dcd
open Go.RowKit Go.Proofs.YtooiooledeblmaaGreat.Win Go.Proofs.YtooiooledeblmaaGreat.Stp Go.Proofs.YtooiooledeblmaaGreat.Mach Go.Proofs.YtooiooledeblmaaGreat.Dec Go.Proofs.YtooiooledeblmaaGreatW.PrintMore Go.Proofs.YtooiooledeblmaaGreat.Out Go.Proofs.YtooiooledeblmaaGreat.Lst
set_option linter.unusedVariables false
set_option linter.unusedSimpArgs false
theorem class_live (w : World) : Calls Tryz.prog 38 #[.int .u32 65] w fun e w' => e = .returned (.int .i64 2) ∧ w = w' := by
  have HI := Lib.hid (sis_calls 65 w)
  go_enter Tryz.func38, Tryz.ntmps38
  go_wp2_with fail
  refine HI.out.mono ?_
  rintro e w1 ⟨rfl, rfl⟩
  have hb : isB 65 = true := by decide
  rw [hb]
  go_wp2_with fail
  go_ret
  exact ⟨rfl, rfl⟩
theorem units_live (a : Nat) (w : World) (h : w.cell? ⟨a, 0, none⟩ = some (.int .u32 65)) : Calls Tryz.prog 39 #[.slice (some ⟨a, 0, none⟩) 1 1] w fun e w' => e = .returned (.int .i64 1) ∧ w = w' := by
  have HI := Lib.hid (sis_calls 65 w)
  have hb : isB 65 = true := by decide
  rw [hb] at HI
  go_enter Tryz.func39, Tryz.ntmps39
  go_wp2_with fail
  go_loopw [3, 5, 8] (fun v3 v5 v8 wr => w = wr ∧ ((v8 = .int .i64 0 ∧ v3 = .int .i64 0) ∨ (v8 = .int .i64 1 ∧ v3 = .int .i64 1))) (fun _ _ v8 _ => 1 - (intOf v8).toNat)
  case atStart => exact ⟨rfl, .inl ⟨rfl, rfl⟩⟩
  case round =>
    obtain ⟨rfl, ⟨rfl, rfl⟩ | ⟨rfl, rfl⟩⟩ := hrel
    · go_wp2_with fail
      refine HI.out.mono ?_
      rintro e w1 ⟨rfl, rfl⟩
      go_wp2_with fail
      go_roundw
      case rel => exact ⟨trivial, .inr ⟨rfl, rfl⟩⟩
      case measure => decide
    · go_wp2_with fail
      go_ret
      exact ⟨rfl, rfl⟩
def zeroV : Array Value := #[.int .i64 0, .int .i64 0, .int .i64 0, .int .i64 0, .int .i64 0, .int .i64 0, .int .i64 0, .int .i64 0, .int .i64 0, .int .u32 0, .int .u32 0]
theorem cell_new {w : World} {x : Int} : (w.alloc (.cells #[.int .u32 x] 31)).cell? ⟨w.heap.size, 0, none⟩ = some (.int .u32 x) := by rw [cell_of (heap_alloc_new _ _)]; rfl
theorem cell_newd {w : World} {x : Int} : (w.alloc (.cells #[.int .u32 x] 31)).drew.cell? ⟨w.heap.size, 0, none⟩ = some (.int .u32 x) := cell_new
def midV : Array Value := #[.int .i64 0, .int .i64 0, .int .i64 0, .int .i64 0, .int .i64 1, .int .i64 0, .int .i64 0, .int .i64 0, .int .i64 0, .int .u32 65, .int .u32 0]
theorem lst_new {w wx : World} {x : Int} (hx : Below (w.alloc (.cells #[.int .u32 x] 31)).heap.size (w.alloc (.cells #[.int .u32 x] 31)) wx) : Lst wx .u32 (some ⟨w.heap.size, 0, none⟩) [x] := by
  intro k hk
  obtain rfl : k = 0 := by simp at hk; exact hk
  refine ⟨_, rfl, ?_⟩
  have h0 : (w.alloc (.cells #[.int .u32 x] 31)).cell? ⟨w.heap.size, 0, none⟩ = some (.int .u32 x) := by rw [cell_of (heap_alloc_new _ _)]; rfl
  exact (hx.cell (p := ⟨w.heap.size, 0, none⟩) (World.block_lt_of_cell? _ _ h0)).trans h0
def tallyV : Array Value := #[.int .i64 1, .int .i64 1, .int .i64 1, .int .i64 0, .int .i64 1, .int .i64 0, .int .i64 0, .int .i64 0, .int .i64 0, .int .u32 65, .int .u32 65]
set_option maxRecDepth 100000 in
set_option maxHeartbeats 8000000 in
theorem tally_live (a : Nat) (w : World) (h : w.cell? ⟨a, 0, none⟩ = some (.int .u32 65)) : Calls Tryz.prog 20 #[.slice (some ⟨a, 0, none⟩) 1 1] w fun e w' => e = .returned (.agg tallyV) ∧ Below w.heap.size w w' := by
  have hE := fun (w0 : World) (r c : Nat) (hL : ∀ wx, Below w0.heap.size w0 wx → Lst wx .u32 (some ⟨r, 0, none⟩) [65]) (hc : 1 ≤ c) => encode_all (c := 1) (.inl (by decide)) (l := [65]) (cap := c) hL (by decide +kernel) (by decide) hc
  rw [show encS 1 [65] = [65] from by decide +kernel] at hE
  have HE := Lib.hid hE
  have hlt : a < w.heap.size := World.block_lt_of_cell? w _ h
  clear hE
  go_enter Tryz.func20, Tryz.ntmps20
  go_wp2_with fail
  obtain ⟨r, hr⟩ : ∃ r, r = w.heap.size := ⟨_, rfl⟩
  obtain ⟨w0, hw0⟩ : ∃ w0, w0 = w.alloc (.cells zeroV 50) := ⟨_, rfl⟩
  obtain ⟨w1, hw1⟩ : ∃ w1, w1 = w0.alloc (.cells zeroV 50) := ⟨_, rfl⟩
  have hw1' : (w.alloc (.cells zeroV 50)).alloc (.cells zeroV 50) = w1 := by rw [hw1, hw0]
  unfold zeroV at hw1'
  have hz0 : w0.heap.size = r + 1 := by rw [hw0, hr]; simp
  have hr1 : w1.heap[r]? = some (.cells zeroV 50 (0, 0)) := by rw [hw1, Below.heap_alloc _ _ _ (by omega), hw0, hr]; exact heap_alloc_new _ _
  have ht1 : w1.heap[r + 1]? = some (.cells zeroV 50 (0, 0)) := by rw [hw1, ← hz0]; exact heap_alloc_new _ _
  have hb1 : Below w.heap.size w w1 := by rw [hw1, hw0]; exact ((Below.refl _ _).alloc (Nat.le_refl _) _).alloc (by simp) _
  have ha1 : w1.cell? ⟨a, 0, none⟩ = some (.int .u32 65) := (hb1.cell (p := ⟨a, 0, none⟩) hlt).trans h
  rw [hw1', ← hr]
  have HR1 := Lib.hid hr1
  have HT1 := Lib.hid ht1
  have HB1 := Lib.hid hb1
  have HRw := Lib.hid hr
  clear hw1' hw1 hw0 hz0 hr1 ht1 hb1 hr h
  go_loopw [5, 6, 7, 10] (fun v5 v6 v7 v10 wr => (v10 = .int .i64 0 ∧ w1 = wr) ∨ (v10 = .int .i64 1 ∧ wr.heap[r]? = some (.cells zeroV 50 (0, 0)) ∧ wr.heap[r + 1]? = some (.cells tallyV 50 (0, 0)) ∧ Below w.heap.size w wr)) (fun _ _ _ v10 _ => 1 - (intOf v10).toNat)
  case atStart => exact .inl ⟨rfl, rfl⟩
  case round =>
    rcases hrel with ⟨rfl, rfl⟩ | ⟨rfl, hr2, ht2, hb2⟩
    · have c0 : w1.cell? ⟨r + 1, 0, none⟩ = some (.int .i64 0) := by rw [cell_of HT1.out]; rfl
      have c4 : w1.cell? ⟨r + 1, 4, none⟩ = some (.int .i64 0) := by rw [cell_of HT1.out]; rfl
      have c9 : w1.cell? ⟨r + 1, 9, none⟩ = some (.int .u32 0) := by rw [cell_of HT1.out]; rfl
      have fz := frozen_of HT1.out
      go_wp2_with fail
      refine (class_live _).mono ?_
      rintro e w2 ⟨rfl, rfl⟩
      go_wp2_with fail
      have hT : ((w1.setCell ⟨r + 1, 4, none⟩ (.int .i64 1)).setCell ⟨r + 1, 9, none⟩ (.int .u32 65)).heap[r + 1]? = some (.cells midV 50 (0, 0)) := by
        rw [heap_setCell_same _ _ _ _ _ _ (heap_setCell_same w1 _ _ _ _ _ HT1.out)]
        rfl
      have hR : ((w1.setCell ⟨r + 1, 4, none⟩ (.int .i64 1)).setCell ⟨r + 1, 9, none⟩ (.int .u32 65)).heap[r]? = some (.cells zeroV 50 (0, 0)) := by
        rw [Below.heap_setCell _ _ _ _ (by show r ≠ r + 1; omega), Below.heap_setCell _ _ _ _ (by show r ≠ r + 1; omega)]
        exact HR1.out
      have hB := (HB1.out.setCell (p := ⟨r + 1, 4, none⟩) (by have := HRw.out; show w.heap.size ≤ r + 1; omega) (.int .i64 1)).setCell (p := ⟨r + 1, 9, none⟩) (by have := HRw.out; show w.heap.size ≤ r + 1; omega) (.int .u32 65)
      have hsz : ((w1.setCell ⟨r + 1, 4, none⟩ (.int .i64 1)).setCell ⟨r + 1, 9, none⟩ (.int .u32 65)).heap.size = w1.heap.size := by simp [World.setCell]
      rw [← hsz]
      generalize (w1.setCell ⟨r + 1, 4, none⟩ (.int .i64 1)).setCell ⟨r + 1, 9, none⟩ (.int .u32 65) = w2 at hT hR hB ⊢
      clear hsz c0 c4 c9 fz ha1
      refine (HE.out (w2.alloc (.cells #[.int .u32 65] 31)) w2.heap.size 1 (fun wx hx => lst_new hx) (by decide)).mono ?_
      rintro e w3 ⟨rfl, hb3⟩
      have hTl : r + 1 < w2.heap.size := (Array.getElem?_eq_some_iff.1 hT).1
      have hRl : r < w2.heap.size := by omega
      have hT3 := (hb3.block (r + 1) (by simp; omega)).trans ((Below.heap_alloc w2 _ _ hTl).trans hT)
      have hR3 := (hb3.block r (by simp; omega)).trans ((Below.heap_alloc w2 _ _ hRl).trans hR)
      have hB3 := (hB.alloc hB.size (.cells #[.int .u32 65] 31)).trans (Below.mono hb3 (by have := hB.size; simp; omega))
      have c0 : w3.cell? ⟨r + 1, 0, none⟩ = some (.int .i64 0) := by rw [cell_of hT3]; rfl
      have c1 : w3.cell? ⟨r + 1, 1, none⟩ = some (.int .i64 0) := by rw [cell_of hT3]; rfl
      have c2 : w3.cell? ⟨r + 1, 2, none⟩ = some (.int .i64 0) := by rw [cell_of hT3]; rfl
      have c9 : w3.cell? ⟨r + 1, 9, none⟩ = some (.int .u32 65) := by rw [cell_of hT3]; rfl
      have c10 : w3.cell? ⟨r + 1, 10, none⟩ = some (.int .u32 0) := by rw [cell_of hT3]; rfl
      have fz := frozen_of hT3
      have hTl3 : r + 1 < w3.heap.size := (Array.getElem?_eq_some_iff.1 hT3).1
      have HT3 := Lib.hid hT3
      have HR3 := Lib.hid hR3
      have HB3 := Lib.hid hB3
      clear hT hR hB hb3 hTl hRl hT3 hR3 hB3
      go_wp2_with fail
      obtain ⟨w4, hw4⟩ : ∃ w4, w4 = (w3.setCell ⟨r + 1, 0, none⟩ (.int .i64 1)).alloc (.cells #[.int .i64 0, .int .i64 0] 39) := ⟨_, rfl⟩
      rw [← hw4]
      have hs3 : (w3.setCell ⟨r + 1, 0, none⟩ (.int .i64 1)).heap.size = w3.heap.size := by simp [World.setCell]
      have hT4 : w4.heap[r + 1]? = some (.cells #[.int .i64 1, .int .i64 0, .int .i64 0, .int .i64 0, .int .i64 1, .int .i64 0, .int .i64 0, .int .i64 0, .int .i64 0, .int .u32 65, .int .u32 0] 50 (0, 0)) := by
        rw [hw4, Below.heap_alloc _ _ _ (by omega), heap_setCell_same w3 _ _ _ _ _ HT3.out]
        rfl
      have hR4 : w4.heap[r]? = some (.cells zeroV 50 (0, 0)) := by
        rw [hw4, Below.heap_alloc _ _ _ (by omega), Below.heap_setCell _ _ _ _ (by show r ≠ r + 1; omega)]
        exact HR3.out
      have hB4 : Below w.heap.size w w4 := by
        rw [hw4]
        have h1 := HB3.out.setCell (p := ⟨r + 1, 0, none⟩) (by have := HRw.out; show w.heap.size ≤ r + 1; omega) (.int .i64 1)
        exact h1.alloc h1.size _
      have d1 : w4.cell? ⟨r + 1, 1, none⟩ = some (.int .i64 0) := by rw [cell_of hT4]; rfl
      have d2 : w4.cell? ⟨r + 1, 2, none⟩ = some (.int .i64 0) := by rw [cell_of hT4]; rfl
      have d9 : w4.cell? ⟨r + 1, 9, none⟩ = some (.int .u32 65) := by rw [cell_of hT4]; rfl
      have d10 : w4.cell? ⟨r + 1, 10, none⟩ = some (.int .u32 0) := by rw [cell_of hT4]; rfl
      have fz4 := frozen_of hT4
      have hTl4 : r + 1 < w4.heap.size := (Array.getElem?_eq_some_iff.1 hT4).1
      have HT4 := Lib.hid hT4
      have HR4 := Lib.hid hR4
      have HB4 := Lib.hid hB4
      clear hw4 hs3 hT4 hR4 hB4 c0 c1 c2 c9 c10 fz HT3 HR3 HB3 hTl3
      go_region_with (go_at_call 39; refine (units_live _ _ (by first | exact cell_new | exact cell_newd)).mono ?_; rintro e w5 ⟨rfl, rfl⟩)
      all_goals
        try rw [show IntKind.i64.wrap 1 = 1 from by decide]
        obtain ⟨w6, hw6⟩ : ∃ w6, w6 = ((w4.setCell ⟨r + 1, 1, none⟩ (.int .i64 1)).alloc (.cells #[.int .u32 65] 31)).drew := ⟨_, rfl⟩
        rw [← hw6]
        have hs4 : (w4.setCell ⟨r + 1, 1, none⟩ (.int .i64 1)).heap.size = w4.heap.size := by simp [World.setCell]
        have hT6 : w6.heap[r + 1]? = some (.cells #[.int .i64 1, .int .i64 1, .int .i64 0, .int .i64 0, .int .i64 1, .int .i64 0, .int .i64 0, .int .i64 0, .int .i64 0, .int .u32 65, .int .u32 0] 50 (0, 0)) := by
          rw [hw6]
          show ((w4.setCell ⟨r + 1, 1, none⟩ (.int .i64 1)).alloc (.cells #[.int .u32 65] 31)).heap[r + 1]? = _
          rw [Below.heap_alloc _ _ _ (by omega), heap_setCell_same w4 _ _ _ _ _ HT4.out]
          rfl
        have hR6 : w6.heap[r]? = some (.cells zeroV 50 (0, 0)) := by
          rw [hw6]
          show ((w4.setCell ⟨r + 1, 1, none⟩ (.int .i64 1)).alloc (.cells #[.int .u32 65] 31)).heap[r]? = _
          rw [Below.heap_alloc _ _ _ (by omega), Below.heap_setCell _ _ _ _ (by show r ≠ r + 1; omega)]
          exact HR4.out
        have hB6 : Below w.heap.size w w6 := by
          rw [hw6]
          have h1 := HB4.out.setCell (p := ⟨r + 1, 1, none⟩) (by have := HRw.out; show w.heap.size ≤ r + 1; omega) (.int .i64 1)
          exact below_drewN (h1.alloc h1.size _) 1
        have g2 : w6.cell? ⟨r + 1, 2, none⟩ = some (.int .i64 0) := by rw [cell_of hT6]; rfl
        have g9 : w6.cell? ⟨r + 1, 9, none⟩ = some (.int .u32 65) := by rw [cell_of hT6]; rfl
        have g10 : w6.cell? ⟨r + 1, 10, none⟩ = some (.int .u32 0) := by rw [cell_of hT6]; rfl
        have fz6 := frozen_of hT6
        have hTl6 : r + 1 < w6.heap.size := (Array.getElem?_eq_some_iff.1 hT6).1
        have hss : (strOfNums [65]).size = 1 := by decide +kernel
        have HT6 := Lib.hid hT6
        have HR6 := Lib.hid hR6
        have HB6 := Lib.hid hB6
        clear hw6 hs4 hT6 hR6 hB6 d1 d2 d9 d10 fz4 HT4 HR4 HB4 hTl4
        go_wp2_with fail
        go_roundw
        case rel =>
          refine .inr ⟨rfl, ?_, ?_, ?_⟩
          · rw [Below.heap_setCell _ _ _ _ (by show r ≠ r + 1; omega), Below.heap_setCell _ _ _ _ (by show r ≠ r + 1; omega), Below.heap_setCell _ _ _ _ (by show r ≠ r + 1; omega)]
            exact HR6.out
          · rw [heap_setCell_same _ _ _ _ _ _ (heap_setCell_same _ _ _ _ _ _ (heap_setCell_same _ _ _ _ _ _ HT6.out))]
            rfl
          · exact ((HB6.out.setCell (p := ⟨r + 1, 2, none⟩) (by have := HRw.out; show w.heap.size ≤ r + 1; omega) _).setCell (p := ⟨r + 1, 9, none⟩) (by have := HRw.out; show w.heap.size ≤ r + 1; omega) _).setCell (p := ⟨r + 1, 10, none⟩) (by have := HRw.out; show w.heap.size ≤ r + 1; omega) _
        case measure => decide
    · have t0 : wr.cell? ⟨r + 1, 0, none⟩ = some (.int .i64 1) := by rw [cell_of ht2]; rfl
      have t1 : wr.cell? ⟨r + 1, 1, none⟩ = some (.int .i64 1) := by rw [cell_of ht2]; rfl
      have t2 : wr.cell? ⟨r + 1, 2, none⟩ = some (.int .i64 1) := by rw [cell_of ht2]; rfl
      have t3 : wr.cell? ⟨r + 1, 3, none⟩ = some (.int .i64 0) := by rw [cell_of ht2]; rfl
      have t4 : wr.cell? ⟨r + 1, 4, none⟩ = some (.int .i64 1) := by rw [cell_of ht2]; rfl
      have t5 : wr.cell? ⟨r + 1, 5, none⟩ = some (.int .i64 0) := by rw [cell_of ht2]; rfl
      have t6 : wr.cell? ⟨r + 1, 6, none⟩ = some (.int .i64 0) := by rw [cell_of ht2]; rfl
      have t7 : wr.cell? ⟨r + 1, 7, none⟩ = some (.int .i64 0) := by rw [cell_of ht2]; rfl
      have t8 : wr.cell? ⟨r + 1, 8, none⟩ = some (.int .i64 0) := by rw [cell_of ht2]; rfl
      have t9 : wr.cell? ⟨r + 1, 9, none⟩ = some (.int .u32 65) := by rw [cell_of ht2]; rfl
      have t10 : wr.cell? ⟨r + 1, 10, none⟩ = some (.int .u32 65) := by rw [cell_of ht2]; rfl
      have q0 : wr.cell? ⟨r, 0, none⟩ = some (.int .i64 0) := by rw [cell_of hr2]; rfl
      have q1 : wr.cell? ⟨r, 1, none⟩ = some (.int .i64 0) := by rw [cell_of hr2]; rfl
      have q2 : wr.cell? ⟨r, 2, none⟩ = some (.int .i64 0) := by rw [cell_of hr2]; rfl
      have q3 : wr.cell? ⟨r, 3, none⟩ = some (.int .i64 0) := by rw [cell_of hr2]; rfl
      have q4 : wr.cell? ⟨r, 4, none⟩ = some (.int .i64 0) := by rw [cell_of hr2]; rfl
      have q5 : wr.cell? ⟨r, 5, none⟩ = some (.int .i64 0) := by rw [cell_of hr2]; rfl
      have q6 : wr.cell? ⟨r, 6, none⟩ = some (.int .i64 0) := by rw [cell_of hr2]; rfl
      have q7 : wr.cell? ⟨r, 7, none⟩ = some (.int .i64 0) := by rw [cell_of hr2]; rfl
      have q8 : wr.cell? ⟨r, 8, none⟩ = some (.int .i64 0) := by rw [cell_of hr2]; rfl
      have q9 : wr.cell? ⟨r, 9, none⟩ = some (.int .u32 0) := by rw [cell_of hr2]; rfl
      have q10 : wr.cell? ⟨r, 10, none⟩ = some (.int .u32 0) := by rw [cell_of hr2]; rfl
      have fz := frozen_of hr2
      have HR2 := Lib.hid hr2
      have HB2 := Lib.hid hb2
      clear hr2 hb2 ht2
      go_wp2_with fail
      obtain ⟨wf, hwf⟩ : ∃ wf, wf = (World.setCell (World.setCell (World.setCell (World.setCell (World.setCell (World.setCell (World.setCell (World.setCell (World.setCell (World.setCell (World.setCell wr ⟨r, 0, none⟩ (.int .i64 1)) ⟨r, 1, none⟩ (.int .i64 1)) ⟨r, 2, none⟩ (.int .i64 1)) ⟨r, 3, none⟩ (.int .i64 0)) ⟨r, 4, none⟩ (.int .i64 1)) ⟨r, 5, none⟩ (.int .i64 0)) ⟨r, 6, none⟩ (.int .i64 0)) ⟨r, 7, none⟩ (.int .i64 0)) ⟨r, 8, none⟩ (.int .i64 0)) ⟨r, 9, none⟩ (.int .u32 65)) ⟨r, 10, none⟩ (.int .u32 65)) := ⟨_, rfl⟩
      have hf : wf.heap[r]? = some (.cells tallyV 50 (0, 0)) := by
        rw [hwf]
        have h := HR2.out
        replace h := heap_setCell_same _ _ 0 _ _ (.int .i64 1) h
        replace h := heap_setCell_same _ _ 1 _ _ (.int .i64 1) h
        replace h := heap_setCell_same _ _ 2 _ _ (.int .i64 1) h
        replace h := heap_setCell_same _ _ 3 _ _ (.int .i64 0) h
        replace h := heap_setCell_same _ _ 4 _ _ (.int .i64 1) h
        replace h := heap_setCell_same _ _ 5 _ _ (.int .i64 0) h
        replace h := heap_setCell_same _ _ 6 _ _ (.int .i64 0) h
        replace h := heap_setCell_same _ _ 7 _ _ (.int .i64 0) h
        replace h := heap_setCell_same _ _ 8 _ _ (.int .i64 0) h
        replace h := heap_setCell_same _ _ 9 _ _ (.int .u32 65) h
        replace h := heap_setCell_same _ _ 10 _ _ (.int .u32 65) h
        rw [h]
        rfl
      have hbf : Below w.heap.size w wf := by
        rw [hwf]
        have h := HB2.out
        replace h := h.setCell (p := ⟨r, 0, none⟩) (by have := HRw.out; show w.heap.size ≤ r; omega) (.int .i64 1)
        replace h := h.setCell (p := ⟨r, 1, none⟩) (by have := HRw.out; show w.heap.size ≤ r; omega) (.int .i64 1)
        replace h := h.setCell (p := ⟨r, 2, none⟩) (by have := HRw.out; show w.heap.size ≤ r; omega) (.int .i64 1)
        replace h := h.setCell (p := ⟨r, 3, none⟩) (by have := HRw.out; show w.heap.size ≤ r; omega) (.int .i64 0)
        replace h := h.setCell (p := ⟨r, 4, none⟩) (by have := HRw.out; show w.heap.size ≤ r; omega) (.int .i64 1)
        replace h := h.setCell (p := ⟨r, 5, none⟩) (by have := HRw.out; show w.heap.size ≤ r; omega) (.int .i64 0)
        replace h := h.setCell (p := ⟨r, 6, none⟩) (by have := HRw.out; show w.heap.size ≤ r; omega) (.int .i64 0)
        replace h := h.setCell (p := ⟨r, 7, none⟩) (by have := HRw.out; show w.heap.size ≤ r; omega) (.int .i64 0)
        replace h := h.setCell (p := ⟨r, 8, none⟩) (by have := HRw.out; show w.heap.size ≤ r; omega) (.int .i64 0)
        replace h := h.setCell (p := ⟨r, 9, none⟩) (by have := HRw.out; show w.heap.size ≤ r; omega) (.int .u32 65)
        replace h := h.setCell (p := ⟨r, 10, none⟩) (by have := HRw.out; show w.heap.size ≤ r; omega) (.int .u32 65)
        exact h
      rw [← hwf]
      have e0 : wf.cell? ⟨r, 0, none⟩ = some (.int .i64 1) := by rw [cell_of hf]; rfl
      have e1 : wf.cell? ⟨r, 1, none⟩ = some (.int .i64 1) := by rw [cell_of hf]; rfl
      have e2 : wf.cell? ⟨r, 2, none⟩ = some (.int .i64 1) := by rw [cell_of hf]; rfl
      have e3 : wf.cell? ⟨r, 3, none⟩ = some (.int .i64 0) := by rw [cell_of hf]; rfl
      have e4 : wf.cell? ⟨r, 4, none⟩ = some (.int .i64 1) := by rw [cell_of hf]; rfl
      have e5 : wf.cell? ⟨r, 5, none⟩ = some (.int .i64 0) := by rw [cell_of hf]; rfl
      have e6 : wf.cell? ⟨r, 6, none⟩ = some (.int .i64 0) := by rw [cell_of hf]; rfl
      have e7 : wf.cell? ⟨r, 7, none⟩ = some (.int .i64 0) := by rw [cell_of hf]; rfl
      have e8 : wf.cell? ⟨r, 8, none⟩ = some (.int .i64 0) := by rw [cell_of hf]; rfl
      have e9 : wf.cell? ⟨r, 9, none⟩ = some (.int .u32 65) := by rw [cell_of hf]; rfl
      have e10 : wf.cell? ⟨r, 10, none⟩ = some (.int .u32 65) := by rw [cell_of hf]; rfl
      refine bodyPost_ret (v := .agg tallyV) (by simp [results, Tryz.results20, go_sem, tallyV, e0, e1, e2, e3, e4, e5, e6, e7, e8, e9, e10]) rfl ⟨rfl, hbf⟩
end Go.Proofs.YtooiooledeblmaaGreat.Dcd
end
section
namespace Go.Proofs.YtooiooledeblmaaGreat.Dcd
open Go.RowKit Go.Proofs.YtooiooledeblmaaGreat.Win Go.Proofs.YtooiooledeblmaaGreat.Stp Go.Proofs.YtooiooledeblmaaGreat.Mach Go.Proofs.YtooiooledeblmaaGreat.Dec Go.Proofs.YtooiooledeblmaaGreatW.PrintMore Go.Proofs.YtooiooledeblmaaGreat.Out Go.Proofs.YtooiooledeblmaaGreat.Lst
set_option linter.unusedVariables false
set_option linter.unusedSimpArgs false
def LenPost (w : World) (n : Nat) (e : Ending) (w' : World) : Prop := (∃ s : ByteArray, e = .returned (.string s) ∧ s.size = n) ∧ Below w.heap.size w w'
set_option maxHeartbeats 2000000 in
theorem four_calls (n : Int) (w : World) : Calls Tryz.prog 103 #[.int .u32 n] w (LenPost w 4) := by
  have w1 : IntKind.u8.wrap n = n % 256 := by rw [IntKind.wrap_u8]
  have w2 : IntKind.u8.wrap (n / 256) = n / 256 % 256 := by rw [IntKind.wrap_u8]
  have w3 : IntKind.u8.wrap (n / 65536) = n / 65536 % 256 := by rw [IntKind.wrap_u8]
  have w4 : IntKind.u8.wrap (n / 16777216) = n / 16777216 % 256 := by rw [IntKind.wrap_u8]
  have hcv : (convert 68 9 (.slice (some ⟨w.heap.size, 0, none⟩) 4 4)).run Tryz.prog (w.alloc (.cells #[.int .u8 (n % 256), .int .u8 (n / 256 % 256), .int .u8 (n / 65536 % 256), .int .u8 (n / 16777216 % 256)] 5)) = .ok (.string (strOfNums [n % 256, n / 256 % 256, n / 65536 % 256, n / 16777216 % 256])) (w.alloc (.cells #[.int .u8 (n % 256), .int .u8 (n / 256 % 256), .int .u8 (n / 65536 % 256), .int .u8 (n / 16777216 % 256)] 5)) := conv_new w [n % 256, n / 256 % 256, n / 65536 % 256, n / 16777216 % 256] 4 rfl
  go_enter Tryz.func103, Tryz.ntmps103
  go_wp2
  go_ret
  exact ⟨⟨_, rfl, str_size _⟩, (Below.refl _ _).alloc (Nat.le_refl _) _⟩
set_option maxHeartbeats 4000000 in
theorem sum_add (g : Nat) (x : Int) (s : ByteArray) (w : World) (h : w.heap[g]? = some (.cells #[.int .u32 x] 217 (0, 0))) (hs : s.size ≤ 1000000) :
    Calls Tryz.prog 115 #[.pointer (some ⟨g, 0, none⟩), .string s] w fun e w' => e = .returned (.tuple #[]) ∧ ∃ y, w' = w.setCell ⟨g, 0, none⟩ (.int .u32 y) := by
  have c0 : w.cell? ⟨g, 0, none⟩ = some (.int .u32 x) := by rw [cell_of h]; rfl
  have f0 := frozen_of h 0
  clear h
  go_enter Tryz.func115, Tryz.ntmps115
  go_wp2_with fail
  go_loopw [4, 5] (fun v4 v5 wr => w = wr ∧ (∃ y, v4 = .int .u32 y) ∧ ∃ k : Nat, k ≤ s.size ∧ v5 = .int .i64 k) (fun _ v5 _ => s.size - (intOf v5).toNat)
  case atStart => exact ⟨rfl, ⟨_, rfl⟩, 0, Nat.zero_le _, rfl⟩
  case round =>
    obtain ⟨rfl, ⟨y, rfl⟩, k, hk, rfl⟩ := hrel
    by_cases hlt : k < s.size
    · go_wp2_with fail
      go_loopw [4, 23] (fun v4 v23 wr => w = wr ∧ (∃ y, v4 = .int .u32 y) ∧ ∃ j : Nat, j ≤ 8 ∧ v23 = .int .i64 j) (fun _ v23 _ => 8 - (intOf v23).toNat)
      case atStart => exact ⟨rfl, ⟨_, rfl⟩, 0, Nat.zero_le _, rfl⟩
      case round =>
        obtain ⟨rfl, ⟨z, rfl⟩, j, hj, rfl⟩ := hrel
        by_cases hj8 : j < 8
        · go_wp2_with fail
          go_roundw
          case rel => exact ⟨trivial, ⟨_, rfl⟩, j + 1, hj8, by go_num⟩
          case measure => simp [intOf]; omega
        · obtain rfl : j = 8 := by omega
          clear hj8
          go_wp2_with fail
          go_roundw
          case rel => exact ⟨trivial, ⟨_, rfl⟩, k + 1, hlt, by go_num⟩
          case measure => simp [intOf]; omega
    · obtain rfl : k = s.size := by omega
      go_wp2_with fail
      go_end0
      exact ⟨rfl, _, rfl⟩
theorem sum_now (g : Nat) (x : Int) (w : World) (h : w.cell? ⟨g, 0, none⟩ = some (.int .u32 x)) : Calls Tryz.prog 116 #[.pointer (some ⟨g, 0, none⟩)] w fun e w' => e = .returned (.int .u32 x) ∧ w = w' := by
  go_enter Tryz.func116, Tryz.ntmps116
  go_wp2
  go_ret
  exact ⟨rfl, rfl⟩
set_option maxHeartbeats 4000000 in
theorem crc_of (a : Nat) (s : ByteArray) (w : World) (h : w.cell? ⟨a, 0, none⟩ = some (.string s)) (hs : s.size ≤ 1000000) : Calls Tryz.prog 105 #[.slice (some ⟨a, 0, none⟩) 1 1] w fun e w' => (∃ y, e = .returned (.int .u32 y)) ∧ Below w.heap.size w w' := by
  have hlt : a < w.heap.size := World.block_lt_of_cell? w _ h
  go_enter Tryz.func105, Tryz.ntmps105
  go_wp2_with fail
  obtain ⟨g, hg⟩ : ∃ g, g = w.heap.size := ⟨_, rfl⟩
  obtain ⟨w1, hw1⟩ : ∃ w1, w1 = w.alloc (.cells #[.int .u32 0] 217) := ⟨_, rfl⟩
  rw [← hg, ← hw1]
  have hs1 : w1.heap[g]? = some (.cells #[.int .u32 0] 217 (0, 0)) := by rw [hw1, hg]; exact heap_alloc_new _ _
  have hb1 : Below w.heap.size w w1 := by rw [hw1]; exact (Below.refl _ _).alloc (Nat.le_refl _) _
  have ha1 : w1.cell? ⟨a, 0, none⟩ = some (.string s) := (hb1.cell (p := ⟨a, 0, none⟩) hlt).trans h
  have HS := Lib.hid hs1
  have HB := Lib.hid hb1
  have HG := Lib.hid hg
  clear hg hw1 hs1 hb1 h
  go_loopw [5, 8] (fun v5 v8 wr => (v8 = .int .i64 0 ∧ w1 = wr) ∨ (v8 = .int .i64 1 ∧ ∃ y, wr = w1.setCell ⟨g, 0, none⟩ (.int .u32 y))) (fun _ v8 _ => 1 - (intOf v8).toNat)
  case atStart => exact .inl ⟨rfl, rfl⟩
  case round =>
    rcases hrel with ⟨rfl, rfl⟩ | ⟨rfl, y, rfl⟩
    · go_wp2_with fail
      refine (sum_add g 0 s w1 HS.out hs).mono ?_
      rintro e w2 ⟨rfl, y, rfl⟩
      go_wp2_with fail
      go_roundw
      case rel => exact .inr ⟨rfl, y, rfl⟩
      case measure => decide
    · have hc : (w1.setCell ⟨g, 0, none⟩ (.int .u32 y)).cell? ⟨g, 0, none⟩ = some (.int .u32 y) := World.cell?_setCell_same (u := .int .u32 0) _ _ _ (by rw [cell_of HS.out]; rfl)
      have HB2 := Lib.hid (HB.out.setCell (p := ⟨g, 0, none⟩) (by have := HG.out; show w.heap.size ≤ g; omega) (.int .u32 y))
      generalize w1.setCell ⟨g, 0, none⟩ (.int .u32 y) = w2 at hc HB2 ⊢
      go_wp2_with fail
      refine (sum_now g y w2 hc).mono ?_
      rintro e w3 ⟨rfl, rfl⟩
      go_wp2_with fail
      go_ret
      exact ⟨⟨_, rfl⟩, HB2.out⟩
end Go.Proofs.YtooiooledeblmaaGreat.Dcd
end
section
namespace Go.Proofs.YtooiooledeblmaaGreat.Dcd
open Go.RowKit Go.Proofs.YtooiooledeblmaaGreat.Win Go.Proofs.YtooiooledeblmaaGreat.Stp Go.Proofs.YtooiooledeblmaaGreat.Mach Go.Proofs.YtooiooledeblmaaGreat.Dec Go.Proofs.YtooiooledeblmaaGreatW.PrintMore Go.Proofs.YtooiooledeblmaaGreat.Out Go.Proofs.YtooiooledeblmaaGreat.Lst
set_option linter.unusedVariables false
set_option linter.unusedSimpArgs false
set_option maxHeartbeats 2000000 in
theorem eight_calls (n : Int) (w : World) : Calls Tryz.prog 104 #[.int .u64 n] w (LenPost w 8) := by
  go_enter Tryz.func104, Tryz.ntmps104
  go_wp2_with fail
  refine (four_calls _ _).mono ?_
  rintro e w1 ⟨⟨s1, rfl, h1⟩, hb1⟩
  go_wp2_with fail
  refine (four_calls _ _).mono ?_
  rintro e w2 ⟨⟨s2, rfl, h2⟩, hb2⟩
  have ha : (s1 ++ s2).size = 8 := by rw [ByteArray.size_append]; omega
  go_wp2_with fail
  go_ret
  exact ⟨⟨_, rfl, ha⟩, hb1.trans (Below.mono hb2 hb1.size)⟩
theorem conv2 (w : World) (x y : Int) : (convert 68 9 (.slice (some ⟨w.heap.size, 0, none⟩) 2 2)).run Tryz.prog (w.alloc (.cells #[.int .u8 x, .int .u8 y] 5)).drew = .ok (.string (strOfNums [x, y])) (w.alloc (.cells #[.int .u8 x, .int .u8 y] 5)).drew := conv_newd w [x, y] 2 rfl
theorem conv2' (w : World) (x y : Int) : (convert 68 9 (.slice (some ⟨w.heap.size, 0, none⟩) 2 2)).run Tryz.prog (w.alloc (.cells #[.int .u8 x, .int .u8 y] 5)) = .ok (.string (strOfNums [x, y])) (w.alloc (.cells #[.int .u8 x, .int .u8 y] 5)) := conv_new w [x, y] 2 rfl
theorem conv2k {w w1 : World} {x y : Int} (hb : Below (w.alloc (.cells #[.int .u8 x, .int .u8 y] 5)).drew.heap.size (w.alloc (.cells #[.int .u8 x, .int .u8 y] 5)).drew w1) : (convert 68 9 (.slice (some ⟨w.heap.size, 0, none⟩) 2 2)).run Tryz.prog w1 = .ok (.string (strOfNums [x, y])) w1 :=
  bytes_of (w := w1) (l := [x, y]) ((hb.block w.heap.size (by show w.heap.size < (w.alloc _).heap.size; simp)).trans (heap_alloc_new w _))
theorem below_four1 {w w1 : World} {o : Obj} (hb : Below (w.alloc o).drew.heap.size (w.alloc o).drew w1) : Below w.heap.size w w1 := by
  have h1 : Below w.heap.size w (w.alloc o).drew := below_drewN ((Below.refl _ _).alloc (Nat.le_refl _) _) 1
  exact h1.trans (Below.mono hb h1.size)
theorem below_four2 {w w1 : World} {o : Obj} (hb : Below w.drew.heap.size w.drew w1) : Below w.heap.size w (w1.alloc o) := by
  have h1 : Below w.heap.size w w.drew := below_drewN (Below.refl _ _) 1
  have h2 := h1.trans (Below.mono hb h1.size)
  exact h2.alloc h2.size _
set_option maxRecDepth 100000 in
set_option maxHeartbeats 8000000 in
theorem head_calls (c n : Int) (w : World) : Calls Tryz.prog 99 #[.int .i64 c, .int .i64 n] w (LenPost w 14) := by
  have w1 : IntKind.u8.wrap c = c % 256 := by rw [IntKind.wrap_u8]
  have hcv := conv2 w 1 (c % 256)
  have hs1 := str_size [1, c % 256]
  go_enter Tryz.func99, Tryz.ntmps99
  go_upto_region 1 with fail
  go_cut [5] (fun v wx => (∃ T : ByteArray, v = .string T ∧ T.size = 10) ∧ Below w.heap.size w wx)
  case first =>
    go_region_with (go_at_call 103; refine (four_calls _ _).mono ?_; rintro e w1 ⟨⟨s1, rfl, h1⟩, hb1⟩; first | have hcv1 := conv2k hb1 | have hcv1 := conv2' w1 1 (c % 256))
    all_goals
      have hT : ((⟨#[80, 73, 76, 67]⟩ : ByteArray) ++ strOfNums [1, c % 256] ++ s1).size = 10 := by
        rw [ByteArray.size_append, ByteArray.size_append, hs1, h1]
        rfl
      go_wp2_with fail
      go_meet
      refine ⟨⟨_, rfl, hT⟩, ?_⟩
      first
        | exact below_four1 hb1
        | exact below_four2 hb1
  case rest =>
    obtain ⟨⟨T, rfl, hT⟩, hb⟩ := hcut
    have hwT : wc.heap.size ≤ wc.heap.size := Nat.le_refl _
    have HB := Lib.hid hb
    clear hb hcv hs1 w1
    go_wp2_with fail
    refine (crc_of wc.heap.size T (wc.alloc (.cells #[.string T] 9)) (by rw [cell_of (heap_alloc_new _ _)]; rfl) (by omega)).mono ?_
    rintro e w2 ⟨⟨y, rfl⟩, hb2⟩
    have HB2 := Lib.hid ((HB.out.alloc HB.out.size _).trans (Below.mono hb2 (by have := HB.out.size; simp; omega)))
    clear hb2
    go_wp2_with fail
    refine (four_calls _ _).mono ?_
    rintro e w3 ⟨⟨s3, rfl, h3⟩, hb3⟩
    have hTs : (T ++ s3).size = 14 := by rw [ByteArray.size_append]; omega
    have HB3 := Lib.hid (HB2.out.trans (Below.mono hb3 HB2.out.size))
    clear hb3
    go_wp2_with fail
    go_ret
    exact ⟨⟨_, rfl, hTs⟩, HB3.out⟩
end Go.Proofs.YtooiooledeblmaaGreat.Dcd
end
