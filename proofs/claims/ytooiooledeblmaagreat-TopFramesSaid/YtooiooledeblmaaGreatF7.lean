/- A crate's writer is closed; a crate packed. codec.Decode by *expand.Decoder. codec.Decode by SCSU: what is whole. The answers that the document fixes. What the laws of the whole program call beside it: the first that is no scalar; few scalars; the bytes of scalars. BOCU-1: the bytes that stand for nothing but themselves; plain. TopKept: the walk. Arguments, as the rows hand them over; a nil slice has no room. TopFrames: the walk, over what Encode does by each codec. Functions and their walks, written by a program of this session (the kit's print, called for functions of my choice). Punycode's numbers: what bias.Put and bias.Adapt tell. -/
import Derived.Test.YtooiooledeblmaaGreatF6
import Derived.Test.YtooiooledeblmaaGreatProg
import Derived.Below
import Derived.Deep.Draws
import Derived.Deep.AppendLies
import Derived.Maps.AppendAt
import Derived.OwnWalk
import Derived.Laws.BytesArg
import Derived.Laws.MakeOwn
import Derived.Laws.OwnMore
import Derived.Deep.OwnRows
import Derived.Tactics
import Derived.Lib.ConvBytes
import Derived.Laws.Slices
import Derived.WalkKit
import Derived.KernelRfl
import Derived.RowKit3
import Derived.Deep.LoopGhost
import Derived.Deep.QuietTactic
import Derived.BigQuiet
import Derived.WideLaws
import Derived.Deep.DeepCutAuto
import Derived.Deep.CutBlock
import Derived.Deep.RegionHeld3
import Derived.Laws.Rows
import Derived.Lib.AppendStr
import Derived.ArgAppend
import Derived.Laws.IdiomCopy
import Derived.OrdersHeld
import Derived.Laws.BitsLemmas
import Derived.RowKit
section
namespace Go.Proofs.YtooiooledeblmaaGreat.Dcd
open Go.RowKit Go.Proofs.YtooiooledeblmaaGreat.Win Go.Proofs.YtooiooledeblmaaGreat.Stp Go.Proofs.YtooiooledeblmaaGreat.Mach Go.Proofs.YtooiooledeblmaaGreat.Dec Go.Proofs.YtooiooledeblmaaGreatW.PrintMore Go.Proofs.YtooiooledeblmaaGreat.Out Go.Proofs.YtooiooledeblmaaGreat.Lst
set_option linter.unusedVariables false
set_option linter.unusedSimpArgs false
def ClosePost (w0 : World) (k : Nat) (e : Ending) (w' : World) : Prop := (∃ s : ByteArray, e = .returned (.tuple #[.string s, .int .i64 0]) ∧ s.size = k) ∧ Below w0.heap.size w0 w'
theorem rowIn_self {w : World} {g n c' : Nat} {c : Int} {bg : Bool} {A : Option Addr} {l : List Int} (h : WrAt w g c n bg false (.slice A l.length c')) (hr : ∀ wx, Chg (ES g) w wx → Lst wx .u32 A l) (hn : A = none → c' = 0) (hl : l.length ≤ c') : RowIn w w g c n bg A c' l := ⟨h, Chg.refl _, hr, hn, hl⟩
/-- What is behind the rest's block, if there is one. -/
theorem close_end {w0 w : World} {g : Nat} {c : Int} {n : Nat} {v : Value} (h : WrAt w g c n true false v) (hb : Below w0.heap.size w0 w) (hg : w0.heap.size ≤ g) :
    Calls Tryz.prog 61 #[.pointer (some ⟨g, 5, none⟩)] ((w.setCell ⟨g, 3, none⟩ (.bool true)).setCell ⟨g, 4, none⟩ (.slice none 0 0)) fun e w' => (∃ s : ByteArray, e = .returned (.string s) ∧ s.size = 25) ∧ Below w0.heap.size w0 w' := by
  have h4 := (h.set3 true).set4 (.slice none 0 0)
  obtain ⟨a, b, d, hb4⟩ := h4.blk
  refine (end_calls2 g 5 a b d _ (by rw [cell_of hb4]; rfl) (by rw [cell_of hb4]; rfl) (by rw [cell_of hb4]; rfl)).mono ?_
  rintro e w' ⟨h1, h2⟩
  have hb' := (hb.setCell (p := ⟨g, 3, none⟩) hg (.bool true)).setCell (p := ⟨g, 4, none⟩) hg (.slice none 0 0)
  exact ⟨h1, hb'.trans (Below.mono h2 hb'.size)⟩
set_option maxRecDepth 100000 in
set_option maxHeartbeats 8000000 in
theorem close_calls {c : Int} {enc : List Int → List Int} {M : Nat} (hE : EncOK c enc M) {g n c' : Nat} {A : Option Addr} {l : List Int} {w0 w : World} (h : RowIn w w g c n true A c' l) (hb : Below w0.heap.size w0 w) (hg : w0.heap.size ≤ g) (hs : Scal l) (hl : l.length ≤ M) :
    Calls Tryz.prog 33 #[.pointer (some ⟨g, 0, none⟩)] w (ClosePost w0 ((if l.length = 0 then 0 else 13 + (enc l).length) + 25)) := by
  have htop := hE.top
  have HE := Lib.hid hE
  have H := Lib.hid h
  have HB := Lib.hid hb
  have HS := Lib.hid hs
  have c3 := h.wr.c3
  have HBg := Lib.hid (begin_again h.wr)
  obtain ⟨K, hK⟩ : ∃ K, K = (if l.length = 0 then 0 else 13 + (enc l).length) + 25 := ⟨_, rfl⟩
  have HK := Lib.hid hK
  rw [← hK]
  clear hE h hb hs hK
  go_enter Tryz.func33, Tryz.ntmps33
  go_wp2_with fail
  refine HBg.out.mono ?_
  rintro e w1 ⟨⟨s, rfl, hs⟩, h1, hc1⟩
  have h1' := H.out.at hc1 h1
  have c4 := h1.c4
  have H1 := Lib.hid h1'
  have HB1 := Lib.hid (Chg.below HB.out hc1 (fun i hi => by have : i = g := hi; omega))
  clear h1 hc1 h1' c3
  by_cases h0 : l.length = 0
  · have c4' : w1.cell? ⟨g, 4, none⟩ = some (.slice A 0 c') := by rw [c4, h0]
    have hKe : K = 25 := by rw [HK.out, if_pos h0]
    have HKe := Lib.hid hKe
    have f3 := H1.out.wr.fz 3
    have f4 := H1.out.wr.fz 4
    have c3 := H1.out.wr.c3
    have HEn := Lib.hid (close_end H1.out.wr HB1.out hg)
    clear c4 h0 hKe HK
    go_wp2_with fail
    refine HEn.out.mono ?_
    rintro e w2 ⟨⟨t, rfl, ht⟩, hb2⟩
    have HB2 := Lib.hid hb2
    have hz : (s ++ t).size = 25 := by rw [ByteArray.size_append]; omega
    clear hb2
    go_wp2_with fail
    go_ret2
    exact ⟨⟨_, rfl, by rw [HKe.out]; exact hz⟩, HB2.out⟩
  · have hKe : K = 13 + (enc l).length + 25 := by rw [HK.out, if_neg h0]
    have HKe := Lib.hid hKe
    have hpos : 1 ≤ l.length := by omega
    have HWb := Lib.hid (wb_at HE.out H1.out (Nat.le_refl _) hpos (by omega) HS.out hl)
    have hel := HE.out.len l HS.out hl
    clear hKe HK
    go_wp2_with fail
    refine HWb.out.mono ?_
    rw [List.take_length]
    rintro e w2 ⟨⟨t, rfl, ht⟩, h2, hc2⟩
    have f3 := h2.fz 3
    have f4 := h2.fz 4
    have c3 := h2.c3
    have c4' := h2.c4
    have HEn := Lib.hid (close_end h2 (Chg.below HB1.out hc2 (fun i hi => by have : i = g := hi; omega)) hg)
    have HT := Lib.hid ht
    clear c4 h2 hc2
    go_wp2_with fail
    refine HEn.out.mono ?_
    rintro e w3 ⟨⟨u, rfl, hu⟩, hb3⟩
    have HB3 := Lib.hid hb3
    have HU := Lib.hid hu
    have hz1 : (s ++ t).size = 13 + (enc l).length := by rw [ByteArray.size_append]; omega
    clear hb3
    go_wp2_with fail
    go_ret2
    exact ⟨⟨_, rfl, by rw [HKe.out, ByteArray.size_append, hz1, HU.out]⟩, HB3.out⟩
/-- How long a crate is. -/
def packLen (enc : List Int → List Int) (n : Nat) (l : List Int) : Nat := 39 + sumB (fun x => (enc x).length) n l ((l.length + n - 1) / n)
theorem pack_sum {enc : List Int → List Int} {n k : Nat} {l : List Int} (h1 : k * n ≤ l.length) (h2 : l.length < k * n + n) :
    14 + sumB (fun x => (enc x).length) n l k + ((if (l.drop (k * n)).length = 0 then 0 else 13 + (enc (l.drop (k * n))).length) + 25) = packLen enc n l := by
  have hn : 0 < n := by omega
  unfold packLen
  have hd : (l.drop (k * n)).length = l.length - k * n := List.length_drop
  by_cases h0 : (l.drop (k * n)).length = 0
  · have hl : l.length = k * n := by omega
    have hk : (l.length + n - 1) / n = k := by
      rw [hl]
      have : k * n + n - 1 = (n - 1) + n * k := by rw [Nat.mul_comm n k]; omega
      rw [this, Nat.add_mul_div_left _ _ hn, Nat.div_eq_of_lt (by omega), Nat.zero_add]
    rw [if_pos h0, hk]
    omega
  · have hk : (l.length + n - 1) / n = k + 1 := by
      have : l.length + n - 1 = (l.length - k * n - 1) + n * (k + 1) := by rw [Nat.mul_add, Nat.mul_comm n k, Nat.mul_one]; omega
      rw [this, Nat.add_mul_div_left _ _ hn, Nat.div_eq_of_lt (by omega), Nat.zero_add]
    rw [if_neg h0, hk, sumB_succ, List.take_of_length_le (by omega)]
    omega
def PackPost (w : World) (k : Nat) (e : Ending) (w' : World) : Prop := (∃ s : ByteArray, e = .returned (.tuple #[.string s, .agg #[.int .i64 0, .int .i64 0]]) ∧ s.size = k) ∧ Below w.heap.size w w'
set_option maxRecDepth 100000 in
set_option maxHeartbeats 8000000 in
theorem pack_calls {c : Int} {enc : List Int → List Int} {M : Nat} (hE : EncOK c enc M) {n cap : Nat} {A : Option Addr} {l : List Int} {w : World} (hL : ∀ wx, Below w.heap.size w wx → Lst wx .u32 A l) (hs : Scal l) (hl : l.length ≤ M) (hnil : A = none → cap = 0) (hn1 : 1 ≤ n) (hn2 : n ≤ 65536) :
    Calls Tryz.prog 16 #[.int .i64 c, .int .i64 n, .slice A l.length cap] w (PackPost w (packLen enc n l)) := by
  have htop := hE.top
  have HE := Lib.hid hE
  have HL := Lib.hid hL
  have HS := Lib.hid hs
  have HNil := Lib.hid hnil
  clear hE hL hs hnil
  go_enter Tryz.func16, Tryz.ntmps16
  go_wp2_with fail
  refine (newWriter_calls HE.out.lo HE.out.hi (by omega) (by omega) _).mono ?_
  rintro e w1 ⟨g, hg, rfl, h1, hb1⟩
  have hr0 := heap_alloc_new w (.cells #[.int .i64 0, .int .i64 0] 39)
  have hz0 : (w.alloc (.cells #[.int .i64 0, .int .i64 0] 39)).heap.size = w.heap.size + 1 := by simp
  have hb0 : Below w.heap.size w (w.alloc (.cells #[.int .i64 0, .int .i64 0] 39)) := (Below.refl _ w).alloc (Nat.le_refl _) _
  generalize w.alloc (.cells #[.int .i64 0, .int .i64 0] 39) = wa at hr0 hz0 hb0 hb1 hg ⊢
  have hLa : ∀ wx, Below wa.heap.size wa wx → Lst wx .u32 A l := fun wx hx => HL.out wx (hb0.trans (Below.mono hx hb0.size))
  have HAdd := Lib.hid (add_calls HE.out (cap := cap) h1 hb1 hg hLa HS.out hl HNil.out hn1 hn2)
  have HR0 := Lib.hid hr0
  have HZ0 := Lib.hid hz0
  have HB0 := Lib.hid hb0
  have HG := Lib.hid hg
  clear h1 hr0 hz0 hb0 hb1 hg hLa HL
  go_wp2_with fail
  refine HAdd.out.mono ?_
  rintro e w2 ⟨k, A2, c2, s, hk1, hk2, rfl, hsz, h2, hro2, hn2', hle2, hb2⟩
  have hr2 := (hb2.block w.heap.size (by rw [HZ0.out]; omega)).trans HR0.out
  obtain ⟨w3, hw3⟩ : ∃ w3, w3 = w2.alloc (.cells #[.int .i64 0, .int .i64 0] 39) := ⟨_, rfl⟩
  have hb23 : Below w2.heap.size w2 w3 := by rw [hw3]; exact (Below.refl _ _).alloc (Nat.le_refl _) _
  have hb3 := hb2.trans (Below.mono hb23 hb2.size)
  have hr3 := (hb23.block w.heap.size (Array.getElem?_eq_some_iff.1 hr2).1).trans hr2
  have hin := rowIn_self (h2.below hb23) (fun wx hx => hro2 wx ((Chg.of_below hb23).trans hx)) hn2' hle2
  have HCl := Lib.hid (close_calls HE.out hin hb3 HG.out (HS.out.drop _) (by rw [List.length_drop]; omega))
  have HSum := Lib.hid (pack_sum (enc := enc) hk1 hk2)
  have HSz := Lib.hid hsz
  have HR3 := Lib.hid hr3
  have hz1 : s.size ≤ 5000000 := by
    have := sumB_len HE.out n HS.out hl k
    have := blk_le hk1 hn1
    omega
  have hen := HE.out.len (l.drop (k * n)) (HS.out.drop _) (by rw [List.length_drop]; omega)
  clear hk1 hk2 hsz h2 hro2 hn2' hle2 hb2 hr2 hb23 hb3 hr3 hin HAdd
  go_upto_region 7 with fail
  rw [← hw3]
  clear hw3
  go_wp2_with fail
  refine HCl.out.mono ?_
  rintro e w4 ⟨⟨t, rfl, ht⟩, hb4⟩
  have hr4 := (hb4.block w.heap.size (by rw [HZ0.out]; omega)).trans HR0.out
  have r0 : w4.cell? ⟨w.heap.size, 0, none⟩ = some (.int .i64 0) := by rw [cell_of hr4]; rfl
  have r1 : w4.cell? ⟨w.heap.size, 1, none⟩ = some (.int .i64 0) := by rw [cell_of hr4]; rfl
  have fr := frozen_of hr4
  have HB4 := Lib.hid (HB0.out.trans (Below.mono hb4 HB0.out.size))
  have HZ := Lib.hid (show (s ++ t).size = packLen enc n l by rw [ByteArray.size_append, HSz.out, ht, HSum.out])
  have hz2 : t.size ≤ 5000000 := by
    rw [ht]
    split <;> omega
  clear hb4 hr4 ht
  go_wp2_with fail
  refine bodyPost_ret (v := .tuple #[.string (s ++ t), .agg #[.int .i64 0, .int .i64 0]]) (by
    have e0 : ((w4.setCell ⟨w.heap.size, 0, none⟩ (.int .i64 0)).setCell ⟨w.heap.size, 1, none⟩ (.int .i64 0)).cell? ⟨w.heap.size, 0, none⟩ = some (.int .i64 0) := by rw [World.cell?_setCell_other _ _ _ _ (by simp), World.cell?_setCell_same _ _ _ r0]
    have e1 : ((w4.setCell ⟨w.heap.size, 0, none⟩ (.int .i64 0)).setCell ⟨w.heap.size, 1, none⟩ (.int .i64 0)).cell? ⟨w.heap.size, 1, none⟩ = some (.int .i64 0) := by rw [World.cell?_setCell_same (u := .int .i64 0) _ _ _ (by rw [World.cell?_setCell_other _ _ _ _ (by simp)]; exact r1)]
    simp [results, Tryz.results16, go_sem, e0, e1]) rfl ⟨⟨_, rfl, HZ.out⟩, (HB4.out.setCell (p := ⟨w.heap.size, 0, none⟩) (Nat.le_refl _) _).setCell (p := ⟨w.heap.size, 1, none⟩) (Nat.le_refl _) _⟩
theorem told_pos {R : Type} {B : R → Int → List Int} (N : R → Int → R) (h : ∀ r c, 1 ≤ (B r c).length) (l : List Int) (r : R) (hl : 1 ≤ l.length) : 1 ≤ (told B N r l).length := by
  cases l with
  | nil => simp at hl
  | cons x xs =>
    have := h r x
    simp only [told, List.length_append]
    omega
theorem u16_pos (big : Bool) (c : Int) : 1 ≤ (u16B big () c).length := by
  unfold u16B uni16B
  split
  · rw [unitB_len]; decide
  · rw [List.length_append, unitB_len]; omega
theorem mod8_pos (c : Int) : 1 ≤ (mod8B c).length := by
  unfold mod8B
  repeat' split
  all_goals simp
theorem encOK_all {c : Int} (hc : (1 ≤ c ∧ c ≤ 6) ∨ c = 8) : EncOK c (encS c) 600 := by
  have hlen : ∀ l, (encS c l).length ≤ 5 * l.length := by
    intro l
    have : c = 1 ∨ c = 2 ∨ c = 3 ∨ c = 4 ∨ c = 5 ∨ c = 6 ∨ c = 8 := by omega
    rcases this with rfl | rfl | rfl | rfl | rfl | rfl | rfl
    · exact told_len unN (fun _ c => uni8B_len c) l ()
    · exact told_len unN (fun _ c => uni16B_len true c) l ()
    · exact told_len unN (fun _ c => uni16B_len false c) l ()
    · exact told_len unN (fun _ c => uni32B_len true c) l ()
    · exact told_len unN (fun _ c => uni32B_len false c) l ()
    · exact told_len unN ebB_len l ()
    · exact told_len bocuN bocuB_len l 64
  refine ⟨Nat.le_refl _, by omega, by omega, fun l _ hl => by have := hlen l; omega, ?_, fun hL hs hl hcap _ => encode_all hc hL hs hl hcap⟩
  intro l hs hl h1
  have : c = 1 ∨ c = 2 ∨ c = 3 ∨ c = 4 ∨ c = 5 ∨ c = 6 ∨ c = 8 := by omega
  rcases this with rfl | rfl | rfl | rfl | rfl | rfl | rfl
  · exact told_pos unN (fun _ c => by unfold u8B uni8B; (repeat' split) <;> simp) l () h1
  · exact told_pos unN (fun _ c => u16_pos true c) l () h1
  · exact told_pos unN (fun _ c => u16_pos false c) l () h1
  · exact told_pos unN (fun _ c => by unfold u32B uni32B; split <;> simp) l () h1
  · exact told_pos unN (fun _ c => by unfold u32B uni32B; split <;> simp) l () h1
  · exact told_pos unN (fun _ c => by unfold ebB; rw [List.length_map]; exact mod8_pos c) l () h1
  · exact told_pos bocuN (fun r c => by unfold bocuB; split; · simp
                                        · unfold packC; simp) l 64 h1
end Go.Proofs.YtooiooledeblmaaGreat.Dcd
end
section
namespace Go.Proofs.YtooiooledeblmaaGreat.Dcd
open Go.RowKit Go.Proofs.YtooiooledeblmaaGreat.Win Go.Proofs.YtooiooledeblmaaGreat.Stp Go.Proofs.YtooiooledeblmaaGreat.Mach Go.Proofs.YtooiooledeblmaaGreat.Dec Go.Proofs.YtooiooledeblmaaGreatW.PrintMore
set_option linter.unusedVariables false
set_option linter.unusedSimpArgs false
theorem mkd_expand (v : Value) (w : World) : (Instr.makeInterface 138 v).run Tryz.prog w = .ok (.iface 138 v) w := run_makeInterface w 138 v (by kernel_rfl)
theorem feedd_expand (g : Nat) (w : World) : (method 407 138 (.pointer (some ⟨g, 0, none⟩)) "Feed").run Tryz.prog w = .ok (271, .pointer (some ⟨g, 0, none⟩)) w := by kernel_rfl
theorem endd_expand (g : Nat) (w : World) : (method 407 138 (.pointer (some ⟨g, 0, none⟩)) "End").run Tryz.prog w = .ok (270, .pointer (some ⟨g, 0, none⟩)) w := by kernel_rfl
theorem doned_expand (g : Nat) (w : World) : (method 407 138 (.pointer (some ⟨g, 0, none⟩)) "Done").run Tryz.prog w = .ok (228, .pointer (some ⟨g, 0, none⟩)) w := by kernel_rfl
theorem faild_expand (g : Nat) (w : World) : (method 407 138 (.pointer (some ⟨g, 0, none⟩)) "Fail").run Tryz.prog w = .ok (140, .pointer (some ⟨g, 0, none⟩)) w := by kernel_rfl
attribute [local go_sem] mkd_expand feedd_expand endd_expand doned_expand faild_expand
set_option maxRecDepth 100000 in
set_option maxHeartbeats 8000000 in
theorem decode_expand {c : Int} {s : ByteArray} {out : List Int} {w : World} (hnew : ∀ wx, Calls Tryz.prog 37 #[.int .i64 c] wx (NewDPost 138 271 270 s out wx)) (h0 : 0 < out.length) (hl : out.length ≤ 100000) (hs : s.size ≤ 100000) :
    Calls Tryz.prog 18 #[.int .i64 c, .string s] w (DecPost w out) := by
  have HNew := Lib.hid hnew
  clear hnew
  obtain ⟨i0, hi, hz0, hz1, hz2⟩ := info_parts info_u32
  have HN : Hid (i0.zero = some (.int .u32 0) ∧ i0.size = 1 ∧ i0.bytes = 4 ∧ Tryz.prog.info? 31 = some i0) := ⟨hz0, hz1, hz2, hi⟩
  clear hz0 hz1 hz2 hi
  go_enter Tryz.func18, Tryz.ntmps18
  go_wp2_with fail
  refine (HNew.out _).mono ?_
  rintro e w1 ⟨g, own, hown, hg, rfl, hb, hrd⟩
  obtain ⟨w0, hw0⟩ : ∃ w0, w0 = w.alloc (.cells #[.int .i64 0, .int .i64 0] 39) := ⟨_, rfl⟩
  rw [← hw0] at hown hg hb
  have hz0 : w0.heap.size = w.heap.size + 1 := by rw [hw0]; simp
  have hr0 : w0.heap[w.heap.size]? = some (.cells #[.int .i64 0, .int .i64 0] 39 (0, 0)) := by rw [hw0]; exact heap_alloc_new _ _
  have hb0 : Below w.heap.size w w0 := by rw [hw0]; exact (Below.refl _ _).alloc (Nat.le_refl _) _
  have HR1 := Lib.hid ((hb.block w.heap.size (by omega)).trans hr0)
  have HB1 := Lib.hid (hb0.trans (Below.mono hb (by omega)))
  have HOw := Lib.hid (show ∀ i, own i → w.heap.size < i ∧ i < w1.heap.size from fun i hi => by have := hown i hi; omega)
  have HRd := Lib.hid hrd
  have HG := Lib.hid (show w.heap.size < g by omega)
  clear hrd hb hw0 hz0 hr0 hb0 hown hg
  go_wp2_with fail
  go_loopw [1, 8] (fun v o wr => v = .string s ∧ o = .slice none 0 0 ∧ w1 = wr) (fun _ _ _ => 0)
  case atStart => exact ⟨rfl, rfl, rfl⟩
  case round =>
    obtain ⟨rfl, rfl, rfl⟩ := hrel
    have HFd := Lib.hid (HRd.out w1 (Below.refl _ _))
    go_wp2_with fail
    refine HFd.out.mono ?_
    rintro e w2 ⟨A, c2, rfl, hc2, ho2, hfd⟩
    obtain ⟨r, rfl⟩ : ∃ r, A = some ⟨r, 0, none⟩ := by
      rcases ho2.2 with ⟨h1, h2⟩ | ⟨g', cap, cur, h1, _⟩
      · omega
      · injection h1 with h1
        exact ⟨_, h1⟩
    have hle : out.length ≤ c2 := by
      rcases ho2.2 with ⟨h1, _⟩ | ⟨g', cap, cur, h1, _, _, h4, _⟩
      · cases h1
      · injection h1 with _ _ h1; omega
    have hm : c2 ≤ 9223372036854775807 := by
      rcases ho2.2 with ⟨h1, _⟩ | ⟨g', cap, cur, h1, _, _, h4, h5, _⟩
      · cases h1
      · injection h1 with _ _ h1; unfold maxLen at h5; omega
    have HR2 := Lib.hid ((hc2.block w.heap.size (Array.getElem?_eq_some_iff.1 HR1.out).1 (fun h => by have := HOw.out _ h; omega)).trans HR1.out)
    have HB2 := Lib.hid (Chg.below HB1.out hc2 (fun i hi => by have := HOw.out i hi; omega))
    have HC2 := Lib.hid hc2.size
    have HCE := Lib.hid (ho2.cells (g := r) rfl)
    have HFe := Lib.hid hfd
    clear hc2 ho2 hfd
    go_wp2_with (at_builtin; (refine wpList_append_lies _ rfl (.tmp 28) (.tmp 29) 24 rfl w2.heap.size 31 i0 (.int .u32 0) 1 4 Tryz.underlying24 HN.out.2.2.2 HN.out.1 HN.out.2.1 HN.out.2.2.1 rfl (by decide) (.slice none 0 0) 0 [] rfl (World.ownsRow_nil _ _ _ _) ⟨r, 0, none⟩ _ _ (u32s out) rfl ?c1 ?c2 ?c3 ?c4 ?c5 ?c6 (Nat.le_refl _) _ rfl ?_; (case c1 => rw [u32s_length]; omega); (case c2 => exact HCE.out); (case c3 => intro u hu; unfold u32s at hu; rw [List.mem_map] at hu; obtain ⟨y, _, rfl⟩ := hu; rfl); (case c4 => omega); (case c5 => unfold maxLen; omega); (case c6 => omega); intro r1 c1 w3 hown3 hgrow3 hat3 hlt3; have HO3 := Lib.hid hown3; have HB23 := Lib.hid ((Below.refl _ w2).grown hgrow3 (Nat.le_refl _) (fun k hk => by simp [Value.ownBlock] at hk)); have HE := Lib.hid (HFe.out w3 HB23.out); clear hown3 hgrow3 hat3 hlt3))
    refine HE.out.mono ?_
    rintro e w4 ⟨rfl, hc4, hdn, b, hbs, hb1, hb2⟩
    have HR4 := Lib.hid ((hc4.block w.heap.size (by have := HC2.out; have := HB23.out.size; have := (Array.getElem?_eq_some_iff.1 HR2.out).1; omega) (fun h => by have := HOw.out _ h; omega)).trans ((HB23.out.block _ (Array.getElem?_eq_some_iff.1 HR2.out).1).trans HR2.out))
    have HB4 := Lib.hid (Chg.below (HB2.out.trans (Below.mono HB23.out HB2.out.size)) hc4 (fun i hi => by have := HOw.out i hi; omega))
    have HO4 := Lib.hid (own_chg HO3.out hc4 (fun i hi => by have := HOw.out i hi; have := HC2.out; omega))
    have HLt := Lib.hid (show w.heap.size < w2.heap.size from (Array.getElem?_eq_some_iff.1 HR2.out).1)
    have HDn := Lib.hid hdn
    have HFl := Lib.hid (fail_calls g b w4 hbs)
    have HBb := Lib.hid (And.intro hb1 hb2)
    clear hc4 hdn hbs hb1 hb2
    go_wp2_with fail
    go_loopw [8] (fun o wr => o = .slice (some ⟨r1, 0, none⟩) out.length c1 ∧ w4 = wr) (fun _ _ => 0)
    case atStart => exact ⟨rfl, rfl⟩
    case round =>
      obtain ⟨rfl, rfl⟩ := hrel
      go_wp2_with fail
      refine HDn.out.mono ?_
      rintro e w6 ⟨rfl, rfl⟩
      go_wp2_with fail
      refine HFl.out.mono ?_
      rintro e w7 ⟨rfl, rfl⟩
      obtain ⟨w7, hw7⟩ : ∃ w7, w7 = w4.alloc (.cells #[.int .i64 b.err, .int .i64 b.pl] 39) := ⟨_, rfl⟩
      have hw7' : w4.alloc (.cells #[.int .i64 b.err, .int .i64 b.pl] 39) = w7 := hw7.symm
      have hr7 : w7.heap[w.heap.size]? = some (.cells #[.int .i64 0, .int .i64 0] 39 (0, 0)) := by rw [hw7, Below.heap_alloc _ _ _ (Array.getElem?_eq_some_iff.1 HR4.out).1]; exact HR4.out
      have hb7 : Below w.heap.size w w7 := by rw [hw7]; exact HB4.out.alloc HB4.out.size _
      have ho7 := HO4.out.alloc (.cells #[.int .i64 b.err, .int .i64 b.pl] 39)
      rw [← hw7] at ho7
      rw [hw7']
      have c0 : w7.cell? ⟨w.heap.size, 0, none⟩ = some (.int .i64 0) := by rw [cell_of hr7]; rfl
      have c1' : w7.cell? ⟨w.heap.size, 1, none⟩ = some (.int .i64 0) := by rw [cell_of hr7]; rfl
      have f0 := frozen_of hr7 0
      have f1 := frozen_of hr7 1
      have HB7 := Lib.hid hb7
      have HO7 := Lib.hid ho7
      clear hw7 hw7' hr7 hb7 ho7
      go_wp2_with fail
      have e0 : ((w7.setCell ⟨w.heap.size, 0, none⟩ (.int .i64 b.err)).setCell ⟨w.heap.size, 1, none⟩ (.int .i64 b.pl)).cell? ⟨w.heap.size, 0, none⟩ = some (.int .i64 0) := by
        rw [World.cell?_setCell_other _ _ _ _ (by simp), World.cell?_setCell_same _ _ _ c0, HBb.out.1]
      have e1 : ((w7.setCell ⟨w.heap.size, 0, none⟩ (.int .i64 b.err)).setCell ⟨w.heap.size, 1, none⟩ (.int .i64 b.pl)).cell? ⟨w.heap.size, 1, none⟩ = some (.int .i64 0) := by
        rw [World.cell?_setCell_same (u := .int .i64 0) _ _ _ (by rw [World.cell?_setCell_other _ _ _ _ (by simp)]; exact c1'), HBb.out.2]
      refine bodyPost_ret (v := .tuple #[.slice (some ⟨r1, 0, none⟩) out.length c1, .agg #[.int .i64 0, .int .i64 0]]) (by simp [results, Tryz.results18, go_sem, e0, e1]) rfl ⟨r1, c1, rfl, ?_, (HB7.out.setCell (p := ⟨w.heap.size, 0, none⟩) (Nat.le_refl _) _).setCell (p := ⟨w.heap.size, 1, none⟩) (Nat.le_refl _) _⟩
      have ho := ownsRow_setCell_below (ownsRow_setCell_below HO7.out (a := ⟨w.heap.size, 0, none⟩) HLt.out (.int .i64 b.err)) (a := ⟨w.heap.size, 1, none⟩) HLt.out (.int .i64 b.pl)
      simp only [Nat.zero_add, List.nil_append] at ho
      exact own_weaken ho (Nat.le_of_lt HLt.out)
end Go.Proofs.YtooiooledeblmaaGreat.Dcd
end
section
namespace Go.Proofs.YtooiooledeblmaaGreat.Dcd
open Go.RowKit Go.Proofs.YtooiooledeblmaaGreat.Win Go.Proofs.YtooiooledeblmaaGreat.Stp Go.Proofs.YtooiooledeblmaaGreat.Mach Go.Proofs.YtooiooledeblmaaGreat.Dec Go.Proofs.YtooiooledeblmaaGreatW.PrintMore
set_option linter.unusedVariables false
set_option linter.unusedSimpArgs false
theorem steps_split : ∀ (xs : List Int) {ys : List Int} {m m2 : M} {e : List Int}, steps m (xs ++ ys) = some (m2, e) → ∃ m1 e1 e2, steps m xs = some (m1, e1) ∧ steps m1 ys = some (m2, e2) ∧ e = e1 ++ e2
  | [], ys, m, m2, e, h => ⟨m, [], e, rfl, h, rfl⟩
  | x :: xs, ys, m, m2, e, h => by
    simp only [List.cons_append, steps] at h
    cases hs : Mach.step m x with
    | none => rw [hs] at h; cases h
    | some r =>
      obtain ⟨m3, e3⟩ := r
      rw [hs] at h
      simp only at h
      cases ht : steps m3 (xs ++ ys) with
      | none => rw [ht] at h; cases h
      | some r =>
        obtain ⟨m4, e4⟩ := r
        rw [ht] at h
        simp only [Option.some.injEq, Prod.mk.injEq] at h
        obtain ⟨rfl, rfl⟩ := h
        obtain ⟨m1, e1, e2, q1, q2, rfl⟩ := steps_split xs ht
        exact ⟨m1, e3 ++ e1, e2, by simp only [steps, hs, q1], q2, by rw [List.append_assoc]⟩
theorem fed_whole {b b' : B4} {m m' mE : M} {l out oE : List Int} {room : Int} {k : Nat} (h : Fed b m l room k out b' m') (hs : steps m l = some (mE, oE)) (hb : b.going = true) (hr : (oE.length : Int) < room) :
    k = l.length ∧ out = oE ∧ m' = mE ∧ Mach.Good m' ∧ b' = { b with at_ := b.at_ + l.length } := by
  have hk := h.le
  have hsp : steps m (l.take k ++ l.drop k) = some (mE, oE) := by rw [List.take_append_drop]; exact hs
  obtain ⟨m1, e1, e2, q1, q2, q3⟩ := steps_split _ hsp
  rcases h.way with ⟨m3, w1, _, w2, w3, w4, _⟩ | ⟨w1, w2, w3, w4⟩
  · exfalso
    rw [w1] at q1
    simp only [Option.some.injEq, Prod.mk.injEq] at q1
    obtain ⟨rfl, rfl⟩ := q1
    rw [List.drop_eq_getElem_cons w2] at q2
    have : l.getD k 0 = l[k] := by rw [List.getD_eq_getElem?_getD, List.getElem?_eq_getElem w2]; rfl
    rw [this] at w4
    simp only [steps, w4] at q2
    cases q2
  · rw [w1] at q1
    simp only [Option.some.injEq, Prod.mk.injEq] at q1
    obtain ⟨rfl, rfl⟩ := q1
    have hkl : k = l.length := by
      rcases w4 with w4 | w4 | w4
      · exact w4
      · have : oE.length = out.length + e2.length := by rw [q3, List.length_append]
        omega
      · rw [hb] at w4; cases w4
    subst hkl
    rw [List.take_length, hs] at w1
    simp only [Option.some.injEq, Prod.mk.injEq] at w1
    obtain ⟨rfl, rfl⟩ := w1
    exact ⟨rfl, rfl, rfl, w2, w3⟩
theorem mkd_x (v : Value) (w : World) : (Instr.makeInterface 138 v).run Tryz.prog w = .ok (.iface 138 v) w := run_makeInterface w 138 v (by kernel_rfl)
section
attribute [local go_sem] mkd_x
theorem dnew_9 {s : ByteArray} {mE : M} {out : List Int} (hs : s.size ≤ 100000) (hst : steps m0 (byt s) = some (mE, out)) (hl : out.length ≤ 4000) (hm : mE.beg = 0 ∧ mE.upper = 0) (w : World) :
    Calls Tryz.prog 37 #[.int .i64 9] w (NewDPost 138 271 270 s out w) := by
  go_enter Tryz.func37, Tryz.ntmps37
  go_wp2_with fail
  refine (newDecoder_calls _).mono ?_
  rintro e w1 ⟨rfl, hd, hb, hz⟩
  go_wp2_with fail
  go_ret2
  refine ⟨w.heap.size + 1, FS (w.heap.size + 1) w.heap.size nilS, ?_, by omega, rfl, hb, ?_⟩
  · intro i hi
    rcases hi with hi | hi | hi
    · omega
    · omega
    · simp [Value.ownBlock] at hi
  · intro wy hy
    have hdy : DecAt wy (w.heap.size + 1) w.heap.size 0 nilS b40 [] m0 := hd.keep hy.size (hy.block _ hd.lt) (hy.block _ hd.win.lt) (fun k hk => by simp [Value.ownBlock] at hk)
    refine (feed_calls s 4096 hdy good0 hs (by decide) (by decide)).mono ?_
    rintro e w2 ⟨k, A, c, o, b', m', rfl, hd2, hc2, ho2, hf⟩
    obtain ⟨rfl, rfl, rfl, hgd, rfl⟩ := fed_whole hf hst rfl (by omega)
    rw [byt_length] at hd2 ⊢
    refine ⟨A, c, rfl, hc2, ho2, ?_⟩
    intro w3 h3
    have hd3 := hd2.keep h3.size (h3.block _ hd2.lt) (h3.block _ hd2.win.lt) (fun k hk => by simp [Value.ownBlock] at hk)
    refine (end_calls hd3).mono ?_
    rintro e w4 ⟨rfl, hd4, hc4⟩
    have he : endB { b40 with at_ := b40.at_ + (s.size : Int) } m' = { b40 with at_ := b40.at_ + (s.size : Int), fin := true } := by
      unfold endB cutB
      rw [if_neg (fun h => h.1.elim (fun h => h hm.1) (fun h => h hm.2))]
      rfl
    rw [he] at hd4
    exact ⟨rfl, hc4, done_calls hd4, _, hd4.base, rfl, rfl⟩
end
set_option maxRecDepth 100000 in
theorem decode_live (w : World) : Calls Tryz.prog 18 #[.int .i64 9, .string (strOfNums [18, 156])] w (DecPost w [1052]) := by
  have h1 : steps m0 (byt (strOfNums [18, 156])) = some ({ m0 with act := 2 }, [1052]) := by kernel_rfl
  exact decode_expand (dnew_9 (by decide +kernel) h1 (by decide) ⟨rfl, rfl⟩) (by decide) (by decide) (by decide +kernel)
end Go.Proofs.YtooiooledeblmaaGreat.Dcd
end
section
namespace Go.Proofs.YtooiooledeblmaaGreat.Dcd
open Go.RowKit Go.Proofs.YtooiooledeblmaaGreat.Win Go.Proofs.YtooiooledeblmaaGreat.Stp Go.Proofs.YtooiooledeblmaaGreat.Mach Go.Proofs.YtooiooledeblmaaGreat.Dec Go.Proofs.YtooiooledeblmaaGreatW.PrintMore Go.Proofs.YtooiooledeblmaaGreat.Out Go.Proofs.YtooiooledeblmaaGreat.Lst
set_option linter.unusedVariables false
set_option linter.unusedSimpArgs false
theorem fld4 (w : World) : (Instr.field 50 (.agg #[.int .i64 1, .int .i64 1, .int .i64 1, .int .i64 0, .int .i64 1, .int .i64 0, .int .i64 0, .int .i64 0, .int .i64 0, .int .u32 65, .int .u32 65]) 4).run Tryz.prog w = .ok (.int .i64 1) w := by kernel_rfl
theorem fail_eq (w : World) : (binOp .eql 39 (.agg #[.int .i64 0, .int .i64 0]) (.agg #[.int .i64 0, .int .i64 0])).run Tryz.prog w = .ok (.bool true) w := by kernel_rfl
theorem lst_one {w : World} {x : Int} : ∀ wx, Below (w.alloc (.cells #[.int .u32 x] 31)).heap.size (w.alloc (.cells #[.int .u32 x] 31)) wx → Lst wx .u32 (some ⟨w.heap.size, 0, none⟩) [x] := fun wx hx => lst_new hx
def FailAt (w : World) (r : Nat) : Prop := w.heap[r]? = some (.cells #[.int .i64 0, .int .i64 0] 39 (0, 0))
theorem FailAt.below {w w' : World} {r : Nat} (h : FailAt w r) (hb : Below w.heap.size w w') : FailAt w' r := (hb.block r (Array.getElem?_eq_some_iff.1 h).1).trans h
theorem FailAt.c0 {w : World} {r : Nat} (h : FailAt w r) : w.cell? ⟨r, 0, none⟩ = some (.int .i64 0) := by rw [cell_of h]; rfl
theorem FailAt.c1 {w : World} {r : Nat} (h : FailAt w r) : w.cell? ⟨r, 1, none⟩ = some (.int .i64 0) := by rw [cell_of h]; rfl
theorem FailAt.lt {w : World} {r : Nat} (h : FailAt w r) : r < w.heap.size := (Array.getElem?_eq_some_iff.1 h).1
theorem FailAt.new (w : World) : FailAt (w.alloc (.cells #[.int .i64 0, .int .i64 0] 39)) w.heap.size := heap_alloc_new _ _
theorem bel_alloc {w : World} (o : Obj) : Below w.heap.size w (w.alloc o) := (Below.refl _ w).alloc (Nat.le_refl _) o
def LivePost (w : World) (e : Ending) (w' : World) : Prop := e = .returned (.bool true) ∧ Below w.heap.size w w'
set_option maxRecDepth 100000 in
set_option maxHeartbeats 8000000 in
theorem live_calls (w : World) : Calls Tryz.prog 8 #[] w (LivePost w) := by
  have hE8 := fun (w0 : World) (r : Nat) (hL : ∀ wx, Below w0.heap.size w0 wx → Lst wx .u32 (some ⟨r, 0, none⟩) [65279]) => encode_all (c := 8) (.inr rfl) (l := [65279]) (cap := 1) hL (by decide +kernel) (by decide) (by decide)
  rw [show encS 8 [65279] = [251, 238, 40] from by decide +kernel] at hE8
  unfold EncPost at hE8
  rw [show strOfNums [251, 238, 40] = ⟨#[251, 238, 40]⟩ from rfl] at hE8
  have hTx := text_live
  unfold EncPost at hTx
  rw [show strOfNums [193] = ⟨#[193]⟩ from rfl] at hTx
  have hPk := fun (w0 : World) (r : Nat) (hL : ∀ wx, Below w0.heap.size w0 wx → Lst wx .u32 (some ⟨r, 0, none⟩) [65]) => pack_calls (encOK_all (c := 1) (.inl (by decide))) (n := 1) (cap := 1) (l := [65]) hL (by unfold Scal; decide +kernel) (by decide) (fun h => nomatch h) (Nat.le_refl 1) (by decide)
  rw [show packLen (encS 1) 1 [65] = 53 from by decide +kernel] at hPk
  have HPk := Lib.hid hPk
  have HE8 := Lib.hid hE8
  have HTx := Lib.hid hTx
  clear hE8 hTx hPk
  go_enter Tryz.func8, Tryz.ntmps8
  go_wp2_with fail
  refine (HE8.out _ _ lst_one).mono ?_
  rintro e w1 ⟨rfl, hb1⟩
  obtain ⟨r1, hr1⟩ : ∃ r, r = w1.heap.size := ⟨_, rfl⟩
  have hf1 : FailAt (w1.alloc (.cells #[.int .i64 0, .int .i64 0] 39)) r1 := by rw [hr1]; exact FailAt.new _
  have hb1' : Below w.heap.size w (w1.alloc (.cells #[.int .i64 0, .int .i64 0] 39)) := ((bel_alloc _).trans (Below.mono hb1 (by simp))).trans (Below.mono (bel_alloc _) (by have := hb1.size; simp at this; omega))
  have HF1 := Lib.hid hf1
  have HB1 := Lib.hid hb1'
  clear hb1 hb1' hf1
  go_upto_region 2 with fail
  rw [← hr1]
  clear hr1
  generalize w1.alloc (.cells #[.int .i64 0, .int .i64 0] 39) = w2 at HF1 HB1 ⊢
  go_wp2_with fail
  refine (decode_live _).mono ?_
  rintro e w3 ⟨r, c, rfl, ho3, hb3⟩
  have hlt1 := HF1.out.lt
  have hL3 : ∀ wx, Below w3.heap.size w3 wx → Lst wx .u32 (some ⟨r, 0, none⟩) [1052] := fun wx hx => lst_own ho3 hx
  have hB3 := HB1.out.trans (Below.mono hb3 HB1.out.size)
  have hf13 := HF1.out.below hb3
  obtain ⟨r2, hr2⟩ : ∃ r, r = w3.heap.size := ⟨_, rfl⟩
  have hba : Below w3.heap.size w3 (w3.alloc (.cells #[.int .i64 0, .int .i64 0] 39)) := bel_alloc _
  have hf2 : FailAt (w3.alloc (.cells #[.int .i64 0, .int .i64 0] 39)) r2 := by rw [hr2]; exact FailAt.new _
  have HF2 := Lib.hid hf2
  have HF12 := Lib.hid (hf13.below hba)
  have HL2 := Lib.hid (show ∀ wx, Below (w3.alloc (.cells #[.int .i64 0, .int .i64 0] 39)).heap.size (w3.alloc (.cells #[.int .i64 0, .int .i64 0] 39)) wx → Lst wx .u32 (some ⟨r, 0, none⟩) [1052] from fun wx hx => hL3 wx (hba.trans (Below.mono hx hba.size)))
  have HB2 := Lib.hid (hB3.trans (Below.mono hba hB3.size))
  clear hlt1 hL3 hB3 hf13 hba hf2 ho3 hb3 HF1 HB1
  go_upto_region 3 with fail
  rw [← hr2]
  clear hr2
  generalize w3.alloc (.cells #[.int .i64 0, .int .i64 0] 39) = w4 at HF2 HF12 HL2 HB2 ⊢
  go_wp2_with fail
  refine (HTx.out _).mono ?_
  rintro e w5 ⟨rfl, hb5⟩
  have hB5 := HB2.out.trans (Below.mono hb5 HB2.out.size)
  have hf15 := HF12.out.below hb5
  have hf25 := HF2.out.below hb5
  obtain ⟨r3, hr3⟩ : ∃ r, r = w5.heap.size := ⟨_, rfl⟩
  have hba : Below w5.heap.size w5 (w5.alloc (.cells #[.int .i64 0, .int .i64 0] 39)) := bel_alloc _
  have hf3 : FailAt (w5.alloc (.cells #[.int .i64 0, .int .i64 0] 39)) r3 := by rw [hr3]; exact FailAt.new _
  have HF3 := Lib.hid hf3
  have HF13 := Lib.hid (hf15.below hba)
  have HF23 := Lib.hid (hf25.below hba)
  have HL3 := Lib.hid (show ∀ wx, Below (w5.alloc (.cells #[.int .i64 0, .int .i64 0] 39)).heap.size (w5.alloc (.cells #[.int .i64 0, .int .i64 0] 39)) wx → Lst wx .u32 (some ⟨r, 0, none⟩) [1052] from fun wx hx => HL2.out wx (hb5.trans (Below.mono (hba.trans (Below.mono hx hba.size)) hb5.size)))
  have HB3 := Lib.hid (hB5.trans (Below.mono hba hB5.size))
  clear hB5 hf15 hf25 hba hf3 hb5 HF2 HF12 HL2 HB2
  go_upto_region 4 with fail
  rw [← hr3]
  clear hr3
  generalize w5.alloc (.cells #[.int .i64 0, .int .i64 0] 39) = w6 at HF3 HF13 HF23 HL3 HB3 ⊢
  go_wp2_with fail
  refine (HPk.out _ _ lst_one).mono ?_
  rintro e w7 ⟨⟨s, rfl, hs⟩, hb7⟩
  have hb7 := (bel_alloc _).trans (Below.mono hb7 (by simp))
  have hB7 := HB3.out.trans (Below.mono hb7 HB3.out.size)
  have hf17 := HF13.out.below hb7
  have hf27 := HF23.out.below hb7
  have hf37 := HF3.out.below hb7
  obtain ⟨r4, hr4⟩ : ∃ r, r = w7.heap.size := ⟨_, rfl⟩
  have hba : Below w7.heap.size w7 (w7.alloc (.cells #[.int .i64 0, .int .i64 0] 39)) := bel_alloc _
  have hf4 : FailAt (w7.alloc (.cells #[.int .i64 0, .int .i64 0] 39)) r4 := by rw [hr4]; exact FailAt.new _
  have HF4 := Lib.hid hf4
  have HF14 := Lib.hid (hf17.below hba)
  have HF24 := Lib.hid (hf27.below hba)
  have HF34 := Lib.hid (hf37.below hba)
  have HL4 := Lib.hid (show ∀ wx, Below (w7.alloc (.cells #[.int .i64 0, .int .i64 0] 39)).heap.size (w7.alloc (.cells #[.int .i64 0, .int .i64 0] 39)) wx → Lst wx .u32 (some ⟨r, 0, none⟩) [1052] from fun wx hx => HL3.out wx (hb7.trans (Below.mono (hba.trans (Below.mono hx hba.size)) hb7.size)))
  have HB4 := Lib.hid (hB7.trans (Below.mono hba hB7.size))
  clear hB7 hf17 hf27 hf37 hba hf4 hb7 HF3 HF13 HF23 HL3 HB3
  go_upto_region 5 with fail
  rw [← hr4]
  clear hr4
  generalize w7.alloc (.cells #[.int .i64 0, .int .i64 0] 39) = w8 at HF4 HF14 HF24 HF34 HL4 HB4 ⊢
  have c10 := HF14.out.c0
  have c11 := HF14.out.c1
  have c20 := HF24.out.c0
  have c21 := HF24.out.c1
  have c30 := HF34.out.c0
  have c31 := HF34.out.c1
  have c40 := HF4.out.c0
  have c41 := HF4.out.c1
  have hfe := fail_eq w8
  go_wp2_with fail
  have hba : Below w8.heap.size w8 (w8.alloc (.cells #[.int .u32 1052] 31)) := bel_alloc _
  refine (same_calls (xs := [1052]) (ys := [1052]) (c := c) (d := 1) (HL4.out _ hba) (lst_one _ (Below.refl _ _)) (by decide) (by decide)).mono ?_
  rintro e w9 ⟨rfl, hd⟩
  have hb9 : Below w8.heap.size w8 w9 := hba.trans (hd.below _)
  have k20 := (HF24.out.below hb9).c0
  have k21 := (HF24.out.below hb9).c1
  have k30 := (HF34.out.below hb9).c0
  have k31 := (HF34.out.below hb9).c1
  have k40 := (HF4.out.below hb9).c0
  have k41 := (HF4.out.below hb9).c1
  have hfe := fail_eq w9
  have HB9 := Lib.hid (HB4.out.trans (Below.mono hb9 HB4.out.size))
  have hsz : ((s.size : Int) == 53) = true := by rw [hs]; rfl
  rw [show decide (([1052] : List Int) = [1052]) = true from rfl]
  clear c10 c11 c20 c21 c30 c31 c40 c41 hb9 hd hba HB4 HL4 HF4 HF14 HF24 HF34
  go_wp2_with fail
  have htl := tally_live w9.heap.size (w9.alloc (.cells #[.int .u32 65] 31)) (by rw [cell_of (heap_alloc_new _ _)]; rfl)
  unfold tallyV at htl
  refine htl.mono ?_
  rintro e w10 ⟨rfl, hb10⟩
  have HB10 := Lib.hid (HB9.out.trans (Below.mono ((bel_alloc _).trans (Below.mono hb10 (by simp))) HB9.out.size))
  clear hb10 htl
  have hf4 := fld4 w10
  go_wp2_with fail
  go_ret
  exact ⟨rfl, HB10.out⟩
end Go.Proofs.YtooiooledeblmaaGreat.Dcd
end
section
namespace Go.Proofs.YtooiooledeblmaaGreat.Dcd
open Go.RowKit Go.Proofs.YtooiooledeblmaaGreat.Win Go.Proofs.YtooiooledeblmaaGreat.Stp Go.Proofs.YtooiooledeblmaaGreat.Out Go.Proofs.YtooiooledeblmaaGreat.Lst
set_option linter.unusedVariables false
set_option linter.unusedSimpArgs false
theorem take_succ' {l : List Int} {k : Nat} (h : k < l.length) : l.take (k + 1) = l.take k ++ [l.getD k 0] := by
  rw [List.take_succ_eq_append_getElem h, List.getD_eq_getElem?_getD, List.getElem?_eq_getElem h]; rfl
def isS (c : Int) : Bool := !(decide (55296 ≤ c) && decide (c ≤ 57343)) && decide (c ≤ 1114111)
theorem isS_iff {c : Int} : isS c = true ↔ ¬ (55296 ≤ c ∧ c ≤ 57343) ∧ c ≤ 1114111 := by
  unfold isS
  simp
  omega
theorem ris_calls (c : Int) (w : World) : Calls Tryz.prog 40 #[.int .u32 c] w fun e w' => e = .returned (.bool (isS c)) ∧ w = w' := by
  by_cases h1 : 55296 ≤ c
  · by_cases h2 : c ≤ 57343
    · have e : isS c = false := by rw [← Bool.not_eq_true, isS_iff]; omega
      rw [e]
      clear e
      go_enter Tryz.func40, Tryz.ntmps40
      go_wp2
      go_ret
      exact ⟨rfl, rfl⟩
    · have e : isS c = decide (c ≤ 1114111) := by rw [Bool.eq_iff_iff, isS_iff]; simp; omega
      rw [e]
      clear e
      go_enter Tryz.func40, Tryz.ntmps40
      go_wp2
      go_ret
      exact ⟨rfl, rfl⟩
  · have e : isS c = true := by rw [isS_iff]; omega
    have h3 : c ≤ 1114111 := by omega
    rw [e]
    clear e
    go_enter Tryz.func40, Tryz.ntmps40
    go_wp2
    go_ret
    exact ⟨rfl, rfl⟩
def FirstPost (w : World) (l : List Int) (e : Ending) (w' : World) : Prop := ∃ r : Int, e = .returned (.int .i64 r) ∧ ((r = -1 ∧ ∀ x ∈ l, isS x = true) ∨ 0 ≤ r) ∧ Drew w w'
def FirstRel (w : World) (l : List Int) (i : Value) (wr : World) : Prop := ∃ k : Nat, k ≤ l.length ∧ i = .int .i64 k ∧ Drew w wr ∧ ∀ x ∈ l.take k, isS x = true
theorem rfirst_calls {w : World} {A : Option Addr} {c : Nat} {l : List Int} (h : Lst w .u32 A l) (hl : l.length ≤ 1000000) : Calls Tryz.prog 21 #[.slice A l.length c] w (FirstPost w l) := by
  have H := Lib.hid h
  clear h
  go_enter Tryz.func21, Tryz.ntmps21
  go_wp2_with fail
  go_loopw [3] (fun i wr => FirstRel w l i wr) (fun i _ => l.length - (intOf i).toNat)
  case atStart => exact ⟨0, Nat.zero_le _, rfl, Drew.refl _, fun x hx => by cases hx⟩
  case round =>
    obtain ⟨k, hk, rfl, hd, ha⟩ := hrel
    have HD := Lib.hid hd
    have HAl := Lib.hid ha
    clear hd ha
    by_cases hlt : k < l.length
    · obtain ⟨a, rfl, q⟩ := (Lst.drew H.out HD.out) k hlt
      have htk := take_succ' hlt
      generalize l.getD k 0 = x at q htk
      have HTK := Lib.hid htk
      have hisx := ris_calls x
      clear htk
      cases hx : isS x with
      | true =>
        have HX := Lib.hid hx
        rw [hx] at hisx
        have HIS := Lib.hid hisx
        clear hx hisx
        go_wp2_with (go_at_call 40; refine (HIS.out _).mono ?_; rintro e w1 ⟨rfl, rfl⟩)
        go_roundw
        case rel =>
          refine ⟨k + 1, hlt, by go_num, HD.out, fun y hy => ?_⟩
          rw [HTK.out] at hy
          rcases List.mem_append.1 hy with hy | hy
          · exact HAl.out y hy
          · rw [List.mem_singleton.1 hy]; exact HX.out
        case measure => simp [intOf]; omega
      | false =>
        rw [hx] at hisx
        have HIS := Lib.hid hisx
        clear hx hisx
        go_wp2_with (go_at_call 40; refine (HIS.out _).mono ?_; rintro e w1 ⟨rfl, rfl⟩)
        go_ret
        exact ⟨k, rfl, .inr (by omega), HD.out⟩
    · obtain rfl : k = l.length := by omega
      go_wp2_with fail
      go_ret
      exact ⟨-1, rfl, .inl ⟨rfl, by have := HAl.out; rw [List.take_length] at this; exact this⟩, HD.out⟩
theorem isB_isS {c : Int} (h0 : 0 ≤ c) (h : isS c = true) : isB c = true := by
  rw [isS_iff] at h
  unfold isB
  simp
  omega
/-- Whether a scalar was worked off counts for the mark alone. -/
def SmallPost (w : World) (l : List Int) (most : Int) (e : Ending) (w' : World) : Prop := (∃ b : Bool, e = .returned (.bool b) ∧ (b = true → (l.length : Int) ≤ most ∧ Scal l)) ∧ Below w.heap.size w w'
theorem small_great {w : World} {A : Option Addr} {n c : Nat} {most : Int} (h : most < n) : Calls Tryz.prog 9 #[.slice A n c, .int .i64 most] w fun e w' => e = .returned (.bool false) ∧ w = w' := by
  go_enter Tryz.func9, Tryz.ntmps9
  go_wp2_with fail
  go_ret
  exact ⟨rfl, rfl⟩
theorem small_calls {w : World} {A : Option Addr} {c : Nat} {l : List Int} {most : Int} (hL : Lst w .u32 A l) (h0 : ∀ x ∈ l, 0 ≤ x) (hl : l.length ≤ 1000000) : Calls Tryz.prog 9 #[.slice A l.length c, .int .i64 most] w (SmallPost w l most) := by
  by_cases hm : (l.length : Int) ≤ most
  · have HF := Lib.hid (rfirst_calls (c := c) hL hl)
    have H0 := Lib.hid h0
    clear hL h0
    go_enter Tryz.func9, Tryz.ntmps9
    go_wp2_with fail
    refine HF.out.mono ?_
    rintro e w1 ⟨r, rfl, hr, hd⟩
    have HD := Lib.hid hd
    clear hd
    rcases hr with ⟨rfl, hall⟩ | hr
    · have HA := Lib.hid hall
      clear hall
      go_wp2_with fail
      go_ret
      exact ⟨⟨true, rfl, fun _ => ⟨hm, fun x hx => ⟨H0.out x hx, isB_isS (H0.out x hx) (HA.out x hx)⟩⟩⟩, HD.out.below _⟩
    · have hr' : decide (r < 0) = false := by simp; omega
      go_wp2_with fail
      go_ret
      exact ⟨⟨false, by rw [← hr']; rfl, fun h => by cases h⟩, HD.out.below _⟩
  · refine (small_great (A := A) (c := c) (w := w) (show most < (l.length : Int) by omega)).mono ?_
    rintro e w' ⟨rfl, rfl⟩
    exact ⟨⟨false, rfl, fun h => by cases h⟩, Below.refl _ _⟩
def EncLPost (w : World) (S : List Int) (e : Ending) (w' : World) : Prop := e = .returned (.tuple #[.string (strOfNums S), .bool true]) ∧ Below w.heap.size w w'
set_option maxRecDepth 100000 in
set_option maxHeartbeats 4000000 in
theorem lenc_calls {c : Int} {enc : List Int → List Int} {M : Nat} (hE : EncOK c enc M) {w : World} {A : Option Addr} {cap : Nat} {l : List Int} (hL : Lst w .u32 A l) (hs : Scal l) (hl : l.length ≤ M) (hnil : A = none → cap = 0) :
    Calls Tryz.prog 10 #[.int .i64 c, .slice A l.length cap] w (EncLPost w (enc l)) := by
  have htop := hE.top
  have HE := Lib.hid hE
  have HS := Lib.hid hs
  have HN := Lib.hid hnil
  have HL := Lib.hid (show Lst (w.alloc (.cells #[] 31)) .u32 A l from hL.below (bel_alloc _))
  have HO := Lib.hid (World.ownsRow_lit (base := w.heap.size) (e := 31) (size := 1) w #[] 0 (Nat.le_refl _) (by decide) rfl)
  clear hE hs hnil hL
  go_enter Tryz.func10, Tryz.ntmps10
  go_wp2_with (at_builtin; refine app_lst rfl rfl _ _ rfl w.heap.size _ [] rfl HO.out _ _ l rfl HL.out HN.out (by simp; omega) (by simp) ?_; intro A' c' w1 h1 h2 h3; rw [List.nil_append] at h1; rw [List.nil_append]; have H1 := Lib.hid h1; have H3 := Lib.hid h3; have HB1 := Lib.hid (show Below w.heap.size w w1 from (bel_alloc (w := w) (.cells #[] 31)).grown h2 (by simp) (fun k hk => Nat.le_of_eq (Option.some.inj (show some w.heap.size = some k from hk)))); clear h1 h2 h3)
  refine (HE.out.calls (A := A') (cap := c') (fun wx hx => (Lst.of_owns H1.out).below hx) HS.out hl (own_le H1.out) H3.out).mono ?_
  rintro e w2 ⟨rfl, hb2⟩
  obtain ⟨S, hS⟩ : ∃ S, S = strOfNums (enc l) := ⟨_, rfl⟩
  have HSe := Lib.hid hS
  rw [← hS]
  have HB2 := Lib.hid (HB1.out.trans (Below.mono hb2 HB1.out.size))
  clear hS hb2
  go_upto_region 2 with fail
  have hf := FailAt.new w2
  have c0 := hf.c0
  have c1 := hf.c1
  have HB3 := Lib.hid (HB2.out.trans (Below.mono (bel_alloc (w := w2) (.cells #[.int .i64 0, .int .i64 0] 39)) HB2.out.size))
  clear hf
  generalize w2.alloc (.cells #[.int .i64 0, .int .i64 0] 39) = w3 at c0 c1 HB3 ⊢
  have hfe := fail_eq w3.drew
  go_quiet (fail)
  go_wp2_with fail
  go_ret2
  exact ⟨by rw [HSe.out]; rfl, below_drewN HB3.out _⟩
end Go.Proofs.YtooiooledeblmaaGreat.Dcd
end
section
namespace Go.Proofs.YtooiooledeblmaaGreat.Dcd
open Go.RowKit Go.Proofs.YtooiooledeblmaaGreat.Win Go.Proofs.YtooiooledeblmaaGreat.Stp Go.Proofs.YtooiooledeblmaaGreat.Out Go.Proofs.YtooiooledeblmaaGreat.Lst
set_option linter.unusedVariables false
set_option linter.unusedSimpArgs false
theorem told_app {R : Type} (B : R → Int → List Int) (N : R → Int → R) : ∀ (xs ys : List Int) (r : R), told B N r (xs ++ ys) = told B N r xs ++ told B N (foldN N r xs) ys
  | [], ys, r => rfl
  | x :: xs, ys, r => by
    simp only [told, foldN, List.cons_append]
    rw [told_app B N xs ys, List.append_assoc]
end Go.Proofs.YtooiooledeblmaaGreat.Dcd
end
section
namespace Go.Proofs.YtooiooledeblmaaGreat.Dcd
open Go.RowKit Go.Proofs.YtooiooledeblmaaGreat.Win Go.Proofs.YtooiooledeblmaaGreat.Stp Go.Proofs.YtooiooledeblmaaGreat.Out Go.Proofs.YtooiooledeblmaaGreat.Lst Go.Proofs.YtooiooledeblmaaGreat.Dec
set_option linter.unusedVariables false
set_option linter.unusedSimpArgs false
theorem small_any {w : World} {A : Option Addr} {c : Nat} {l : List Int} {most : Int} (hm : most ≤ 1000000) (hL : Lst w .u32 A l) (h0 : ∀ x ∈ l, 0 ≤ x) : Calls Tryz.prog 9 #[.slice A l.length c, .int .i64 most] w (SmallPost w l most) := by
  by_cases hl : l.length ≤ 1000000
  · exact small_calls hL h0 hl
  · refine (small_great (A := A) (c := c) (w := w) (show most < (l.length : Int) by omega)).mono ?_
    rintro e w' ⟨rfl, rfl⟩
    exact ⟨⟨false, rfl, fun h => by cases h⟩, Below.refl _ _⟩
end Go.Proofs.YtooiooledeblmaaGreat.Dcd
end
section
set_option linter.unusedVariables false
namespace Go.Proofs.YtooiooledeblmaaGreat.Open
open Go.ChangeShapes Go.WideShapes Go.RowKit Go.Proofs.YtooiooledeblmaaGreatW.PrintWords
section
variable {H : Type} {enc : TypeId × Value → H} {P : Program} {W : World} {base : Nat} {spare : Nat → Bool} {held : Bool}
theorem arg_nil {t e : TypeId} (ht : P.underlying t = some (.slice e)) {a : Option Addr} {len cap : Nat} {y : DataW H} {ps : List MemPlace} (h : DataW.Trod enc P W base spare held t (.slice a len cap) y ps) : a = none → cap = 0 := by
  obtain ⟨fuel, hf⟩ := h
  rcases Deep.open_slice ht hf with ⟨hcs, _⟩ | ⟨x, l, c, m, n, D, Pl, hcs, _⟩
  · simp [Value.cells] at hcs
    exact fun _ => hcs.2.2
  · simp [Value.cells] at hcs
    intro h
    rw [h] at hcs
    cases hcs.1
end
end Go.Proofs.YtooiooledeblmaaGreat.Open
namespace Go.Proofs.YtooiooledeblmaaGreat.Dcd
open Go.RowKit Go.Proofs.YtooiooledeblmaaGreat.Win Go.Proofs.YtooiooledeblmaaGreat.Stp Go.Proofs.YtooiooledeblmaaGreat.Out Go.Proofs.YtooiooledeblmaaGreat.Lst Go.Proofs.YtooiooledeblmaaGreatW.PrintWords
theorem lst_arg {w : World} {k : IntKind} {A : Option Addr} {n : Nat} {l : List Int} (h : (Kd.int k).C w A n l) : Lst w k A l := fun j hj => by
  obtain ⟨h1, h2, h3⟩ := h
  obtain ⟨ad, rfl, hc⟩ := h3 (by omega)
  obtain ⟨c, hl, hK, hcell⟩ := hc j _ (List.getElem?_eq_getElem hj)
  refine ⟨ad, rfl, ?_⟩
  have hs : (Kd.int k).sz = 1 := rfl
  rw [hs] at hcell
  have hc1 : c = [.int k l[j]] := hK
  subst hc1
  have := hcell 0 _ rfl
  rw [Nat.mul_one, Nat.add_zero] at this
  rw [this, List.getD_eq_getElem?_getD, List.getElem?_eq_getElem hj]
  rfl
theorem u32_pos {l : List Int} (hg : ∀ x ∈ l, (Lit.int .u32 x).wf = true) : ∀ x ∈ l, 0 ≤ x := by
  intro x hx
  have := hg x hx
  simp [Lit.wf, IntKind.min, IntKind.max, IntKind.signed, IntKind.bits] at this
  omega
end Go.Proofs.YtooiooledeblmaaGreat.Dcd
end
section
namespace Go.Proofs.YtooiooledeblmaaGreat.Dcd
open Go.RowKit Go.Proofs.YtooiooledeblmaaGreat.Win Go.Proofs.YtooiooledeblmaaGreat.Stp Go.Proofs.YtooiooledeblmaaGreat.Out Go.Proofs.YtooiooledeblmaaGreat.Lst Go.Proofs.YtooiooledeblmaaGreatW.PrintMore
set_option linter.unusedVariables false
set_option linter.unusedSimpArgs false
attribute [local go_sem] max2_int min2_int max_two min_two
theorem sumB_add {enc : List Int → List Int} (ha : ∀ xs ys, enc (xs ++ ys) = enc xs ++ enc ys) (n : Nat) (l : List Int) : ∀ k, sumB (fun x => (enc x).length) n l k = 13 * k + (enc (l.take (k * n))).length
  | 0 => by
    have h0 : (enc []).length = 0 := by
      have := congrArg List.length (ha [] [])
      rw [List.append_nil, List.length_append] at this
      omega
    simp [sumB, h0]
  | k + 1 => by
    rw [sumB_succ, sumB_add ha n l k]
    have : l.take ((k + 1) * n) = l.take (k * n) ++ (l.drop (k * n)).take n := by rw [Nat.add_mul, Nat.one_mul, List.take_add]
    rw [this, ha, List.length_append]
    omega
theorem there_calls (c : Int) (w : World) : Calls Tryz.prog 13 #[.int .i64 c] w fun e w' => e = .returned (.bool (decide (1 ≤ c) && decide (c ≤ 10))) ∧ w = w' := by
  by_cases h1 : 1 ≤ c
  · rw [decide_eq_true h1]
    go_enter Tryz.func13, Tryz.ntmps13
    go_wp2_with fail
    go_ret
    exact ⟨rfl, rfl⟩
  · rw [decide_eq_false h1]
    go_enter Tryz.func13, Tryz.ntmps13
    go_wp2_with fail
    go_ret
    exact ⟨rfl, rfl⟩
theorem k_le {k n L : Nat} (h : k * n < L + n) (hn : 1 ≤ n) : k ≤ L := by
  apply Classical.byContradiction
  intro hk
  have h1 : (L + 1) * n ≤ k * n := Nat.mul_le_mul_right n (by omega)
  have h2 : L ≤ L * n := Nat.le_mul_of_pos_right L hn
  rw [Nat.add_mul, Nat.one_mul] at h1
  omega
/-- What is asked of the codecs. -/
structure Codecs (F : Int → List Int → List Int) : Prop where
  ok : ∀ c, 1 ≤ c → c ≤ 10 → EncOK c (F c) 60
  add : ∀ c, 1 ≤ c → c ≤ 6 → ∀ xs ys, F c (xs ++ ys) = F c xs ++ F c ys
def FramesOut (w : World) (e : Ending) (w' : World) : Prop := e = .returned (.bool true) ∧ Below w.heap.size w w'
set_option maxRecDepth 100000 in
set_option maxHeartbeats 16000000 in
theorem frames_main {F : Int → List Int → List Int} (hF : Codecs F) {w : World} {A : Option Addr} {cap n : Nat} {c : Int} {l : List Int} (h : Lst w .u32 A l) (h0 : ∀ x ∈ l, 0 ≤ x) (hcap : l.length ≤ cap) (hnil : A = none → cap = 0) (hc1 : 1 ≤ c) (hc2 : c ≤ 10) (hn1 : 1 ≤ n) (hn2 : n ≤ 65536) :
    Calls Tryz.prog 7 #[.int .i64 c, .int .i64 n, .slice A l.length cap] w (FramesOut w) := by
  have hth := there_calls c
  rw [decide_eq_true hc1, decide_eq_true hc2] at hth
  have HTh := Lib.hid hth
  have HOK := Lib.hid (hF.ok c hc1 hc2)
  have HAd := Lib.hid (hF.add c hc1)
  obtain ⟨enc, henc⟩ : ∃ enc, enc = F c := ⟨_, rfl⟩
  rw [← henc] at HOK HAd
  have H := Lib.hid h
  have H0 := Lib.hid h0
  have HN := Lib.hid hnil
  clear hth henc hF h h0 hnil
  go_enter Tryz.func7, Tryz.ntmps7
  go_wp2_with fail
  refine (live_calls _).mono ?_
  rintro e w1 ⟨rfl, hb1⟩
  have HB1 := Lib.hid hb1
  have HL1 := Lib.hid (H.out.below hb1)
  clear hb1
  go_wp2_with fail
  refine (HTh.out _).mono ?_
  rintro e w2 ⟨rfl, rfl⟩
  go_wp2_with fail
  refine (small_any (by decide) HL1.out H0.out).mono ?_
  rintro e w2 ⟨⟨b, rfl, hb⟩, hb2⟩
  have HB2 := Lib.hid (HB1.out.trans (Below.mono hb2 HB1.out.size))
  cases b with
  | false =>
    clear hb hb2
    go_wp2_with fail
    refine (live_calls _).mono ?_
    rintro e w3 ⟨rfl, hb3⟩
    have HB3 := Lib.hid (HB2.out.trans (Below.mono hb3 HB2.out.size))
    clear hb3
    go_wp2_with fail
    go_ret
    exact ⟨rfl, HB3.out⟩
  | true =>
    obtain ⟨hlen, hs⟩ := hb rfl
    have HS := Lib.hid hs
    have HL2 := Lib.hid (HL1.out.below hb2)
    have HLa := Lib.hid (show Lst (w2.alloc (.cells #[] 31)) .u32 A l from HL2.out.below (bel_alloc _))
    have HO := Lib.hid (World.ownsRow_lit (base := w2.heap.size) (e := 31) (size := 1) w2 #[] 0 (Nat.le_refl _) (by decide) rfl)
    clear hb hb2 hs
    go_wp2_with (at_builtin; refine app_lst rfl rfl _ _ rfl w2.heap.size _ [] rfl HO.out _ _ l rfl HLa.out HN.out (by simp; omega) (by simp) ?_; intro A' c' w3 h1 h2 h3; rw [List.nil_append] at h1; rw [List.nil_append]; have H1 := Lib.hid h1; have H3 := Lib.hid h3; have HB3 := Lib.hid (show Below w2.heap.size w2 w3 from (bel_alloc (w := w2) (.cells #[] 31)).grown h2 (by simp) (fun k hk => Nat.le_of_eq (Option.some.inj (show some w2.heap.size = some k from hk)))); clear h1 h2 h3)
    refine (pack_calls HOK.out (n := n) (cap := c') (fun wx hx => (Lst.of_owns H1.out).below hx) HS.out (by omega) H3.out hn1 hn2).mono ?_
    rintro e w4 ⟨⟨s, rfl, hsz⟩, hb4⟩
    obtain ⟨r, hr⟩ : ∃ r, r = w4.heap.size := ⟨_, rfl⟩
    have hba : Below w4.heap.size w4 (w4.alloc (.cells #[.int .i64 0, .int .i64 0] 39)) := bel_alloc _
    have hf5 : FailAt (w4.alloc (.cells #[.int .i64 0, .int .i64 0] 39)) r := by rw [hr]; exact FailAt.new _
    have hb24 : Below w2.heap.size w2 w4 := HB3.out.trans (Below.mono hb4 HB3.out.size)
    have hb25 : Below w2.heap.size w2 (w4.alloc (.cells #[.int .i64 0, .int .i64 0] 39)) := hb24.trans (Below.mono hba hb24.size)
    have HF5 := Lib.hid hf5
    have HL5 := Lib.hid (HL2.out.below hb25)
    have HB5 := Lib.hid (HB2.out.trans (Below.mono hb25 HB2.out.size))
    have HSz := Lib.hid hsz
    have hl60 : l.length ≤ 60 := by omega
    clear hba hf5 hb24 hb25 hb4 hsz HLa HO H1 H3 HB3 HL1 HL2 HB1 HB2
    go_upto_region 4 with fail
    rw [← hr]
    clear hr
    generalize w4.alloc (.cells #[.int .i64 0, .int .i64 0] 39) = w5 at HF5 HL5 HB5 ⊢
    go_wp2_with fail
    go_loopw [9, 10, 11] (fun v9 v10 v11 wr => ∃ k : Nat, k * n < l.length + n ∧ v11 = .int .i64 ((k * n : Nat) : Int) ∧ v10 = .int .i64 (k : Int) ∧ v9 = .int .i64 ((39 + sumB (fun x => (enc x).length) n l k : Nat) : Int) ∧ Below w5.heap.size w5 wr) (fun _ _ v _ => l.length + n - (intOf v).toNat)
    case atStart => exact ⟨0, by omega, by simp, rfl, rfl, Below.refl _ _⟩
    case round =>
      obtain ⟨k, hk, rfl, rfl, rfl, hbw⟩ := hrel
      have HBw := Lib.hid hbw
      have hkn := sumB_len HOK.out n HS.out hl60 k
      obtain ⟨i, hi⟩ : ∃ i, i = k * n := ⟨_, rfl⟩
      obtain ⟨q, hq⟩ : ∃ q, q = 39 + sumB (fun x => (enc x).length) n l k := ⟨_, rfl⟩
      have HI := Lib.hid hi
      have HQ := Lib.hid hq
      have hkl : k ≤ 60 := by have := k_le hk hn1; omega
      rw [← hi] at hk
      rw [← hi, ← hq]
      clear hi
      by_cases hlt : i < l.length
      · have hq2 : q ≤ 1000000 := by omega
        obtain ⟨m, hm⟩ : ∃ m, m = min n (l.length - i) := ⟨_, rfl⟩
        have hlm : ((l.drop i).take n).length = m := by rw [List.length_take, List.length_drop, hm]
        have hm1 : m ≤ l.length - i ∧ m ≤ n ∧ (m = n ∨ m = l.length - i) := by omega
        have hms : (if (l.length : Int) < (i : Int) + n then (l.length : Int) else (i : Int) + n) = ((i + m : Nat) : Int) := by split <;> omega
        obtain ⟨a, rfl, _⟩ := (HL5.out.below hbw) i hlt
        have hen := lenc_calls HOK.out (A := some (a.add i)) (cap := cap - i) (l := (l.drop i).take n) ((Lst.drop (HL5.out.below hbw) i).take n) ((HS.out.drop i).take n) (by omega) (fun h => nomatch h)
        rw [hlm] at hen
        have hel := HOK.out.len ((l.drop i).take n) ((HS.out.drop i).take n) (by omega)
        obtain ⟨G, hG⟩ : ∃ G, G = strOfNums (enc ((l.drop i).take n)) := ⟨_, rfl⟩
        unfold EncLPost at hen
        rw [← hG] at hen
        have hGs : G.size = (enc ((l.drop i).take n)).length := by rw [hG, str_size]
        have HEn := Lib.hid hen
        have HGs := Lib.hid hGs
        have hG8 : G.size ≤ 8000 := by omega
        have HMs := Lib.hid hms
        clear hkn hq hbw hlm hen hel hG hGs hm hms
        have hcase : (m = n ∧ i + n < l.length) ∨ (m = l.length - i ∧ l.length ≤ i + n) := by omega
        have hq' : q + (13 + G.size) = 39 + sumB (fun x => (enc x).length) n l (k + 1) := by rw [HQ.out, HGs.out, HI.out, sumB_succ]; omega
        have hi' : (k + 1) * n = i + n := by rw [HI.out, Nat.add_mul, Nat.one_mul]
        have HQ' := Lib.hid hq'
        have HI' := Lib.hid hi'
        clear hq' hi' HMs hm1
        rcases hcase with ⟨hmn, hc3⟩ | ⟨hmn, hc3⟩
        · obtain rfl : n = m := hmn.symm
          have hi3 : (i : Int) + (n : Int) < (l.length : Int) := by omega
          have htn : ((i : Int) + (n : Int)).toNat = i + n := by omega
          go_wp2_with fail
          refine HEn.out.mono ?_
          rintro e w6 ⟨rfl, hb6⟩
          have HB6 := Lib.hid (HBw.out.trans (Below.mono hb6 HBw.out.size))
          clear hb6
          go_wp2_with fail
          go_roundw
          case rel => exact ⟨k + 1, by rw [HI'.out]; omega, by rw [HI'.out]; go_num, by go_num, by rw [← HQ'.out]; go_num, HB6.out⟩
          case measure => simp [intOf]; omega
        · subst hmn
          have hi3 : (l.length : Int) ≤ (i : Int) + (n : Int) := by omega
          have htn : ((i : Int) + (n : Int)).toNat = i + n := by omega
          go_wp2_with fail
          refine HEn.out.mono ?_
          rintro e w6 ⟨rfl, hb6⟩
          have HB6 := Lib.hid (HBw.out.trans (Below.mono hb6 HBw.out.size))
          clear hb6
          go_wp2_with fail
          go_roundw
          case rel => exact ⟨k + 1, by rw [HI'.out]; omega, by rw [HI'.out]; go_num, by go_num, by rw [← HQ'.out]; go_num, HB6.out⟩
          case measure => simp [intOf]; omega
      · have hK : (l.length + n - 1) / n = k := by
          have e1 : l.length + n - 1 = (l.length + n - 1 - i) + n * k := by
            have : n * k = i := by rw [HI.out, Nat.mul_comm]
            omega
          rw [e1, Nat.add_mul_div_left _ _ (by omega), Nat.div_eq_of_lt (by omega), Nat.zero_add]
        have hen := lenc_calls HOK.out (HL5.out.below hbw) HS.out hl60 HN.out
        have hel := HOK.out.len l HS.out hl60
        obtain ⟨G, hG⟩ : ∃ G, G = strOfNums (enc l) := ⟨_, rfl⟩
        unfold EncLPost at hen
        rw [← hG] at hen
        have hGs : G.size = (enc l).length := by rw [hG, str_size]
        have hpk : s.size = q := by rw [HSz.out, HQ.out]; unfold packLen; rw [hK]
        have hsp : c ≤ 6 → s.size = 39 + 13 * k + G.size := by
          intro h6
          rw [hpk, HQ.out, sumB_add (HAd.out h6), List.take_of_length_le (by rw [← HI.out]; omega), hGs]
          omega
        have HEn := Lib.hid hen
        have HSp := Lib.hid hsp
        have HPk := Lib.hid hpk
        have hf6 := HF5.out.below hbw
        have HF6 := Lib.hid hf6
        have hq2 : q ≤ 1000000 := by omega
        have hG8 : G.size ≤ 8000 := by omega
        have hk61 : k ≤ 200000 := by omega
        have HBq := hbw
        clear hkn hq hen hel hG hGs hK hsp hpk hf6 hbw
        have HBq := Lib.hid HBq
        go_wp2_with fail
        refine HEn.out.mono ?_
        rintro e w6 ⟨rfl, hb6⟩
        have hf7 := HF6.out.below hb6
        have c0 := hf7.c0
        have c1 := hf7.c1
        have hfe := fail_eq w6
        have HB6 := Lib.hid (HB5.out.trans (Below.mono (HBq.out.trans (Below.mono hb6 HBq.out.size)) HB5.out.size))
        clear hb6 hf7
        have hsq : ((s.size : Int) == (q : Int)) = true := by rw [HPk.out]; simp
        by_cases h6 : c ≤ 6
        · have hsp := HSp.out h6
          have hsp2 : ((s.size : Int) == 39 + 13 * (k : Int) + (G.size : Int)) = true := by rw [hsp]; simp
          clear hsp
          go_wp2_with fail
          go_ret
          exact ⟨rfl, HB6.out⟩
        · go_wp2_with fail
          go_ret
          exact ⟨rfl, HB6.out⟩
/-- No such codec, or no such size: what the document fixes is asked. -/
theorem frames_not {w : World} {A : Option Addr} {cap : Nat} {c n : Int} {l : List Int} (h : Lst w .u32 A l) (h0 : ∀ x ∈ l, 0 ≤ x) (hx : ¬ (1 ≤ c ∧ c ≤ 10) ∨ ¬ (1 ≤ n ∧ n ≤ 65536)) :
    Calls Tryz.prog 7 #[.int .i64 c, .int .i64 n, .slice A l.length cap] w (FramesOut w) := by
  have H := Lib.hid h
  have H0 := Lib.hid h0
  have HTh := Lib.hid (there_calls c)
  clear h h0
  by_cases hc : 1 ≤ c ∧ c ≤ 10
  · have hn : ¬ (1 ≤ n ∧ n ≤ 65536) := by
      rcases hx with hx | hx
      · exact absurd hc hx
      · exact hx
    have hth := HTh.out
    rw [decide_eq_true hc.1, decide_eq_true hc.2] at hth
    have HTh := Lib.hid hth
    have hn' : (decide (n < 1) || decide (65536 < n)) = true := by rw [Bool.eq_iff_iff]; simp; omega
    clear hth hx hn
    by_cases h1 : n < 1
    all_goals
      go_enter Tryz.func7, Tryz.ntmps7
      go_wp2_with fail
      refine (live_calls _).mono ?_
      rintro e w1 ⟨rfl, hb1⟩
      have HB1 := Lib.hid hb1
      have HL1 := Lib.hid (H.out.below hb1)
      clear hb1
      go_wp2_with fail
      refine (HTh.out _).mono ?_
      rintro e w2 ⟨rfl, rfl⟩
      go_wp2_with fail
      refine (small_any (by decide) HL1.out H0.out).mono ?_
      rintro e w2 ⟨⟨b, rfl, hb⟩, hb2⟩
      have HB2 := Lib.hid (HB1.out.trans (Below.mono hb2 HB1.out.size))
      clear hb hb2
      cases b
      all_goals
        go_wp2_with fail
        refine (live_calls _).mono ?_
        rintro e w3 ⟨rfl, hb3⟩
        have HB3 := Lib.hid (HB2.out.trans (Below.mono hb3 HB2.out.size))
        clear hb3
        go_wp2_with fail
        go_ret
        exact ⟨rfl, HB3.out⟩
  · have hth := HTh.out
    have hf : (decide (1 ≤ c) && decide (c ≤ 10)) = false := by rw [← Bool.not_eq_true, Bool.and_eq_true, decide_eq_true_eq, decide_eq_true_eq]; exact hc
    rw [hf] at hth
    have HTh := Lib.hid hth
    clear hth hf hx hc
    go_enter Tryz.func7, Tryz.ntmps7
    go_wp2_with fail
    refine (live_calls _).mono ?_
    rintro e w1 ⟨rfl, hb1⟩
    have HB1 := Lib.hid hb1
    clear hb1
    go_wp2_with fail
    refine (HTh.out _).mono ?_
    rintro e w2 ⟨rfl, rfl⟩
    go_wp2_with fail
    refine (live_calls _).mono ?_
    rintro e w3 ⟨rfl, hb3⟩
    have HB3 := Lib.hid (HB1.out.trans (Below.mono hb3 HB1.out.size))
    clear hb3
    go_wp2_with fail
    go_ret
    exact ⟨rfl, HB3.out⟩
theorem frames_law {F : Int → List Int → List Int} (hF : Codecs F) {w : World} {A : Option Addr} {cap : Nat} {c n : Int} {l : List Int} (h : Lst w .u32 A l) (h0 : ∀ x ∈ l, 0 ≤ x) (hcap : l.length ≤ cap) (hnil : A = none → cap = 0) :
    Calls Tryz.prog 7 #[.int .i64 c, .int .i64 n, .slice A l.length cap] w (FramesOut w) := by
  by_cases hc : 1 ≤ c ∧ c ≤ 10
  · by_cases hn : 1 ≤ n ∧ n ≤ 65536
    · obtain ⟨k, rfl⟩ := Int.eq_ofNat_of_zero_le (show 0 ≤ n by omega)
      exact frames_main hF h h0 hcap hnil hc.1 hc.2 (by omega) (by omega)
    · exact frames_not h h0 (.inr hn)
  · exact frames_not h h0 (.inl hc)
end Go.Proofs.YtooiooledeblmaaGreat.Dcd
end
section
namespace Go.Proofs.YtooiooledeblmaaGreat.QBp
open Go.RowKit Go.Proofs.YtooiooledeblmaaGreatW.PrintWords Go.Proofs.YtooiooledeblmaaGreatW.PrintLast Go.Proofs.YtooiooledeblmaaGreatW.PrintMore
attribute [local go_sem] max2_int min2_int max_two min_two max_three min_three max_four min_four   -- for this text's walks alone
set_option linter.unusedVariables false
set_option linter.unusedSimpArgs false



def errW : Option Int → Value
  | none => .nilIface
  | some c => .iface 0 (.int .i64 c)
theorem errW_none : errW none = .nilIface := rfl
theorem errW_some (c : Int) : errW (some c) = .iface 0 (.int .i64 c) := rfl

theorem info5 : (Tryz.prog.info? 5).map (fun i => (i.zero, i.size, i.bytes)) = some (some (.int .u8 0), 1, 1) := by kernel_rfl
-- the values' own types

end Go.Proofs.YtooiooledeblmaaGreat.QBp
end
section
namespace Go.Proofs.YtooiooledeblmaaGreat.QBp
open Go.RowKit Go.Proofs.YtooiooledeblmaaGreatW.PrintWords Go.Proofs.YtooiooledeblmaaGreatW.PrintLast Go.Proofs.YtooiooledeblmaaGreatW.PrintMore
attribute [local go_sem] max2_int min2_int max_two min_two max_three min_three max_four min_four   -- for this text's walks alone
set_option linter.unusedVariables false
set_option linter.unusedSimpArgs false

def bias_small.f (a0 : Int) : Option (Int) := some (mn (mx a0 0) 1000)
set_option maxHeartbeats 8000000 in
set_option maxRecDepth 100000 in
theorem bias_small.calls (a0 : Int) (r : Int) (w : World) (h : bias_small.f a0 = some r) :
    Calls Tryz.prog 183 #[.int .i64 a0] w fun e w' => e = .returned (.int .i64 r) ∧ Below w.heap.size w w' := by
  have HB := Aside0.mk (Below.refl w.heap.size w)
  have H : (some (mn (mx a0 0) 1000)) = some r := h
  clear h
  obtain ⟨ji2, hji2⟩ : ∃ j_ : Int, (mx a0 0) = j_ := ⟨_, rfl⟩
  replace H : (some (mn (ji2) 1000)) = some r := by first | (rw [hji2] at H; exact H) | (simp only [hji2] at H ⊢; exact H)
  (try (have hji2l : 0 ≤ ji2 := by (rw [← hji2]; unfold mx; (repeat' split) <;> omega)))
  (try (have hji2m : 0 ≤ ji2 := by omega))
  have hji2_ : (if a0 < 0 then 0 else a0) = ji2 := hji2
  obtain ⟨ji3, hji3⟩ : ∃ j_ : Int, (mn (ji2) 1000) = j_ := ⟨_, rfl⟩
  replace H : (some ji3) = some r := by first | (rw [hji3] at H; exact H) | (simp only [hji3] at H ⊢; exact H)
  have hji3_ : (if 1000 < (ji2) then 1000 else (ji2)) = ji3 := hji3
  obtain rfl := Option.some.inj H
  go_enter Tryz.func183, Tryz.ntmps183
  go_wp2
  go_ret
  exact ⟨by first | rfl | (simp [errW_none, errW_some] <;> rfl) | (simp only [← hji2, ← hji3]; first | rfl | (simp [errW_none, errW_some] <;> rfl)) | (simp [*, errW_none, errW_some] <;> rfl), by repeat (first | (with_reducible first | exact HB.out | apply below_alloc | apply pw_below_drewN | apply below_drew1) | exact HB.out)⟩

def bias_Threshold.f (a0 : Int) (a1 : Int) : Option (Int) := (bias_small.f a0).bind fun t101 => ((bias_small.f a1).bind fun t102 => (some (mn (mx (wrap64 ((wrap64 (36 * (wrap64 (t101 + 1)))) - t102)) 1) 26)))
set_option maxHeartbeats 8000000 in
set_option maxRecDepth 100000 in
theorem bias_Threshold.calls (a0 : Int) (a1 : Int) (r : Int) (w : World) (h : bias_Threshold.f a0 a1 = some r) :
    Calls Tryz.prog 170 #[.int .i64 a0, .int .i64 a1] w fun e w' => e = .returned (.int .i64 r) ∧ Below w.heap.size w w' := by
  have HB := Aside0.mk (Below.refl w.heap.size w)
  have H : ((bias_small.f a0).bind fun t101 => ((bias_small.f a1).bind fun t102 => (some (mn (mx (wrap64 ((wrap64 (36 * (wrap64 (t101 + 1)))) - t102)) 1) 26)))) = some r := h
  clear h
  replace H := Option.bind_eq_some_iff.mp H
  obtain ⟨t101, A30, H⟩ := H
  replace H : ((bias_small.f a1).bind fun t102 => (some (mn (mx (wrap64 ((wrap64 (36 * (wrap64 (t101 + 1)))) - t102)) 1) 26))) = some r := H
  have A3 := Aside0.mk A30
  clear A30
  replace H := Option.bind_eq_some_iff.mp H
  obtain ⟨t102, A40, H⟩ := H
  replace H : (some (mn (mx (wrap64 ((wrap64 (36 * (wrap64 (t101 + 1)))) - t102)) 1) 26)) = some r := H
  have A4 := Aside0.mk A40
  clear A40
  obtain ⟨ji5, hji5⟩ : ∃ j_ : Int, (mx (wrap64 ((wrap64 (36 * (wrap64 (t101 + 1)))) - t102)) 1) = j_ := ⟨_, rfl⟩
  replace H : (some (mn (ji5) 26)) = some r := by first | (rw [hji5] at H; exact H) | (simp only [hji5] at H ⊢; exact H)
  (try rw [hji5] at A3)
  (try rw [hji5] at A4)
  (try (have hji5l : 1 ≤ ji5 := by (rw [← hji5]; unfold mx; (repeat' split) <;> omega)))
  (try (have hji5m : 0 ≤ ji5 := by omega))
  have hji5_ : (if (wrap64 ((wrap64 (36 * (wrap64 (t101 + 1)))) - t102)) < 1 then 1 else (wrap64 ((wrap64 (36 * (wrap64 (t101 + 1)))) - t102))) = ji5 := hji5
  obtain ⟨ji6, hji6⟩ : ∃ j_ : Int, (mn (ji5) 26) = j_ := ⟨_, rfl⟩
  replace H : (some ji6) = some r := by first | (rw [hji6] at H; exact H) | (simp only [hji6] at H ⊢; exact H)
  (try rw [hji6] at A3)
  (try rw [hji6] at A4)
  have hji6_ : (if 26 < (ji5) then 26 else (ji5)) = ji6 := hji6
  obtain rfl := Option.some.inj H
  go_enter Tryz.func170, Tryz.ntmps170
  go_wp2_with (first | ((with_reducible refine gate_callee (f := 183) rfl ?_); refine goesL_ (some 6) rfl rfl Tryz.func183 (by kernel_rfl) rfl #[.int .i64 a0] rfl (by (try simp only [List.map_toArray, List.map_cons, List.map_nil]); first | done | rfl | (simp only [List.length_drop, List.length_take]; rfl)) ?_; (with_reducible refine (bias_small.calls a0 t101 _ A3.out).mono ?_); rintro e w7 ⟨rfl, hb⟩; refine ⟨_, rfl, ?_⟩; have n0_ := Aside0.mk (below_step (by repeat (first | (with_reducible first | exact HB.out | apply below_alloc | apply pw_below_drewN | apply below_drew1) | exact HB.out)) hb); clear HB; have HB := n0_; clear n0_; (try clear hb); (try clear hb2); (try clear hk); (try clear hi)) | ((with_reducible refine gate_callee (f := 183) rfl ?_); refine goesL_ (some 10) rfl rfl Tryz.func183 (by kernel_rfl) rfl #[.int .i64 a1] rfl (by (try simp only [List.map_toArray, List.map_cons, List.map_nil]); first | done | rfl | (simp only [List.length_drop, List.length_take]; rfl)) ?_; (with_reducible refine (bias_small.calls a1 t102 _ A4.out).mono ?_); rintro e w8 ⟨rfl, hb⟩; refine ⟨_, rfl, ?_⟩; have n0_ := Aside0.mk (below_step (by repeat (first | (with_reducible first | exact HB.out | apply below_alloc | apply pw_below_drewN | apply below_drew1) | exact HB.out)) hb); clear HB; have HB := n0_; clear n0_; (try clear hb); (try clear hb2); (try clear hk); (try clear hi)))
  go_ret
  exact ⟨by first | rfl | (simp [errW_none, errW_some] <;> rfl) | (simp only [← hji5, ← hji6]; first | rfl | (simp [errW_none, errW_some] <;> rfl)) | (simp [*, errW_none, errW_some] <;> rfl), by repeat (first | (with_reducible first | exact HB.out | apply below_alloc | apply pw_below_drewN | apply below_drew1) | exact HB.out)⟩

def bias_Letter.j0 : Nat → Int → Bool → Option (Int × Bool)
  | 0, _, _ => none
  | k + 1, x0, x4 => if x4 = true then (some (0, false)) else (if x0 < 26 then (some ((97 + ((x0) % 256)) % 256, true)) else (some ((48 + ((wrap64 (x0 - 26)) % 256)) % 256, true)))
def bias_Letter.f (k : Nat) (a0 : Int) : Option (Int × Bool) := if a0 < 0 then (bias_Letter.j0 k a0 true) else (bias_Letter.j0 k a0 (decide (a0 ≥ 36)))
theorem bias_Letter.mono_l : ∀ k, (∀ y0 y1, LeO (bias_Letter.j0 k y0 y1) (bias_Letter.j0 (k + 1) y0 y1))
  | 0 => fun _ _ r h => by simp [bias_Letter.j0] at h
  | k + 1 => by
    have ih0 := bias_Letter.mono_l k
    · intro y0 y1
      unfold bias_Letter.j0
      repeat' first
      | (with_reducible exact ih0 _ _)
      | (with_reducible exact LeO.refl _)
      | (with_reducible exact LeO.none _)
      | (with_reducible refine LeO.ite ?_ ?_)
      | (with_reducible refine LeO.bind ?_ (fun _ => ?_))
      | exact ih0 _ _
      | exact LeO.none _
      | refine LeO.ite ?_ ?_
      | refine LeO.bind ?_ (fun _ => ?_)
theorem bias_Letter.mono : ∀ a0 k, LeO (bias_Letter.f k a0) (bias_Letter.f (k + 1) a0) := by
  intro a0 k
  have ih0 := bias_Letter.mono_l k
  unfold bias_Letter.f
  repeat' first
      | (with_reducible exact ih0 _ _)
      | (with_reducible exact LeO.refl _)
      | (with_reducible exact LeO.none _)
      | (with_reducible refine LeO.ite ?_ ?_)
      | (with_reducible refine LeO.bind ?_ (fun _ => ?_))
      | exact ih0 _ _
      | exact LeO.none _
      | refine LeO.ite ?_ ?_
      | refine LeO.bind ?_ (fun _ => ?_)
set_option maxHeartbeats 8000000 in
set_option maxRecDepth 100000 in
theorem bias_Letter.calls (k : Nat) (a0 : Int) (r1 : Int) (r2 : Bool) (w : World) (h : bias_Letter.f k a0 = some (r1, r2)) :
    Calls Tryz.prog 171 #[.int .i64 a0] w fun e w' => e = .returned (.tuple #[.int .u8 r1, .bool r2]) ∧ Drawn0 w w' := by
  have H : (if a0 < 0 then (bias_Letter.j0 k a0 true) else (bias_Letter.j0 k a0 (decide (a0 ≥ 36)))) = some (r1, r2) := h
  clear h
  have HC2 := Aside0.mk H
  clear H
  go_enter Tryz.func171, Tryz.ntmps171
  go_upto_region 1 with (fail)
  go_cut [4] (fun v4 wc => ∃ (kq : Nat) (x4_1 : Bool), v4 = .bool x4_1 ∧ Aside0 (bias_Letter.j0 kq a0 x4_1 = some (r1, r2)) ∧ Aside0 (kq ≤ k) ∧ Drawn0 w wc)
  case first =>
    have H := HC2.out
    clear HC2
    by_cases c3 : a0 < 0
    · rw [if_pos c3] at H
      have c3b0 : decide (a0 < 0) = true := decide_eq_true c3
      clear c3
      (first | rw [c3b0] | (simp only [i64_w, i32_w]; rw [c3b0]) | skip)
      have H' := Aside0.mk H
      clear H
      go_wp2
      go_meet
      case rel => exact ⟨_, (true), (by first | rfl | (simp; done) | (simp [*]; done)), H', ⟨by first | omega | exact Nat.le_refl _⟩, by repeat (first | exact Drawn0.refl _ | apply Drawn0.step)⟩
    · rw [if_neg c3] at H
      have c3b0 : decide (a0 < 0) = false := decide_eq_false c3
      clear c3
      (first | rw [c3b0] | (simp only [i64_w, i32_w]; rw [c3b0]) | skip)
      have H' := Aside0.mk H
      clear H
      go_wp2
      go_meet
      case rel => exact ⟨_, (decide (a0 ≥ 36)), (by first | rfl | (simp; done) | (simp [*]; done)), H', ⟨by first | omega | exact Nat.le_refl _⟩, by repeat (first | exact Drawn0.refl _ | apply Drawn0.step)⟩
  case rest =>
    clear HC2
    try clear c1
    try clear p2
    try clear c3
    try clear c3b0
    obtain ⟨kq, x4_1, rfl, HA, HJ1, ⟨mc1, rfl⟩⟩ := hcut
    cases kq with
    | zero => exact absurd HA.out (by simp [bias_Letter.j0])
    | succ kj1 =>
      have H := HA.out
      clear HA
      simp only [bias_Letter.j0] at H
      by_cases c4 : x4_1 = true
      · subst c4
        have H1 : (some (0, false)) = some (r1, r2) := by rw [if_pos rfl] at H; exact H
        clear H
        have H := H1
        clear H1
        simp only [Option.some.injEq, Prod.mk.injEq] at H
        obtain ⟨rfl, rfl⟩ := H
        go_wp2
        go_ret2
        exact ⟨by first | rfl | (simp; done) | (simp [*]; done), by repeat (first | exact Drawn0.refl _ | apply Drawn0.step)⟩
      · replace c4 := Bool.eq_false_iff.mpr c4
        subst c4
        have H1 : (if a0 < 26 then (some ((97 + ((a0) % 256)) % 256, true)) else (some ((48 + ((wrap64 (a0 - 26)) % 256)) % 256, true))) = some (r1, r2) := by rw [if_neg (show ¬ (false = true) by decide)] at H; exact H
        clear H
        have H := H1
        clear H1
        by_cases c5 : a0 < 26
        · rw [if_pos c5] at H
          have c5b0 : decide (a0 < 26) = true := decide_eq_true c5
          clear c5
          simp only [Option.some.injEq, Prod.mk.injEq] at H
          obtain ⟨rfl, rfl⟩ := H
          go_wp2
          go_ret2
          exact ⟨by first | rfl | (simp; done) | (simp [*]; done), by repeat (first | exact Drawn0.refl _ | apply Drawn0.step)⟩
        · rw [if_neg c5] at H
          have c5b0 : decide (a0 < 26) = false := decide_eq_false c5
          clear c5
          simp only [Option.some.injEq, Prod.mk.injEq] at H
          obtain ⟨rfl, rfl⟩ := H
          go_wp2
          go_ret2
          exact ⟨by first | rfl | (simp; done) | (simp [*]; done), by repeat (first | exact Drawn0.refl _ | apply Drawn0.step)⟩

def bias_Put.l0 : Nat → Int → Int → List Int → Int → Option (ByteArray)
  | 0, _, _, _, _ => none
  | k + 1, x0, x1, x5, x6 => (bias_Threshold.f x6 x1).bind fun t103 => (if x0 < (IntKind.u64.wrap (t103)) then ((bias_Letter.f k (wrap64 (x0))).bind fun bt104 => (if x5.length < 140737488355328 then (some (strOfNums (x5 ++ [bt104.1]))) else (none))) else (if (IntKind.u64.wrap (36 - (IntKind.u64.wrap (t103)))) = 0 then (none) else ((bias_Letter.f k (wrap64 (IntKind.u64.wrap ((IntKind.u64.wrap (t103)) + (Int.tmod (IntKind.u64.wrap (x0 - (IntKind.u64.wrap (t103)))) (IntKind.u64.wrap (36 - (IntKind.u64.wrap (t103))))))))).bind fun bt109 => (if x5.length < 140737488355328 then (bias_Put.l0 k (IntKind.u64.wrap (Int.tdiv (IntKind.u64.wrap (x0 - (IntKind.u64.wrap (t103)))) (IntKind.u64.wrap (36 - (IntKind.u64.wrap (t103)))))) x1 (x5 ++ [bt109.1]) (wrap64 (x6 + 1))) else (none)))))
def bias_Put.f (k : Nat) (a0 : Int) (a1 : Int) : Option (ByteArray) := bias_Put.l0 k a0 a1 ([] : List Int) 0
theorem bias_Put.mono_l : ∀ k, (∀ y0 y1 y2 y3, LeO (bias_Put.l0 k y0 y1 y2 y3) (bias_Put.l0 (k + 1) y0 y1 y2 y3))
  | 0 => fun _ _ _ _ r h => by simp [bias_Put.l0] at h
  | k + 1 => by
    have ih0 := bias_Put.mono_l k
    · intro y0 y1 y2 y3
      unfold bias_Put.l0
      repeat' first
      | (with_reducible exact ih0 _ _ _ _)
      | (with_reducible exact bias_Letter.mono _ _)
      | (with_reducible exact LeO.refl _)
      | (with_reducible exact LeO.none _)
      | (with_reducible refine LeO.ite ?_ ?_)
      | (with_reducible refine LeO.bind ?_ (fun _ => ?_))
      | exact ih0 _ _ _ _
      | exact bias_Letter.mono _ _
      | exact LeO.none _
      | refine LeO.ite ?_ ?_
      | refine LeO.bind ?_ (fun _ => ?_)
theorem bias_Put.mono : ∀ a0 a1 k, LeO (bias_Put.f k a0 a1) (bias_Put.f (k + 1) a0 a1) := by
  intro a0 a1 k
  have ih0 := bias_Put.mono_l k
  unfold bias_Put.f
  repeat' first
      | (with_reducible exact ih0 _ _ _ _)
      | (with_reducible exact bias_Letter.mono _ _)
      | (with_reducible exact LeO.refl _)
      | (with_reducible exact LeO.none _)
      | (with_reducible refine LeO.ite ?_ ?_)
      | (with_reducible refine LeO.bind ?_ (fun _ => ?_))
      | exact ih0 _ _ _ _
      | exact bias_Letter.mono _ _
      | exact LeO.none _
      | refine LeO.ite ?_ ?_
      | refine LeO.bind ?_ (fun _ => ?_)
set_option maxHeartbeats 8000000 in
set_option maxRecDepth 100000 in
theorem bias_Put.calls (k : Nat) (a0 : Int) (a1 : Int) (r : ByteArray) (w : World) (h : bias_Put.f k a0 a1 = some r) :
    Calls Tryz.prog 166 #[.int .u64 a0, .int .i64 a1] w fun e w' => e = .returned (.string r) ∧ Below w.heap.size w w' := by
  have HB := Aside0.mk (Below.refl w.heap.size w)
  have H : (bias_Put.l0 k a0 a1 ([] : List Int) 0) = some r := h
  clear h
  have H' := Aside0.mk H
  clear H
  go_enter Tryz.func166, Tryz.ntmps166
  go_wp2
  go_loopg [0, 5, 6] k (fun kq v0 v5 v6 w' => ∃ (x0_1 : Int) (x5_1 : List Int) (x6_1 : Int), v0 = .int .u64 x0_1 ∧ v6 = .int .i64 x6_1 ∧ Aside0 (bias_Put.l0 kq x0_1 a1 x5_1 x6_1 = some r) ∧ Aside0 (kq ≤ k) ∧ Aside0 (Kd.R (Kd.int .u8) 5 w' w.heap.size (fun _ => True) v5 x5_1) ∧ Aside0 (Below w.heap.size w w'))
  case atStart => exact ⟨(a0), (([] : List Int)), (0), (by first | rfl | (simp; done) | (simp [*]; done)), (by first | rfl | (simp; done) | (simp [*]; done)), H', ⟨Nat.le_refl _⟩, ⟨by first | exact Kd.R_nil _ _ _ _ _ | exact Kd.N_nil _ _ _ _ _ | exact Kd.V_nil _ _ _ _ _ | exact Kd.Q_nil _ _ _ _ _ | exact Kd.S_nil _ _ _ _ _⟩, ⟨by repeat (first | (with_reducible first | exact HB.out | apply below_alloc | apply pw_below_drewN | apply below_drew1) | exact HB.out)⟩⟩
  case round =>
    clear H'
    try clear c1
    try clear p2
    obtain ⟨x0_1, x5_1, x6_1, rfl, rfl, HA, HK1, HO_5, HB⟩ := hrel
    cases gk with
    | zero => exact absurd HA.out (by simp [bias_Put.l0])
    | succ k1 =>
      have H := HA.out
      clear HA
      simp only [bias_Put.l0] at H
      replace H := Option.bind_eq_some_iff.mp H
      obtain ⟨t103, A30, H⟩ := H
      replace H : (if x0_1 < (IntKind.u64.wrap (t103)) then ((bias_Letter.f k1 (wrap64 (x0_1))).bind fun bt104 => (if x5_1.length < 140737488355328 then (some (strOfNums (x5_1 ++ [bt104.1]))) else (none))) else (if (IntKind.u64.wrap (36 - (IntKind.u64.wrap (t103)))) = 0 then (none) else ((bias_Letter.f k1 (wrap64 (IntKind.u64.wrap ((IntKind.u64.wrap (t103)) + (Int.tmod (IntKind.u64.wrap (x0_1 - (IntKind.u64.wrap (t103)))) (IntKind.u64.wrap (36 - (IntKind.u64.wrap (t103))))))))).bind fun bt109 => (if x5_1.length < 140737488355328 then (bias_Put.l0 k1 (IntKind.u64.wrap (Int.tdiv (IntKind.u64.wrap (x0_1 - (IntKind.u64.wrap (t103)))) (IntKind.u64.wrap (36 - (IntKind.u64.wrap (t103)))))) a1 (x5_1 ++ [bt109.1]) (wrap64 (x6_1 + 1))) else (none))))) = some r := H
      have A3 := Aside0.mk A30
      clear A30
      by_cases c4 : x0_1 < (IntKind.u64.wrap (t103))
      · rw [if_pos c4] at H
        have c4b0 : decide (x0_1 < (IntKind.u64.wrap (t103))) = true := decide_eq_true c4
        clear c4
        replace H := Option.bind_eq_some_iff.mp H
        obtain ⟨⟨t104, t105⟩, A50, H⟩ := H
        replace H : (if x5_1.length < 140737488355328 then (some (strOfNums (x5_1 ++ [t104]))) else (none)) = some r := H
        have A5 := Aside0.mk A50
        clear A50
        by_cases c6 : x5_1.length < 140737488355328
        · rw [if_pos c6] at H
          have LMc6 := Aside0.mk c6
          clear c6
          obtain ⟨y106, hy106⟩ : ∃ y_ : List Int, y_ = (x5_1 ++ [t104]) := ⟨_, rfl⟩
          replace H : (some (strOfNums y106)) = some r := by first | (rw [hy106]; with_reducible exact H) | (have H2_ := (Option.bind_some _ _).symm.trans H; rw [hy106]; with_reducible exact H2_) | (have H2_ := (Option.bind_some _ _).symm.trans H; with_reducible exact H2_) | with_reducible exact H | (rw [hy106]; exact H) | exact H
          have Ny106 := Aside0.mk hy106
          clear hy106
          obtain rfl := Option.some.inj H
          go_wp2_with (first | ((with_reducible refine gate_callee (f := 170) rfl ?_); refine goesL_ (some 16) rfl rfl Tryz.func170 (by kernel_rfl) rfl #[.int .i64 x6_1, .int .i64 a1] rfl (by (try simp only [List.map_toArray, List.map_cons, List.map_nil]); first | done | rfl | (simp only [List.length_drop, List.length_take]; rfl)) ?_; (with_reducible refine (bias_Threshold.calls x6_1 a1 t103 _ A3.out).mono ?_); rintro e w7 ⟨rfl, hb⟩; refine ⟨_, rfl, ?_⟩; have n0_ := Aside0.mk (Kd.R_below (by (with_reducible repeat (first | apply Kd.R_alloc | apply Kd.R_drewN | apply Kd.R_drew)); exact HO_5.out) hb); have n1_ := Aside0.mk (below_step (by repeat (first | (with_reducible first | exact HB.out | apply below_alloc | apply pw_below_drewN | apply below_drew1) | exact HB.out)) hb); clear HO_5; clear HB; have HO_5 := n0_; have HB := n1_; clear n0_ n1_; (try clear hb); (try clear hb2); (try clear hk); (try clear hi)) | ((with_reducible refine gate_callee (f := 171) rfl ?_); refine goesL_ (some 24) rfl rfl Tryz.func171 (by kernel_rfl) rfl #[.int .i64 (wrap64 (x0_1))] rfl (by (try simp only [List.map_toArray, List.map_cons, List.map_nil]); first | done | rfl | (simp only [List.length_drop, List.length_take]; rfl)) ?_; (with_reducible refine (bias_Letter.calls k1 (wrap64 (x0_1)) t104 t105 _ A5.out).mono ?_); rintro e w' ⟨rfl, ⟨nd, rfl⟩⟩; refine ⟨_, rfl, ?_⟩) | ((with_reducible refine gate_builtin (b := .append) (xs := #[.tmp 27, .tmp 29]) rfl ?_); at_builtin; refine Kd.R_append (Kd.int .u8) (w0 := w) w.heap.size rfl (.tmp 27) (.tmp 29) 68 5 (.int .u8 0) 1 rfl Tryz.underlying68 info5 rfl (by decide) (by omega) u5 x5_1 t104 [.int .u8 t104] (fun _ => True) (fun _ => False) rfl rfl ?aP (fun _ hk => hk.elim) ?aF ?aO ?aB ?aS ?aL ?_; (case aP => exact rfl); (case aB => exact (by repeat (first | (with_reducible first | exact HB.out | apply below_alloc | apply pw_below_drewN | apply below_drew1) | exact HB.out))); (case aF => exact (fun _ _ => trivial)); (case aO => exact (by (with_reducible repeat (first | apply Kd.R_alloc | apply Kd.R_drewN | apply Kd.R_drew)); exact HO_5.out)); (case aS => exact (below_size (by repeat (first | (with_reducible first | exact HB.out | apply below_alloc | apply pw_below_drewN | apply below_drew1) | exact HB.out)))); (case aL => have := LMc6.out; omega); intro v107 w8 ho hb hg hat; rw [← Ny106.out] at ho; have n0_ := Aside0.mk (hb); have n1_ := Aside0.mk (ho); clear HB; clear HO_5; have HB := n0_; have HO108 := n1_; clear n0_ n1_; clear ho hb hg hat; have hcv9 := own_string (P := Tryz.prog) Tryz.underlying68 Tryz.underlying5 Tryz.underlying9 (Kd.own_of_R HO108.out)))
          go_ret
          exact ⟨by first | rfl | (simp [errW_none, errW_some] <;> rfl) | (simp [*, errW_none, errW_some] <;> rfl), by repeat (first | (with_reducible first | exact HB.out | apply below_alloc | apply pw_below_drewN | apply below_drew1) | exact HB.out)⟩
        · rw [if_neg c6] at H
          exact absurd H (by simp)
      · rw [if_neg c4] at H
        have c4b0 : decide (x0_1 < (IntKind.u64.wrap (t103))) = false := decide_eq_false c4
        clear c4
        by_cases c10 : (IntKind.u64.wrap (36 - (IntKind.u64.wrap (t103)))) = 0
        · rw [if_pos c10] at H
          exact absurd H (by simp)
        · rw [if_neg c10] at H
          have c10b0 : ((IntKind.u64.wrap (36 - (IntKind.u64.wrap (t103)))) == 0) = false := beq_eq_false_iff_ne.mpr c10
          have c10b1 : ((IntKind.u64.wrap (36 - (IntKind.u64.wrap (t103)))) != 0) = true := bne_iff_ne.mpr c10
          replace H := Option.bind_eq_some_iff.mp H
          obtain ⟨⟨t109, t110⟩, A110, H⟩ := H
          replace H : (if x5_1.length < 140737488355328 then (bias_Put.l0 k1 (IntKind.u64.wrap (Int.tdiv (IntKind.u64.wrap (x0_1 - (IntKind.u64.wrap (t103)))) (IntKind.u64.wrap (36 - (IntKind.u64.wrap (t103)))))) a1 (x5_1 ++ [t109]) (wrap64 (x6_1 + 1))) else (none)) = some r := H
          have A11 := Aside0.mk A110
          clear A110
          by_cases c12 : x5_1.length < 140737488355328
          · rw [if_pos c12] at H
            have LMc12 := Aside0.mk c12
            clear c12
            obtain ⟨y111, hy111⟩ : ∃ y_ : List Int, y_ = (x5_1 ++ [t109]) := ⟨_, rfl⟩
            replace H : (bias_Put.l0 k1 (IntKind.u64.wrap (Int.tdiv (IntKind.u64.wrap (x0_1 - (IntKind.u64.wrap (t103)))) (IntKind.u64.wrap (36 - (IntKind.u64.wrap (t103)))))) a1 y111 (wrap64 (x6_1 + 1))) = some r := by first | (rw [hy111]; with_reducible exact H) | (have H2_ := (Option.bind_some _ _).symm.trans H; rw [hy111]; with_reducible exact H2_) | (have H2_ := (Option.bind_some _ _).symm.trans H; with_reducible exact H2_) | with_reducible exact H | (rw [hy111]; exact H) | exact H
            have Ny111 := Aside0.mk hy111
            clear hy111
            have H' := Aside0.mk H
            clear H
            go_wp2_with (first | ((with_reducible refine gate_callee (f := 170) rfl ?_); refine goesL_ (some 16) rfl rfl Tryz.func170 (by kernel_rfl) rfl #[.int .i64 x6_1, .int .i64 a1] rfl (by (try simp only [List.map_toArray, List.map_cons, List.map_nil]); first | done | rfl | (simp only [List.length_drop, List.length_take]; rfl)) ?_; (with_reducible refine (bias_Threshold.calls x6_1 a1 t103 _ A3.out).mono ?_); rintro e w13 ⟨rfl, hb⟩; refine ⟨_, rfl, ?_⟩; have n0_ := Aside0.mk (Kd.R_below (by (with_reducible repeat (first | apply Kd.R_alloc | apply Kd.R_drewN | apply Kd.R_drew)); exact HO_5.out) hb); have n1_ := Aside0.mk (below_step (by repeat (first | (with_reducible first | exact HB.out | apply below_alloc | apply pw_below_drewN | apply below_drew1) | exact HB.out)) hb); clear HO_5; clear HB; have HO_5 := n0_; have HB := n1_; clear n0_ n1_; (try clear hb); (try clear hb2); (try clear hk); (try clear hi)) | ((with_reducible refine gate_callee (f := 171) rfl ?_); refine goesL_ (some 42) rfl rfl Tryz.func171 (by kernel_rfl) rfl #[.int .i64 (wrap64 (IntKind.u64.wrap ((IntKind.u64.wrap (t103)) + (Int.tmod (IntKind.u64.wrap (x0_1 - (IntKind.u64.wrap (t103)))) (IntKind.u64.wrap (36 - (IntKind.u64.wrap (t103))))))))] rfl (by (try simp only [List.map_toArray, List.map_cons, List.map_nil]); first | done | rfl | (simp only [List.length_drop, List.length_take]; rfl)) ?_; (with_reducible refine (bias_Letter.calls k1 (wrap64 (IntKind.u64.wrap ((IntKind.u64.wrap (t103)) + (Int.tmod (IntKind.u64.wrap (x0_1 - (IntKind.u64.wrap (t103)))) (IntKind.u64.wrap (36 - (IntKind.u64.wrap (t103)))))))) t109 t110 _ A11.out).mono ?_); rintro e w' ⟨rfl, ⟨nd, rfl⟩⟩; refine ⟨_, rfl, ?_⟩) | ((with_reducible refine gate_builtin (b := .append) (xs := #[.tmp 45, .tmp 47]) rfl ?_); at_builtin; refine Kd.R_append (Kd.int .u8) (w0 := w) w.heap.size rfl (.tmp 45) (.tmp 47) 68 5 (.int .u8 0) 1 rfl Tryz.underlying68 info5 rfl (by decide) (by omega) u5 x5_1 t109 [.int .u8 t109] (fun _ => True) (fun _ => False) rfl rfl ?aP (fun _ hk => hk.elim) ?aF ?aO ?aB ?aS ?aL ?_; (case aP => exact rfl); (case aB => exact (by repeat (first | (with_reducible first | exact HB.out | apply below_alloc | apply pw_below_drewN | apply below_drew1) | exact HB.out))); (case aF => exact (fun _ _ => trivial)); (case aO => exact (by (with_reducible repeat (first | apply Kd.R_alloc | apply Kd.R_drewN | apply Kd.R_drew)); exact HO_5.out)); (case aS => exact (below_size (by repeat (first | (with_reducible first | exact HB.out | apply below_alloc | apply pw_below_drewN | apply below_drew1) | exact HB.out)))); (case aL => have := LMc12.out; omega); intro v112 w14 ho hb hg hat; rw [← Ny111.out] at ho; have n0_ := Aside0.mk (hb); have n1_ := Aside0.mk (ho); clear HB; clear HO_5; have HB := n0_; have HO113 := n1_; clear n0_ n1_; clear ho hb hg hat))
            go_roundg k1
            case measure => have := HK1.out; omega
            case rel => exact ⟨(IntKind.u64.wrap (Int.tdiv (IntKind.u64.wrap (x0_1 - (IntKind.u64.wrap (t103)))) (IntKind.u64.wrap (36 - (IntKind.u64.wrap (t103)))))), (y111), (wrap64 (x6_1 + 1)), (by first | rfl | (simp; done) | (simp [*]; done)), (by first | rfl | (simp; done) | (simp [*]; done)), H', ⟨by have := HK1.out; omega⟩, ⟨by (with_reducible repeat (first | apply Kd.R_alloc | apply Kd.R_drewN | apply Kd.R_drew)); exact HO113.out⟩, ⟨by repeat (first | (with_reducible first | exact HB.out | apply below_alloc | apply pw_below_drewN | apply below_drew1) | exact HB.out)⟩⟩
          · rw [if_neg c12] at H
            exact absurd H (by simp)

mutual
def bias_Adapt.j0 : Nat → Int → Int → Option (Int)
  | 0, _, _ => none
  | k + 1, x0, x1 => if (mx x1 1) = 0 then (none) else (bias_Adapt.l0 k (IntKind.u64.wrap (x0 + (IntKind.u64.wrap (Int.tdiv x0 (mx x1 1))))) 0)
def bias_Adapt.l0 : Nat → Int → Int → Option (Int)
  | 0, _, _ => none
  | k + 1, x0, x7 => if x0 > 455 then (bias_Adapt.l0 k (IntKind.u64.wrap (Int.tdiv x0 35)) (wrap64 (x7 + 36))) else (if (IntKind.u64.wrap (x0 + 38)) = 0 then (none) else (some (wrap64 (x7 + (wrap64 (IntKind.u64.wrap (Int.tdiv (IntKind.u64.wrap (36 * x0)) (IntKind.u64.wrap (x0 + 38)))))))))
end
def bias_Adapt.f (k : Nat) (a0 : Int) (a1 : Int) (a2 : Bool) : Option (Int) := if a2 = true then (bias_Adapt.j0 k (IntKind.u64.wrap (Int.tdiv a0 700)) a1) else (bias_Adapt.j0 k (IntKind.u64.wrap (Int.tdiv a0 2)) a1)
theorem bias_Adapt.mono_l : ∀ k, (∀ y0 y1, LeO (bias_Adapt.j0 k y0 y1) (bias_Adapt.j0 (k + 1) y0 y1)) ∧ (∀ y0 y1, LeO (bias_Adapt.l0 k y0 y1) (bias_Adapt.l0 (k + 1) y0 y1))
  | 0 => ⟨fun _ _ r h => by simp [bias_Adapt.j0] at h, fun _ _ r h => by simp [bias_Adapt.l0] at h⟩
  | k + 1 => by
    obtain ⟨ih0, ih1⟩ := bias_Adapt.mono_l k
    refine ⟨?_, ?_⟩
    · intro y0 y1
      unfold bias_Adapt.j0
      repeat' first
      | (with_reducible exact ih0 _ _)
      | (with_reducible exact ih1 _ _)
      | (with_reducible exact LeO.refl _)
      | (with_reducible exact LeO.none _)
      | (with_reducible refine LeO.ite ?_ ?_)
      | (with_reducible refine LeO.bind ?_ (fun _ => ?_))
      | exact ih0 _ _
      | exact ih1 _ _
      | exact LeO.none _
      | refine LeO.ite ?_ ?_
      | refine LeO.bind ?_ (fun _ => ?_)
    · intro y0 y1
      unfold bias_Adapt.l0
      repeat' first
      | (with_reducible exact ih0 _ _)
      | (with_reducible exact ih1 _ _)
      | (with_reducible exact LeO.refl _)
      | (with_reducible exact LeO.none _)
      | (with_reducible refine LeO.ite ?_ ?_)
      | (with_reducible refine LeO.bind ?_ (fun _ => ?_))
      | exact ih0 _ _
      | exact ih1 _ _
      | exact LeO.none _
      | refine LeO.ite ?_ ?_
      | refine LeO.bind ?_ (fun _ => ?_)
theorem bias_Adapt.mono : ∀ a0 a1 a2 k, LeO (bias_Adapt.f k a0 a1 a2) (bias_Adapt.f (k + 1) a0 a1 a2) := by
  intro a0 a1 a2 k
  obtain ⟨ih0, ih1⟩ := bias_Adapt.mono_l k
  unfold bias_Adapt.f
  repeat' first
      | (with_reducible exact ih0 _ _)
      | (with_reducible exact ih1 _ _)
      | (with_reducible exact LeO.refl _)
      | (with_reducible exact LeO.none _)
      | (with_reducible refine LeO.ite ?_ ?_)
      | (with_reducible refine LeO.bind ?_ (fun _ => ?_))
      | exact ih0 _ _
      | exact ih1 _ _
      | exact LeO.none _
      | refine LeO.ite ?_ ?_
      | refine LeO.bind ?_ (fun _ => ?_)
set_option maxHeartbeats 8000000 in
set_option maxRecDepth 100000 in
theorem bias_Adapt.calls (k : Nat) (a0 : Int) (a1 : Int) (a2 : Bool) (r : Int) (w : World) (h : bias_Adapt.f k a0 a1 a2 = some r) :
    Calls Tryz.prog 167 #[.int .u64 a0, .int .u64 a1, .bool a2] w fun e w' => e = .returned (.int .i64 r) ∧ Below w.heap.size w w' := by
  have HB := Aside0.mk (Below.refl w.heap.size w)
  have H : (if a2 = true then (bias_Adapt.j0 k (IntKind.u64.wrap (Int.tdiv a0 700)) a1) else (bias_Adapt.j0 k (IntKind.u64.wrap (Int.tdiv a0 2)) a1)) = some r := h
  clear h
  have HC4 := Aside0.mk H
  clear H
  go_enter Tryz.func167, Tryz.ntmps167
  go_upto_if 8 with (fail)
  go_cut [0] (fun v0 wc => ∃ (kq : Nat) (x0_3 : Int), v0 = .int .u64 x0_3 ∧ Aside0 (bias_Adapt.j0 kq x0_3 a1 = some r) ∧ Aside0 (kq ≤ k) ∧ Aside0 (Below w.heap.size w wc))
  case first =>
    have H := HC4.out
    clear HC4
    by_cases c5 : a2 = true
    · subst c5
      have H1 : (bias_Adapt.j0 k (IntKind.u64.wrap (Int.tdiv a0 700)) a1) = some r := by rw [if_pos rfl] at H; exact H
      clear H
      have H := H1
      clear H1
      have H' := Aside0.mk H
      clear H
      go_wp2
      go_meet
      case rel => exact ⟨_, (IntKind.u64.wrap (Int.tdiv a0 700)), (by first | rfl | (simp; done) | (simp [*]; done)), H', ⟨by first | omega | exact Nat.le_refl _⟩, ⟨by repeat (first | (with_reducible first | exact HB.out | apply below_alloc | apply pw_below_drewN | apply below_drew1) | exact HB.out)⟩⟩
    · replace c5 := Bool.eq_false_iff.mpr c5
      subst c5
      have H1 : (bias_Adapt.j0 k (IntKind.u64.wrap (Int.tdiv a0 2)) a1) = some r := by rw [if_neg (show ¬ (false = true) by decide)] at H; exact H
      clear H
      have H := H1
      clear H1
      have H' := Aside0.mk H
      clear H
      go_wp2
      go_meet
      case rel => exact ⟨_, (IntKind.u64.wrap (Int.tdiv a0 2)), (by first | rfl | (simp; done) | (simp [*]; done)), H', ⟨by first | omega | exact Nat.le_refl _⟩, ⟨by repeat (first | (with_reducible first | exact HB.out | apply below_alloc | apply pw_below_drewN | apply below_drew1) | exact HB.out)⟩⟩
  case rest =>
    clear HC4
    try clear c1
    try clear p2
    try clear c5
    obtain ⟨kq, x0_3, rfl, HA, HJ3, HB⟩ := hcut
    cases kq with
    | zero => exact absurd HA.out (by simp [bias_Adapt.j0])
    | succ kj3 =>
      have H := HA.out
      clear HA
      simp only [bias_Adapt.j0] at H
      obtain ⟨ji6, hji6⟩ : ∃ j_ : Int, (mx a1 1) = j_ := ⟨_, rfl⟩
      replace H : (if (ji6) = 0 then (none) else (bias_Adapt.l0 kj3 (IntKind.u64.wrap (x0_3 + (IntKind.u64.wrap (Int.tdiv x0_3 (ji6))))) 0)) = some r := by first | (rw [hji6] at H; exact H) | (simp only [hji6] at H ⊢; exact H)
      have hji6_ : (if a1 < 1 then 1 else a1) = ji6 := hji6
      by_cases c7 : (ji6) = 0
      · rw [if_pos c7] at H
        exact absurd H (by simp)
      · rw [if_neg c7] at H
        have c7b0 : ((ji6) == 0) = false := beq_eq_false_iff_ne.mpr c7
        have c7b1 : ((ji6) != 0) = true := bne_iff_ne.mpr c7
        have H' := Aside0.mk H
        clear H
        go_wp2
        go_loopg [0, 7] kj3 (fun kq v0 v7 w' => ∃ (x0_2 : Int) (x7_2 : Int), v0 = .int .u64 x0_2 ∧ v7 = .int .i64 x7_2 ∧ Aside0 (bias_Adapt.l0 kq x0_2 x7_2 = some r) ∧ Aside0 (kq ≤ kj3) ∧ Aside0 (Below w.heap.size w w'))
        case atStart => exact ⟨(IntKind.u64.wrap (x0_3 + (IntKind.u64.wrap (Int.tdiv x0_3 (ji6))))), (0), (by first | rfl | (simp; done) | (simp only [← hji6] <;> (first | rfl | simp)) | (simp [*]; done)), (by first | rfl | (simp; done) | (simp [*]; done)), H', ⟨Nat.le_refl _⟩, ⟨by repeat (first | (with_reducible first | exact HB.out | apply below_alloc | apply pw_below_drewN | apply below_drew1) | exact HB.out)⟩⟩
        case round =>
          clear H'
          try clear c1
          try clear p2
          try clear c5
          try clear c7
          try clear c7b0
          try clear c7b1
          try clear p2
          obtain ⟨x0_2, x7_2, rfl, rfl, HA, HK2, HB⟩ := hrel
          cases gk with
          | zero => exact absurd HA.out (by simp [bias_Adapt.l0])
          | succ k2 =>
            have H := HA.out
            clear HA
            simp only [bias_Adapt.l0] at H
            by_cases c8 : x0_2 > 455
            · rw [if_pos c8] at H
              have c8b0 : decide (455 < x0_2) = true := decide_eq_true c8
              clear c8
              have H' := Aside0.mk H
              clear H
              go_wp2
              go_roundg k2
              case measure => have := HJ3.out; have := HK2.out; omega
              case rel => exact ⟨(IntKind.u64.wrap (Int.tdiv x0_2 35)), (wrap64 (x7_2 + 36)), (by first | rfl | (simp; done) | (simp [*]; done)), (by first | rfl | (simp; done) | (simp [*]; done)), H', ⟨by have := HJ3.out; have := HK2.out; omega⟩, ⟨by repeat (first | (with_reducible first | exact HB.out | apply below_alloc | apply pw_below_drewN | apply below_drew1) | exact HB.out)⟩⟩
            · rw [if_neg c8] at H
              have c8b0 : decide (455 < x0_2) = false := decide_eq_false c8
              clear c8
              by_cases c9 : (IntKind.u64.wrap (x0_2 + 38)) = 0
              · rw [if_pos c9] at H
                exact absurd H (by simp)
              · rw [if_neg c9] at H
                have c9b0 : ((IntKind.u64.wrap (x0_2 + 38)) == 0) = false := beq_eq_false_iff_ne.mpr c9
                have c9b1 : ((IntKind.u64.wrap (x0_2 + 38)) != 0) = true := bne_iff_ne.mpr c9
                obtain rfl := Option.some.inj H
                go_wp2
                go_ret
                exact ⟨by first | rfl | (simp [errW_none, errW_some] <;> rfl) | (simp only [← hji6]; first | rfl | (simp [errW_none, errW_some] <;> rfl)) | (simp [*, errW_none, errW_some] <;> rfl), by repeat (first | (with_reducible first | exact HB.out | apply below_alloc | apply pw_below_drewN | apply below_drew1) | exact HB.out)⟩

end Go.Proofs.YtooiooledeblmaaGreat.QBp
end
section
namespace Go.Proofs.YtooiooledeblmaaGreat.Pun
open Go.RowKit Go.Proofs.YtooiooledeblmaaGreat.QBp Go.Proofs.YtooiooledeblmaaGreatW.PrintWords Go.Proofs.YtooiooledeblmaaGreatW.PrintMore
set_option linter.unusedVariables false
set_option linter.unusedSimpArgs false
theorem u64w {n : Int} (h0 : 0 ≤ n) (h1 : n ≤ 18446744073709551615) : IntKind.u64.wrap n = n := by rw [IntKind.wrap_u64]; omega
theorem i64w {n : Int} (h0 : -9223372036854775808 ≤ n) (h1 : n ≤ 9223372036854775807) : wrap64 n = n := by unfold wrap64; omega
def sm (n : Int) : Int := if n < 0 then 0 else if n > 1000 then 1000 else n
theorem sm_in (n : Int) : 0 ≤ sm n ∧ sm n ≤ 1000 := by unfold sm; (repeat' split) <;> omega
theorem small_f (n : Int) : bias_small.f n = some (sm n) := by
  unfold bias_small.f sm mn mx
  congr 1
  (repeat' split) <;> omega
/-- The threshold of a place. -/
def thr (p b : Int) : Int := if 36 * (sm p + 1) - sm b < 1 then 1 else if 36 * (sm p + 1) - sm b > 26 then 26 else 36 * (sm p + 1) - sm b
theorem thr_in (p b : Int) : 1 ≤ thr p b ∧ thr p b ≤ 26 := by unfold thr; (repeat' split) <;> omega
theorem thr_go (p b : Int) : bias_Threshold.f p b = some (thr p b) := by
  have h1 := sm_in p
  have h2 := sm_in b
  unfold bias_Threshold.f
  rw [small_f, small_f]
  simp only [Option.bind_some]
  rw [i64w (n := sm p + 1) (by omega) (by omega), i64w (n := 36 * (sm p + 1)) (by omega) (by omega), i64w (by omega) (by omega)]
  unfold thr mn mx
  congr 1
  (repeat' split) <;> omega
/-- The letter of a worth. -/
def let36 (d : Int) : Int := if d < 26 then 97 + d else d + 22
theorem letter_k (d : Int) (h0 : 0 ≤ d) (h1 : d < 36) (k : Nat) (hk : 60 ≤ k) : bias_Letter.f k d = some (let36 d, true) := by
  obtain ⟨k, rfl⟩ : ∃ m, k = m + 1 := ⟨k - 1, by omega⟩
  unfold bias_Letter.f let36
  rw [if_neg (by omega), decide_eq_false (by omega)]
  simp only [bias_Letter.j0]
  by_cases h : d < 26
  · simp only [h, if_true, if_false, Bool.false_eq_true]
    congr 2
    omega
  · simp only [h, if_true, if_false, Bool.false_eq_true]
    rw [i64w (n := d - 26) (by omega) (by omega)]
    congr 2
    omega
/-- A number's digits, from a place on. -/
def putD : Nat → Int → Int → Nat → List Int
  | 0, _, _, _ => []
  | m + 1, n, b, p => if n < thr p b then [let36 n] else let36 (thr p b + (n - thr p b) % (36 - thr p b)) :: putD m ((n - thr p b) / (36 - thr p b)) b (p + 1)
theorem putD_len (b : Int) : ∀ (m : Nat) (n : Int) (p : Nat), (putD m n b p).length ≤ m
  | 0, _, _ => Nat.le_refl _
  | m + 1, n, p => by
    rw [putD]
    split
    · simp
    · have := putD_len b m ((n - thr p b) / (36 - thr p b)) (p + 1)
      simp only [List.length_cons]
      omega
theorem putD_pos (b : Int) (m : Nat) (n : Int) (p : Nat) : 1 ≤ (putD (m + 1) n b p).length := by
  rw [putD]
  split <;> simp
def tens : Nat → Int
  | 0 => 1
  | n + 1 => 10 * tens n
theorem div_bd {x t m : Int} (h0 : 0 ≤ x) (ht : 10 ≤ t) (hm : x < 10 * m) : 0 ≤ x / t ∧ x / t < m := by
  refine ⟨Int.ediv_nonneg h0 (by omega), Int.ediv_lt_of_lt_mul (by omega) ?_⟩
  have h1 : 0 < m := by omega
  have h2 : m * 10 ≤ m * t := Int.mul_le_mul_of_nonneg_left ht (by omega)
  omega
theorem put_go (b : Int) : ∀ (m p : Nat) (n : Int) (xs : List Int), p + m ≤ 100 → xs.length ≤ p → 0 ≤ n → n < tens m → n ≤ 18446744073709551615 → ∀ k, m + 62 ≤ k → bias_Put.l0 k n b xs (p : Int) = some (strOfNums (xs ++ putD (m + 1) n b p))
  | m, p, n, xs, hp, hx, h0, hb, h1, k, hk => by
    have ht := thr_in (p : Int) b
    obtain ⟨k, rfl⟩ : ∃ m, k = m + 1 := ⟨k - 1, by omega⟩
    by_cases hlt : n < thr (p : Int) b
    · rw [putD, if_pos hlt]
      simp only [bias_Put.l0]
      rw [thr_go]
      simp only [Option.bind_some]
      rw [u64w (n := thr (p : Int) b) (by omega) (by omega), if_pos hlt, i64w (by omega) (by omega), letter_k n h0 (by omega) k (by omega)]
      simp only [Option.bind_some]
      rw [if_pos (by omega)]
    · obtain ⟨m, rfl⟩ : ∃ q, m = q + 1 := by
        cases m with
        | zero => simp [tens] at hb; omega
        | succ m => exact ⟨m, rfl⟩
      simp only [tens] at hb
      have q := div_bd (x := n - thr (p : Int) b) (t := 36 - thr (p : Int) b) (m := tens m) (by omega) (by omega) (by omega)
      have q2 : (n - thr (p : Int) b) / (36 - thr (p : Int) b) ≤ n - thr (p : Int) b := Int.ediv_le_self _ (by omega)
      have r0 : 0 ≤ (n - thr (p : Int) b) % (36 - thr (p : Int) b) := Int.emod_nonneg _ (by omega)
      have r1 : (n - thr (p : Int) b) % (36 - thr (p : Int) b) < 36 - thr (p : Int) b := Int.emod_lt_of_pos _ (by omega)
      have ih := put_go b m (p + 1) ((n - thr (p : Int) b) / (36 - thr (p : Int) b)) (xs ++ [let36 (thr (p : Int) b + (n - thr (p : Int) b) % (36 - thr (p : Int) b))]) (by omega) (by simp; omega) q.1 q.2 (by omega) k (by omega)
      rw [putD, if_neg hlt]
      simp only [bias_Put.l0]
      rw [thr_go]
      simp only [Option.bind_some]
      rw [u64w (n := thr (p : Int) b) (by omega) (by omega), if_neg hlt, u64w (n := 36 - thr (p : Int) b) (by omega) (by omega), if_neg (by omega), u64w (n := n - thr (p : Int) b) (by omega) (by omega), Int.tmod_eq_emod_of_nonneg (by omega), Int.tdiv_eq_ediv_of_nonneg (by omega),
        u64w (n := thr (p : Int) b + (n - thr (p : Int) b) % (36 - thr (p : Int) b)) (by omega) (by omega), u64w (n := (n - thr (p : Int) b) / (36 - thr (p : Int) b)) (by omega) (by omega), i64w (n := thr (p : Int) b + (n - thr (p : Int) b) % (36 - thr (p : Int) b)) (by omega) (by omega), i64w (n := (p : Int) + 1) (by omega) (by omega),
        letter_k _ (by omega) (by omega) k (by omega)]
      simp only [Option.bind_some]
      rw [if_pos (by omega), show ((p : Int) + 1) = ((p + 1 : Nat) : Int) from by omega, ih]
      simp
/-- A number's digits by a bias. -/
def putS (n b : Int) : List Int := putD 12 n b 0
theorem putS_len (n b : Int) : 1 ≤ (putS n b).length ∧ (putS n b).length ≤ 12 := ⟨putD_pos b 11 n 0, putD_len b 12 n 0⟩
theorem put_f (n b : Int) (h0 : 0 ≤ n) (h1 : n < 100000000000) : bias_Put.f 80 n b = some (strOfNums (putS n b)) := by
  have := put_go b 11 0 n [] (by omega) (Nat.le_refl _) h0 (by simp only [tens]; omega) (by omega) 80 (by omega)
  unfold bias_Put.f putS
  simpa using this
theorem put_calls (n b : Int) (h0 : 0 ≤ n) (h1 : n < 100000000000) (w : World) : Calls Tryz.prog 166 #[.int .u64 n, .int .i64 b] w fun e w' => e = .returned (.string (strOfNums (putS n b))) ∧ Below w.heap.size w w' :=
  bias_Put.calls 80 n b _ w (put_f n b h0 h1)
/-- The loop of Adapt. -/
def adL : Nat → Int → Int → Int
  | 0, d, k => k + 36 * d / (d + 38)
  | m + 1, d, k => if d > 455 then adL m (d / 35) (k + 36) else k + 36 * d / (d + 38)
def bnd : Nat → Int
  | 0 => 456
  | n + 1 => 35 * bnd n
theorem ad_q (d : Int) (h0 : 0 ≤ d) : 0 ≤ 36 * d / (d + 38) ∧ 36 * d / (d + 38) ≤ 36 := by
  constructor
  · exact Int.ediv_nonneg (by omega) (by omega)
  · have : 36 * d / (d + 38) < 37 := Int.ediv_lt_of_lt_mul (by omega) (by omega)
    omega
theorem ad_go : ∀ (m : Nat) (d i : Int), m ≤ 100 → 0 ≤ d → d ≤ 9223372036854775807 → d < bnd m → 0 ≤ i → i + 36 * m ≤ 10000 → (0 ≤ adL m d i ∧ adL m d i ≤ i + 36 * m + 36) ∧ ∀ k, m < k → bias_Adapt.l0 k d i = some (adL m d i)
  | m, d, i, hm, h0, h1, hb, hi, hi2 => by
    have hq := ad_q d h0
    by_cases hd : d > 455
    · obtain ⟨m, rfl⟩ : ∃ q, m = q + 1 := by
        cases m with
        | zero => simp [bnd] at hb; omega
        | succ m => exact ⟨m, rfl⟩
      simp only [bnd] at hb
      obtain ⟨r, hr⟩ := ad_go m (d / 35) (i + 36) (by omega) (by omega) (by omega) (by omega) (by omega) (by omega)
      rw [adL, if_pos hd]
      refine ⟨by omega, fun k hk => ?_⟩
      obtain ⟨k, rfl⟩ : ∃ m, k = m + 1 := ⟨k - 1, by omega⟩
      simp only [bias_Adapt.l0]
      rw [if_pos hd, Int.tdiv_eq_ediv_of_nonneg h0, u64w (n := d / 35) (by omega) (by omega), i64w (n := i + 36) (by omega) (by omega)]
      exact hr k (by omega)
    · have e : adL m d i = i + 36 * d / (d + 38) := by
        cases m with
        | zero => rfl
        | succ m => rw [adL, if_neg hd]
      rw [e]
      refine ⟨by omega, fun k hk => ?_⟩
      obtain ⟨k, rfl⟩ : ∃ m, k = m + 1 := ⟨k - 1, by omega⟩
      simp only [bias_Adapt.l0]
      rw [if_neg hd, u64w (n := d + 38) (by omega) (by omega), if_neg (by omega), u64w (n := 36 * d) (by omega) (by omega), Int.tdiv_eq_ediv_of_nonneg (by omega), u64w (by omega) (by omega), i64w (n := 36 * d / (d + 38)) (by omega) (by omega), i64w (by omega) (by omega)]
/-- The bias behind a number. -/
def adaptS (d p : Int) (first : Bool) : Int := adL 11 ((if first = true then d / 700 else d / 2) + (if first = true then d / 700 else d / 2) / p) 0
theorem adapt_f (d p : Int) (first : Bool) (h0 : 0 ≤ d) (h1 : d < 100000000000) (hp : 1 ≤ p) (hp2 : p ≤ 1000000) : (0 ≤ adaptS d p first ∧ adaptS d p first ≤ 1000) ∧ bias_Adapt.f 20 d p first = some (adaptS d p first) := by
  have hx : mx p 1 = p := by unfold mx; split <;> omega
  have key : ∀ x : Int, 0 ≤ x → x < 100000000000 → (0 ≤ adL 11 (x + x / p) 0 ∧ adL 11 (x + x / p) 0 ≤ 1000) ∧ bias_Adapt.j0 20 x p = some (adL 11 (x + x / p) 0) := by
    intro x x0 x1
    have hq : 0 ≤ x / p ∧ x / p ≤ x := ⟨Int.ediv_nonneg x0 (by omega), Int.ediv_le_self _ x0⟩
    obtain ⟨r, hr⟩ := ad_go 11 (x + x / p) 0 (by omega) (by omega) (by omega) (by simp only [bnd]; omega) (by omega) (by omega)
    refine ⟨by omega, ?_⟩
    simp only [bias_Adapt.j0]
    rw [hx, if_neg (by omega), Int.tdiv_eq_ediv_of_nonneg x0, u64w (n := x / p) (by omega) (by omega), u64w (n := x + x / p) (by omega) (by omega)]
    exact hr 19 (by omega)
  unfold bias_Adapt.f adaptS
  cases first with
  | true =>
    simp only [if_true]
    rw [Int.tdiv_eq_ediv_of_nonneg h0, u64w (n := d / 700) (by omega) (by omega)]
    exact key (d / 700) (by omega) (by omega)
  | false =>
    simp only [if_false, Bool.false_eq_true]
    rw [Int.tdiv_eq_ediv_of_nonneg h0, u64w (n := d / 2) (by omega) (by omega)]
    exact key (d / 2) (by omega) (by omega)
theorem adapt_calls (d p : Int) (first : Bool) (h0 : 0 ≤ d) (h1 : d < 100000000000) (hp : 1 ≤ p) (hp2 : p ≤ 1000000) (w : World) : Calls Tryz.prog 167 #[.int .u64 d, .int .u64 p, .bool first] w fun e w' => e = .returned (.int .i64 (adaptS d p first)) ∧ Below w.heap.size w w' :=
  bias_Adapt.calls 20 d p first _ w (adapt_f d p first h0 h1 hp hp2).2
end Go.Proofs.YtooiooledeblmaaGreat.Pun
end
