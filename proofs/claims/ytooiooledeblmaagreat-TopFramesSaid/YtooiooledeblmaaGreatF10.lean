/- What Encode needs of an encoder that tells some bytes when it is fed, and the rest behind its end. codec.Encode by the encoder puny.Encoder. The encoder of Punycode, as Encode needs it. A window is touched: it goes behind the others. The compressor in memory; bytes kept; what it asks of scalars. The compressor: what it asks of a scalar. The compressor: bytes given; a scalar in a window, by itself, by units. The compressor: a scalar by itself, by units, by a static window. The compressor: a static window, the Unicode mode's beginning, a window laid. The compressor: a window is laid. -/
import Derived.Test.YtooiooledeblmaaGreatF9
import Derived.Laws.CopyRow
import Derived.Laws.IdiomCopy
import Derived.Laws.BytesArg
import Derived.StillTailTactics
import Derived.Deep.RegionWith
import Derived.Laws.BitsAllLaws
import Derived.Deep.CutBlock
import Derived.Deep.DeepCutAuto
import Derived.Deep.QuietTactic
section
namespace Go.Proofs.YtooiooledeblmaaGreat.Out
open Go.RowKit Go.Proofs.YtooiooledeblmaaGreat.Win Go.Proofs.YtooiooledeblmaaGreat.Stp Go.Proofs.YtooiooledeblmaaGreat.Lst
set_option linter.unusedVariables false
set_option linter.unusedSimpArgs false
/-- It stands when new memory is made. -/
def StB (P : World → Prop) : Prop := ∀ w w', P w → Below w.heap.size w w' → P w'
/-- It stands when a builder is written to. -/
def StO (P : World → Prop) : Prop := ∀ b w w' cs, P w → w.heap[b]? = some (.cells cs 70 (0, 0)) → Oth b w w' → P w'
/-- None of the machine's blocks is a builder, a row of bytes or a failure. -/
def Kin (S : Nat → Prop) (P : World → Prop) : Prop := ∀ w i cs T fz, P w → w.heap[i]? = some (.cells cs T fz) → (T = 5 ∨ T = 70 ∨ T = 39) → ¬ S i
structure Mac (g : Nat) (S : Nat → Prop) (F E : Nat) (l S1 S2 : List Int) (P0 P1 P2 P3 : World → Prop) : Prop where
  b0 : StB P0
  b3 : StB P3
  o1 : StO P1
  o2 : StO P2
  o3 : StO P3
  k0 : Kin S P0
  k1 : Kin S P1
  k2 : Kin S P2
  feed : ∀ (w : World) (A : Option Addr) (cap : Nat), P0 w → (∀ wr, Chg S w wr → Lst wr .u32 A l) → Calls Tryz.prog F #[.pointer (some ⟨g, 0, none⟩), .slice A l.length cap, .int .i64 4096] w fun e w' => e = .returned (.tuple #[.int .i64 l.length, .string (strOfNums S1)]) ∧ P1 w' ∧ Chg S w w'
  fin : ∀ w, P1 w → Calls Tryz.prog E #[.pointer (some ⟨g, 0, none⟩)] w fun e w' => e = .returned (.tuple #[]) ∧ P2 w' ∧ Chg S w w'
  don2 : ∀ w, P2 w → Calls Tryz.prog 138 #[.pointer (some ⟨g, 0, none⟩)] w fun e w' => e = .returned (.bool S2.isEmpty) ∧ w = w'
  more : ∀ w, P2 w → S2 ≠ [] → Calls Tryz.prog F #[.pointer (some ⟨g, 0, none⟩), .slice none 0 0, .int .i64 4096] w fun e w' => e = .returned (.tuple #[.int .i64 0, .string (strOfNums S2)]) ∧ P3 w' ∧ Chg S w w'
  don3 : ∀ w, P3 w → Calls Tryz.prog 138 #[.pointer (some ⟨g, 0, none⟩)] w fun e w' => e = .returned (.bool true) ∧ w = w'
  base2 : ∀ w, P2 w → ∃ b, BaseAt w g b ∧ b.err = 0 ∧ b.pl = 0
  base3 : ∀ w, P3 w → ∃ b, BaseAt w g b ∧ b.err = 0 ∧ b.pl = 0
def NewPost2 (PT : TypeId) (F E : Nat) (l S1 S2 : List Int) (w : World) (e : Ending) (w' : World) : Prop :=
  ∃ (g : Nat) (S : Nat → Prop) (P0 P1 P2 P3 : World → Prop), Mac g S F E l S1 S2 P0 P1 P2 P3 ∧ e = .returned (.tuple #[.iface PT (.pointer (some ⟨g, 0, none⟩)), .int .i64 0]) ∧ Below w.heap.size w w' ∧ P0 w' ∧ ∀ i, S i → w.heap.size ≤ i
theorem bld_blk {B b : Nat} {s : ByteArray} {w : World} (h : BldAt B b s w) : ∃ cs, w.heap[b]? = some (.cells cs 70 (0, 0)) := by
  rcases h with h | h
  · obtain ⟨_, v, h2, _⟩ := h; exact ⟨_, h2⟩
  · obtain ⟨_, v, h2, _⟩ := h; exact ⟨_, h2⟩
theorem StO.use {P : World → Prop} (h : StO P) {B b : Nat} {s : ByteArray} {w w' : World} (hp : P w) (hb : BldAt B b s w) (ho : Oth b w w') : P w' := by
  obtain ⟨cs, hc⟩ := bld_blk hb
  exact h b w w' cs hp hc ho
theorem Kin.bld {S : Nat → Prop} {P : World → Prop} (h : Kin S P) {B b : Nat} {s : ByteArray} {w w' : World} (hp : P w) (hb : BldAt B b s w) (hc : Chg S w w') : BldAt B b s w' := by
  obtain ⟨cs, hcs⟩ := bld_blk hb
  exact bld_chg hb hc (h w b cs _ _ hp hcs (.inr (.inl rfl))) (fun i cs fz hi => h w i cs _ _ hp hi (.inl rfl))
theorem Kin.res {S : Nat → Prop} {P : World → Prop} (h : Kin S P) {r : Nat} {w w' : World} (hp : P w) (hr : w.heap[r]? = some (.cells #[.int .i64 0, .int .i64 0] 39 (0, 0))) (hc : Chg S w w') : w'.heap[r]? = some (.cells #[.int .i64 0, .int .i64 0] 39 (0, 0)) :=
  (hc.block r (Array.getElem?_eq_some_iff.1 hr).1 (h w r _ _ _ hp hr (.inr (.inr rfl)))).trans hr
theorem oth_res {b r : Nat} {w w' : World} (h : Oth b w w') {B : Nat} {s : ByteArray} (hb : BldAt B b s w) (hr : w.heap[r]? = some (.cells #[.int .i64 0, .int .i64 0] 39 (0, 0))) : w'.heap[r]? = some (.cells #[.int .i64 0, .int .i64 0] 39 (0, 0)) := by
  refine h r _ hr ?_ (by intro c fz h; injection h with h1 h2; cases h2)
  intro hh
  injection hh with hh
  subst hh
  obtain ⟨cs, hc⟩ := bld_blk hb
  rw [hr] at hc
  injection hc with hc
  injection hc with h1 h2
  cases h2
end Go.Proofs.YtooiooledeblmaaGreat.Out
end
section
namespace Go.Proofs.YtooiooledeblmaaGreat.Out
open Go.RowKit Go.Proofs.YtooiooledeblmaaGreat.Win Go.Proofs.YtooiooledeblmaaGreat.Stp Go.Proofs.YtooiooledeblmaaGreat.Lst
set_option linter.unusedVariables false
set_option linter.unusedSimpArgs false
theorem mk_puny (v : Value) (w : World) : (Instr.makeInterface 119 v).run Tryz.prog w = .ok (.iface 119 v) w := run_makeInterface w 119 v (by kernel_rfl)
theorem feed_puny (g : Nat) (w : World) : (method 407 119 (.pointer (some ⟨g, 0, none⟩)) "Feed").run Tryz.prog w = .ok (160, .pointer (some ⟨g, 0, none⟩)) w := by kernel_rfl
theorem end_puny (g : Nat) (w : World) : (method 407 119 (.pointer (some ⟨g, 0, none⟩)) "End").run Tryz.prog w = .ok (159, .pointer (some ⟨g, 0, none⟩)) w := by kernel_rfl
theorem done_puny (g : Nat) (w : World) : (method 407 119 (.pointer (some ⟨g, 0, none⟩)) "Done").run Tryz.prog w = .ok (138, .pointer (some ⟨g, 0, none⟩)) w := by kernel_rfl
theorem fail_puny (g : Nat) (w : World) : (method 407 119 (.pointer (some ⟨g, 0, none⟩)) "Fail").run Tryz.prog w = .ok (140, .pointer (some ⟨g, 0, none⟩)) w := by kernel_rfl
attribute [local go_sem] mk_puny feed_puny end_puny done_puny fail_puny
/-- The second loop: what was told so far, and whether the rest was. -/
def LoopE_puny (w : World) (b : Nat) (S1 S2 : List Int) (P2 P3 : World → Prop) (v : Value) (wr : World) : Prop :=
  (((P2 wr ∧ BldAt w.heap.size b (strOfNums S1) wr) ∧ S2 ≠ [] ∧ v = undef) ∨ ((P3 wr ∨ (P2 wr ∧ S2 = [])) ∧ BldAt w.heap.size b (strOfNums (S1 ++ S2)) wr)) ∧ wr.heap[w.heap.size]? = some (.cells #[.int .i64 0, .int .i64 0] 39 (0, 0)) ∧ Below w.heap.size w wr
def strM_puny : Value → Nat
  | .string _ => 0
  | _ => 1
set_option maxRecDepth 100000 in
set_option maxHeartbeats 8000000 in
theorem encode2_puny {c : Int} {l S1 S2 : List Int} {w : World} {A : Option Addr} {cap : Nat} (hnew : ∀ wx, Calls Tryz.prog 34 #[.int .i64 c] wx (NewPost2 119 160 159 l S1 S2 wx)) (hs1 : S1.length ≤ 100000) (hs2 : S2.length ≤ 100000)
    (hL : ∀ wx, Below w.heap.size w wx → Lst wx .u32 A l) (hl : l.length ≤ 600) (hcap : l.length ≤ cap) :
    Calls Tryz.prog 17 #[.int .i64 c, .slice A l.length cap] w (EncPost w (S1 ++ S2)) := by
  have HL := Lib.hid hL
  have HNew := Lib.hid hnew
  clear hL hnew
  go_enter Tryz.func17, Tryz.ntmps17
  go_wp2_with fail
  refine (HNew.out _).mono ?_
  rintro e w1 ⟨g, S, P0, P1, P2, P3, hm, rfl, hb, hp0, hS⟩
  obtain ⟨w0, hw0⟩ : ∃ w0, w0 = w.alloc (.cells #[.int .i64 0, .int .i64 0] 39) := ⟨_, rfl⟩
  rw [← hw0] at hb hS
  have hz0 : w0.heap.size = w.heap.size + 1 := by rw [hw0]; simp
  have hr0 : w0.heap[w.heap.size]? = some (.cells #[.int .i64 0, .int .i64 0] 39 (0, 0)) := by rw [hw0]; exact heap_alloc_new _ _
  have hb0 : Below w.heap.size w w0 := by rw [hw0]; exact (Below.refl _ _).alloc (Nat.le_refl _) _
  have hr1 := (hb.block w.heap.size (by omega)).trans hr0
  have hb1 := hb0.trans (Below.mono hb (by omega))
  have HM := Lib.hid hm
  have HP0 := Lib.hid hp0
  have HR1 := Lib.hid hr1
  have HB1 := Lib.hid hb1
  have HFs := Lib.hid (show ∀ i, S i → w.heap.size ≤ i from fun i hi => by have := hS i hi; omega)
  clear hm hb hw0 hz0 hr0 hb0 hS hr1 hb1 hp0
  go_upto_block 0 with fail
  obtain ⟨b, hbd⟩ : ∃ b, b = w1.heap.size := ⟨_, rfl⟩
  obtain ⟨w2, hw2⟩ : ∃ w2, w2 = w1.alloc (.cells #[.pointer none, .slice none 0 0] 70) := ⟨_, rfl⟩
  have hb12 : Below w1.heap.size w1 w2 := by rw [hw2]; exact (Below.refl _ _).alloc (Nat.le_refl _) _
  have HBl := Lib.hid (show BldAt w.heap.size b ByteArray.empty w2 by rw [hw2, hbd]; exact bld_new _ _ HB1.out.size)
  have HP2 := Lib.hid (HM.out.b0 _ _ HP0.out hb12)
  have HR2 := Lib.hid ((hb12.block w.heap.size (Array.getElem?_eq_some_iff.1 HR1.out).1).trans HR1.out)
  have HB2 := Lib.hid (HB1.out.trans (Below.mono hb12 HB1.out.size))
  rw [← hw2, ← hbd]
  clear hbd hw2 hb12 HR1 HB1 HP0
  go_wp2_with fail
  go_loopw [1] (fun v wr => v = .slice A l.length cap ∧ w2 = wr) (fun _ _ => 0)
  case atStart => exact ⟨rfl, rfl⟩
  case round =>
    obtain ⟨rfl, rfl⟩ := hrel
    have HFd := Lib.hid (HM.out.feed w2 A cap HP2.out (fun wr hc => HL.out wr (Chg.below HB2.out hc HFs.out)))
    have hsz := str_size S1
    go_wp2_with fail
    refine HFd.out.mono ?_
    rintro e w3 ⟨rfl, hp3, hc3⟩
    have hb3 := HM.out.k0.bld HP2.out HBl.out hc3
    have hr3 := HM.out.k0.res HP2.out HR2.out hc3
    have hbw3 := Chg.below HB2.out hc3 HFs.out
    have HWr := Lib.hid (bld_write (strOfNums S1) hb3 (by decide) (by omega) hbw3.size)
    have HP3 := Lib.hid hp3
    have HR3 := Lib.hid hr3
    have HB3 := Lib.hid hbw3
    have HBl3 := Lib.hid hb3
    clear hp3 hc3 hb3 hr3 hbw3
    go_wp2_with fail
    refine HWr.out.mono ?_
    rintro e w4 ⟨rfl, hb4, hbe4, hot4⟩
    rw [ByteArray.empty_append] at hb4
    have hp4 := HM.out.o1.use HP3.out HBl3.out hot4
    have hr4 := oth_res hot4 HBl3.out HR3.out
    have HEnd := Lib.hid (HM.out.fin w4 hp4)
    have HP4 := Lib.hid hp4
    have HBl4 := Lib.hid hb4
    have HB4 := Lib.hid (HB3.out.trans hbe4)
    have HR4 := Lib.hid hr4
    clear hb4 hbe4 hot4 hr4 hp4
    go_upto_region 7 with fail
    go_cut [1] from 22 to 41 (fun v wx => (∃ A' c', v = .slice A' 0 c') ∧ w4 = wx)
    case first =>
      go_wp2_with fail
      all_goals
        go_meet
        exact ⟨⟨_, _, rfl⟩, rfl⟩
    case rest =>
      obtain ⟨⟨A', c', rfl⟩, rfl⟩ := hcut
      go_wp2_with fail
      refine HEnd.out.mono ?_
      rintro e w5 ⟨rfl, hp5, hc5⟩
      have hb5 := HM.out.k1.bld HP4.out HBl4.out hc5
      have hr5 := HM.out.k1.res HP4.out HR4.out hc5
      have hbw5 := Chg.below HB4.out hc5 HFs.out
      have HLo := Lib.hid (show LoopE_puny w b S1 S2 P2 P3 undef w5 from ⟨by
        by_cases h : S2 = []
        · exact .inr ⟨.inr ⟨hp5, h⟩, by rw [h, List.append_nil]; exact hb5⟩
        · exact .inl ⟨⟨hp5, hb5⟩, h, rfl⟩, hr5, hbw5⟩)
      have HP5 := Lib.hid hp5
      clear hp5 hc5 hb5 hr5 hbw5
      go_wp2_with fail
      go_loopw [12] (fun v wr => LoopE_puny w b S1 S2 P2 P3 v wr) (fun v _ => strM_puny v)
      case atStart => exact HLo.out
      case round =>
        obtain ⟨hst, hr6, hb6⟩ := hrel
        have HR6 := Lib.hid hr6
        have HB6 := Lib.hid hb6
        clear hr6 hb6
        rcases hst with ⟨⟨hp6, hbl6⟩, hne, rfl⟩ | ⟨hp6, hbl6⟩
        · have hdn := HM.out.don2 wr hp6
          rw [show S2.isEmpty = false from by cases S2 with | nil => exact absurd rfl hne | cons x xs => rfl] at hdn
          have HDn := Lib.hid hdn
          have HMo := Lib.hid (HM.out.more wr hp6 hne)
          have hsz2 := str_size S2
          have HP6 := Lib.hid hp6
          have HBl6 := Lib.hid hbl6
          clear hdn hp6 hbl6 hne
          go_wp2_with fail
          refine HDn.out.mono ?_
          rintro e w6 ⟨rfl, rfl⟩
          go_wp2_with fail
          refine HMo.out.mono ?_
          rintro e w7 ⟨rfl, hp7, hc7⟩
          have hb7 := HM.out.k2.bld HP6.out HBl6.out hc7
          have hr7 := HM.out.k2.res HP6.out HR6.out hc7
          have hbw7 := Chg.below HB6.out hc7 HFs.out
          have HWr2 := Lib.hid (bld_write (strOfNums S2) hb7 (by omega) (by omega) hbw7.size)
          have HP7 := Lib.hid hp7
          have HR7 := Lib.hid hr7
          have HB7 := Lib.hid hbw7
          have HBl7 := Lib.hid hb7
          clear hp7 hc7 hb7 hr7 hbw7
          go_wp2_with fail
          refine HWr2.out.mono ?_
          rintro e w8 ⟨rfl, hb8, hbe8, hot8⟩
          rw [str_append] at hb8
          have HLo8 := Lib.hid (show LoopE_puny w b S1 S2 P2 P3 (.string (strOfNums S2)) w8 from ⟨.inr ⟨.inl (HM.out.o3.use HP7.out HBl7.out hot8), hb8⟩, oth_res hot8 HBl7.out HR7.out, HB7.out.trans hbe8⟩)
          clear hb8 hbe8 hot8
          go_wp2_with fail
          go_roundw
          case rel => exact HLo8.out
          case measure => exact Nat.zero_lt_one
        · obtain ⟨bb, hbs, he0, he1⟩ : ∃ bb, BaseAt wr g bb ∧ bb.err = 0 ∧ bb.pl = 0 := by
            rcases hp6 with hp6 | hp6
            · exact HM.out.base3 wr hp6
            · exact HM.out.base2 wr hp6.1
          have hdn : Calls Tryz.prog 138 #[.pointer (some ⟨g, 0, none⟩)] wr fun e w' => e = .returned (.bool true) ∧ wr = w' := by
            rcases hp6 with hp6 | ⟨hp6, h⟩
            · exact HM.out.don3 wr hp6
            · have := HM.out.don2 wr hp6
              rw [h] at this
              exact this
          have HDn := Lib.hid hdn
          have HSt := Lib.hid (bld_string hbl6 HB6.out.size)
          have HBl6 := Lib.hid hbl6
          have HP6 := Lib.hid hp6
          have hE : (bb.err = 0 ∧ bb.pl = 0) := ⟨he0, he1⟩
          have HE := Lib.hid hE
          clear hdn hbl6 hp6 he0 he1 hE hbs
          go_wp2_with fail
          refine HDn.out.mono ?_
          rintro e w6 ⟨rfl, rfl⟩
          go_wp2_with fail
          refine HSt.out.mono ?_
          rintro e w6 ⟨rfl, hb6, hot6⟩
          have hr6 := oth_res hot6 HBl6.out HR6.out
          have hbs6 : ∃ b6, BaseAt w6 g b6 ∧ b6.err = 0 ∧ b6.pl = 0 := by
            rcases HP6.out with hp6 | hp6
            · exact HM.out.base3 w6 (HM.out.o3.use hp6 HBl6.out hot6)
            · exact HM.out.base2 w6 (HM.out.o2.use hp6.1 HBl6.out hot6)
          obtain ⟨b6, hb6s, q1, q2⟩ := hbs6
          have hfl := fail_calls g b6 w6 hb6s
          rw [q1, q2] at hfl
          have HFl := Lib.hid hfl
          have HR7 := Lib.hid hr6
          have HB7 := Lib.hid (HB6.out.trans hb6)
          clear hb6 hot6 hr6 hb6s q1 q2 hfl
          go_wp2_with fail
          refine HFl.out.mono ?_
          rintro e w7 ⟨rfl, rfl⟩
          obtain ⟨w7, hw7⟩ : ∃ w7, w7 = w6.alloc (.cells #[.int .i64 0, .int .i64 0] 39) := ⟨_, rfl⟩
          have hr7 : w7.heap[w.heap.size]? = some (.cells #[.int .i64 0, .int .i64 0] 39 (0, 0)) := by rw [hw7, Below.heap_alloc _ _ _ (Array.getElem?_eq_some_iff.1 HR7.out).1]; exact HR7.out
          have hb7 : Below w.heap.size w w7 := by rw [hw7]; exact HB7.out.alloc HB7.out.size _
          rw [← hw7]
          have c0 : w7.cell? ⟨w.heap.size, 0, none⟩ = some (.int .i64 0) := by rw [cell_of hr7]; rfl
          have c1 : w7.cell? ⟨w.heap.size, 1, none⟩ = some (.int .i64 0) := by rw [cell_of hr7]; rfl
          have f0 := frozen_of hr7 0
          have f1 := frozen_of hr7 1
          have HB8 := Lib.hid hb7
          clear hw7 hr7 hb7
          go_wp2_with fail
          have e0 : ((w7.setCell ⟨w.heap.size, 0, none⟩ (.int .i64 0)).setCell ⟨w.heap.size, 1, none⟩ (.int .i64 0)).cell? ⟨w.heap.size, 0, none⟩ = some (.int .i64 0) := by
            rw [World.cell?_setCell_other _ _ _ _ (by simp), World.cell?_setCell_same _ _ _ c0]
          have e1 : ((w7.setCell ⟨w.heap.size, 0, none⟩ (.int .i64 0)).setCell ⟨w.heap.size, 1, none⟩ (.int .i64 0)).cell? ⟨w.heap.size, 1, none⟩ = some (.int .i64 0) := by
            rw [World.cell?_setCell_same (u := .int .i64 0) _ _ _ (by rw [World.cell?_setCell_other _ _ _ _ (by simp)]; exact c1)]
          refine bodyPost_ret (v := .tuple #[.string (strOfNums (S1 ++ S2)), .agg #[.int .i64 0, .int .i64 0]]) (by simp [results, Tryz.results17, go_sem, e0, e1]) rfl ⟨rfl, (HB8.out.setCell (p := ⟨w.heap.size, 0, none⟩) (Nat.le_refl _) _).setCell (p := ⟨w.heap.size, 1, none⟩) (Nat.le_refl _) _⟩
end Go.Proofs.YtooiooledeblmaaGreat.Out
end
section
namespace Go.Proofs.YtooiooledeblmaaGreat.Pun
open Go.RowKit Go.Sort Go.Proofs.YtooiooledeblmaaGreat.Win Go.Proofs.YtooiooledeblmaaGreat.Stp Go.Proofs.YtooiooledeblmaaGreat.Lst Go.Proofs.YtooiooledeblmaaGreat.Out Go.Proofs.YtooiooledeblmaaGreat.Srt
set_option linter.unusedVariables false
set_option linter.unusedSimpArgs false
abbrev PT : TypeId := 180
def p1 (n : Nat) : B4 := { b40 with at_ := (n : Int) }
def p2 (n : Nat) : B4 := { p1 n with fin := true }
def NewP (w : World) (e : Ending) (w' : World) : Prop := e = .returned (.pointer (some ⟨w.heap.size, 0, none⟩)) ∧ OutAt PT w' w.heap.size b40 [] [.slice none 0 0] ∧ Below w.heap.size w w'
theorem newp_calls (w : World) : Calls Tryz.prog 66 #[] w (NewP w) := by
  go_enter Tryz.func66, Tryz.ntmps66
  go_wp2_with fail
  go_ret
  exact ⟨rfl, ⟨heap_alloc_new _ _⟩, (Below.refl _ _).alloc (Nat.le_refl _) _⟩
def PfRel (w : World) (g : Nat) (l : List Int) (v8 : Value) (wr : World) : Prop :=
  ∃ (n : Nat) (A : Option Addr) (c : Nat), n ≤ l.length ∧ v8 = .int .i64 n ∧ OutAt PT wr g (p1 n) [] [.slice A n c] ∧ wr.ownsRow w.heap.size 31 1 (.slice A n c) n (u32s (l.take n)) ∧ (n = 0 → A = none) ∧ Chg (ES g) w wr
def PfPost (w : World) (g : Nat) (l : List Int) (e : Ending) (w' : World) : Prop :=
  e = .returned (.tuple #[.int .i64 l.length, .string (strOfNums [])]) ∧ (∃ A c, OutAt PT w' g (p1 l.length) [] [.slice A l.length c] ∧ MsAt w' A l) ∧ Chg (ES g) w w'
theorem own_ms {w : World} {B c : Nat} {A : Option Addr} {xs : List Int} (h : w.ownsRow B 31 1 (.slice A xs.length c) xs.length (u32s xs)) : MsAt w A xs := by
  have hl := Lst.of_owns h
  rcases h.2 with ⟨h1, h2⟩ | ⟨g, c', cur, hv, hb, hg, _⟩
  · injection h1 with h1
    exact .inl ⟨h1, List.eq_nil_of_length_eq_zero h2⟩
  · injection hv with h1
    subst h1
    exact .inr ⟨g, cur, rfl, hg, hl⟩
theorem out_keep {w w' : World} {g : Nat} {b : B4} {l : List Int} {rs : List Value} {row : Option Nat} (h : OutAt PT w g b l rs) (hg : w.grownBy w' row) (hr : row ≠ some g) : OutAt PT w' g b l rs :=
  h.keep (hg.block g h.lt (fun e => hr e.symm))
set_option maxHeartbeats 4000000 in
set_option maxRecDepth 1000000 in
theorem pfeed_calls {w : World} {g : Nat} {A0 : Option Addr} {cap : Nat} {l : List Int} (h : OutAt PT w g b40 [] [.slice none 0 0]) (hA : ∀ wr, Chg (ES g) w wr → Lst wr .u32 A0 l) (hl : l.length ≤ 400) (hs : ∀ x ∈ l, 0 ≤ x ∧ isB x = true) :
    Calls Tryz.prog 160 #[.pointer (some ⟨g, 0, none⟩), .slice A0 l.length cap, .int .i64 4096] w (PfPost w g l) := by
  obtain ⟨i0, hi, hz0, hz1, hz2⟩ := info_parts info_u32
  have HN : Hid (i0.zero = some (.int .u32 0) ∧ i0.size = 1 ∧ i0.bytes = 4 ∧ Tryz.prog.info? 31 = some i0) := ⟨hz0, hz1, hz2, hi⟩
  have H := Lib.hid h
  have HA := Lib.hid hA
  have HS := Lib.hid hs
  have hgw : g < w.heap.size := h.lt
  clear hz0 hz1 hz2 hi h hA hs
  go_enter Tryz.func160, Tryz.ntmps160
  go_wp2_with fail
  go_loopw [8] (fun v8 wr => PfRel w g l v8 wr) (fun v8 _ => l.length - (intOf v8).toNat)
  case atStart => exact ⟨0, none, 0, Nat.zero_le _, rfl, H.out, World.ownsRow_nil _ _ _ _, fun _ => rfl, Chg.refl _⟩
  case round =>
    obtain ⟨n, A, c, hn, rfl, ho, hown, hnil, hc⟩ := hrel
    have HO := Lib.hid ho
    have HOwn := Lib.hid hown
    have HC := Lib.hid hc
    have hgoing := going_calls g _ wr ho.base
    have hge : (p1 n).going = true := rfl
    rw [hge] at hgoing
    have HGg := Lib.hid hgoing
    have hgv := give_calls 4096 ho (by decide) (by decide)
    have HGv := Lib.hid hgv
    clear ho hown hc hgoing hge hgv
    by_cases hlt : n < l.length
    · obtain ⟨a, rfl, q⟩ := (HA.out wr HC.out) n hlt
      have hrx := HS.out (l.getD n 0) (by rw [List.getD_eq_getElem?_getD, List.getElem?_eq_getElem hlt]; exact List.getElem_mem _)
      have htk : l.take (n + 1) = l.take n ++ [l.getD n 0] := by rw [List.take_succ_eq_append_getElem hlt, List.getD_eq_getElem?_getD, List.getElem?_eq_getElem hlt]; rfl
      have hqb := World.block_lt_of_cell? wr _ q
      generalize l.getD n 0 = x at q hrx htk
      obtain ⟨x0, xb⟩ := hrx
      have hisx := sis_calls x
      rw [xb] at hisx
      have HIs := Lib.hid hisx
      have HTk := Lib.hid htk
      have hea := fun (wy : World) (k : OutAt PT wy g (p1 n) [] [.slice A n c]) => k
      have hrg : (Value.slice A n c).ownBlock ≠ some g := fun e => by
        have := (HOwn.out.lt g e).1
        omega
      have HRg := Lib.hid hrg
      have q5 := HO.out.c5
      have qz := HO.out.fz 5
      have qlt := HO.out.lt
      have hbw : w.heap.size ≤ wr.heap.size := HC.out.size
      clear hisx htk hea hrg xb
      go_wp2_with fail
      refine HGg.out.mono ?_
      rintro e w2 ⟨rfl, rfl⟩
      go_wp2_with fail
      refine (HIs.out _).mono ?_
      rintro e w2 ⟨rfl, rfl⟩
      have qb : Below wr.heap.size wr (wr.alloc (.cells #[.int .u32 x] 31)).drew := ((Below.refl wr.heap.size wr).alloc (Nat.le_refl _) _).drew
      have QB := Lib.hid qb
      clear qb
      go_wp2_with fail
      go_region_law (refine step_append_lies (wr.alloc (.cells #[.int .u32 x] 31)).drew rfl (.tmp 35) (.tmp 40) 24 rfl w.heap.size 31 i0 (.int .u32 0) 1 4 Tryz.underlying24 HN.out.2.2.2 HN.out.1 HN.out.2.1 HN.out.2.2.1 rfl (by decide) _ _ _ rfl (HOwn.out.alloc (.cells #[.int .u32 x] 31)) ⟨wr.heap.size, 0, none⟩ 1 1 [.int .u32 x] rfl rfl ?c1 ?c2 (by decide) ?c3 ?c4 ?c5 _ rfl ?_; (case c1 => exact World.news_of_block (w := (wr.alloc (.cells #[.int .u32 x] 31)).drew) (heap_alloc_new wr _)); (case c2 => intro q hq; simp at hq; subst hq; rfl); (case c3 => unfold maxLen; omega); (case c4 => omega); (case c5 => exact Nat.le_trans hbw QB.out.size); intro r c1 w1 hown1 hgrow1 hat1 hlt1; have HOut1 := Lib.hid (out_keep (HO.out.below QB.out) hgrow1 HRg.out); have hcs1 := HOut1.out.c5; have hfs1 := HOut1.out.fz 5; have HO1 := Lib.hid hown1; have HG1 := Lib.hid hgrow1; clear hown1 hgrow1 hat1 hlt1)
      all_goals
        have hset := HOut1.out.set5 (.slice (some ⟨r, 0, none⟩) (n + 1) c1)
        have hcs : Chg (ES g) w (w1.setCell ⟨g, 5, none⟩ (.slice (some ⟨r, 0, none⟩) (n + 1) c1)) := ((chg_then (HC.out.trans (Chg.of_below (S := ES g) QB.out)) (chg_grown HG1.out) (fun i hi e => absurd (HOwn.out.lt i e).1 (by omega))).trans (es_g 5 _))
        have hea := eat_calls g _ 1 _ hset.base rfl (by decide) (by decide) (show (0 : Int) ≤ (n : Int) by omega) (show (n : Int) ≤ 1000000000 by omega)
        have hown2 : (w1.setCell ⟨g, 5, none⟩ (.slice (some ⟨r, 0, none⟩) (n + 1) c1)).ownsRow w.heap.size 31 1 (.slice (some ⟨r, 0, none⟩) (n + 1) c1) (n + 1) (u32s (l.take n) ++ [.int .u32 x]) := own_chg HO1.out (es_g 5 _) (fun k hk => by have := (HO1.out.lt k hk).1; intro hh; have hh : k = g := hh; omega)
        have HSet := Lib.hid hset
        have HCs := Lib.hid hcs
        have HEa := Lib.hid hea
        have HOw2 := Lib.hid hown2
        clear hset hcs hea hown2
        generalize w1.setCell ⟨g, 5, none⟩ (.slice (some ⟨r, 0, none⟩) (n + 1) c1) = w2 at HSet HCs HEa HOw2 ⊢
        go_wp2_with fail
        refine HEa.out.mono ?_
        rintro e w3 ⟨rfl, rfl⟩
        have hO3 := HSet.out.setAt ((n : Int) + 1)
        have hown3 := own_chg HOw2.out (es_g 0 (.int .i64 ((n : Int) + 1))) (fun k hk => by have := (HOw2.out.lt k hk).1; intro hh; have hh : k = g := hh; omega)
        have hC3 := HCs.out.trans (es_g 0 (.int .i64 ((n : Int) + 1)))
        have HO3 := Lib.hid hO3
        have HOw3 := Lib.hid hown3
        have HC3 := Lib.hid hC3
        clear hO3 hown3 hC3
        rw [show (p1 n).at_ + 1 = (n : Int) + 1 from rfl]
        generalize w2.setCell ⟨g, 0, none⟩ (.int .i64 ((n : Int) + 1)) = w3 at HO3 HOw3 HC3 ⊢
        go_wp2_with fail
        go_roundw
        case rel =>
          refine ⟨n + 1, some ⟨r, 0, none⟩, c1, hlt, by go_num, ?_, ?_, fun h => absurd h (by omega), HC3.out⟩
          · exact HO3.out
          · rw [HTk.out, u32s_append]
            exact HOw3.out
        case measure => simp [intOf]; omega
    · obtain rfl : n = l.length := by omega
      have hown := HOwn.out
      rw [List.take_length] at hown
      have HMs := Lib.hid (own_ms hown)
      clear hown
      go_wp2_with fail
      refine HGv.out.mono ?_
      rintro e w2 ⟨rfl, h2, h3⟩
      have HO2 := Lib.hid h2
      have HMs2 := Lib.hid (HMs.out.keep (fun k cur hk hg => h3.block k (Array.getElem?_eq_some_iff.1 hg).1 (fun hh => by
        have hh : k = g := hh
        subst hh
        have := HO.out.blk
        rw [hg] at this
        injection this with this
        injection this with h1 h2
        cases h2)))
      have HC2 := Lib.hid (HC.out.trans h3)
      clear h2 h3
      go_wp2_with fail
      go_ret2
      exact ⟨rfl, ⟨A, c, HO2.out, HMs2.out⟩, HC2.out⟩
theorem pdone_calls {w : World} {g : Nat} {b : B4} {l : List Int} {rs : List Value} (h : OutAt PT w g b l rs) (hb : b.going = false) (hl : l.length ≤ 1000000) :
    Calls Tryz.prog 138 #[.pointer (some ⟨g, 0, none⟩)] w fun e w' => e = .returned (.bool l.isEmpty) ∧ w = w' := by
  refine (odone_calls h hl).mono ?_
  rintro e w' ⟨rfl, rfl⟩
  refine ⟨?_, rfl⟩
  rw [hb]
  cases l <;> rfl
/-- Behind the end: what waits is given. -/
theorem pmore_calls {w : World} {g n c : Nat} {A : Option Addr} {l : List Int} (h : OutAt PT w g (p2 n) l [.slice A n c]) (hl : l.length ≤ 4096) :
    Calls Tryz.prog 160 #[.pointer (some ⟨g, 0, none⟩), .slice none 0 0, .int .i64 4096] w fun e w' => e = .returned (.tuple #[.int .i64 0, .string (strOfNums l)]) ∧ OutAt PT w' g (p2 n) [] [.slice A n c] ∧ Chg (ES g) w w' := by
  have HGv := Lib.hid (give_calls 4096 h (by omega) (by omega))
  clear h
  go_enter Tryz.func160, Tryz.ntmps160
  go_wp2_with fail
  go_loopw [8] (fun v8 wr => v8 = .int .i64 0 ∧ wr = w) (fun v8 _ => 0)
  case atStart => exact ⟨rfl, rfl⟩
  case round =>
    obtain ⟨rfl, rfl⟩ := hrel
    go_wp2_with fail
    refine HGv.out.mono ?_
    rintro e w2 ⟨rfl, h2, h3⟩
    go_wp2_with fail
    go_ret2
    exact ⟨rfl, h2, h3⟩
def PendPost (w : World) (g : Nat) (l : List Int) (A : Option Addr) (c : Nat) (e : Ending) (w' : World) : Prop := e = .returned (.tuple #[]) ∧ OutAt PT w' g (p2 l.length) (textP l) [.slice A l.length c] ∧ Chg (ES g) w w'
set_option maxRecDepth 100000 in
set_option maxHeartbeats 2000000 in
theorem pend_calls {w : World} {g c : Nat} {A : Option Addr} {l : List Int} (h : OutAt PT w g (p1 l.length) [] [.slice A l.length c]) (hm : MsAt w A l) (hl : l.length ≤ 60) (hs : ∀ x ∈ l, 0 ≤ x ∧ isB x = true) :
    Calls Tryz.prog 159 #[.pointer (some ⟨g, 0, none⟩)] w (PendPost w g l A c) := by
  have hgoing := going_calls g _ w h.base
  have hge : (p1 l.length).going = true := rfl
  rw [hge] at hgoing
  have HGg := Lib.hid hgoing
  have h5 := h.c5
  have H := Lib.hid h
  have hs2 : ∀ x ∈ l, 0 ≤ x ∧ x ≤ 1114111 := fun x hx => ⟨(hs x hx).1, (isB_iff.1 (hs x hx).2).1⟩
  have htl := textP_len l hl (fun x hx => (hs2 x hx).2)
  have htx := fun (wy : World) (hy : Lst wy .u32 A l) => text_calls (cap := c) hy hl hs2
  have HTx := Lib.hid htx
  have HL := Lib.hid hm.lst
  obtain ⟨T, hT⟩ : ∃ T, T = textP l := ⟨_, rfl⟩
  unfold PendPost
  unfold TxPost at HTx
  rw [← hT] at htl HTx ⊢
  clear h hgoing hge hs2 htx hm hs hT
  go_enter Tryz.func159, Tryz.ntmps159
  go_wp2_with fail
  refine HGg.out.mono ?_
  rintro e w1 ⟨rfl, rfl⟩
  go_wp2_with fail
  go_region_with (first | (go_at_call 161; refine (HTx.out _ (HL.out.below (below_drewN (Below.refl _ _) 1))).mono ?_; rintro e w1 ⟨rfl, hb1⟩; have HO1 := Lib.hid (H.out.below (show Below w.heap.size w w1 from (below_drewN (Below.refl _ _) 1).trans hb1)); have HC1 := Lib.hid (Chg.of_below (S := ES g) (show Below w.heap.size w w1 from (below_drewN (Below.refl _ _) 1).trans hb1)); clear hb1) | (go_at_call 146; refine (keep_calls T HO1.out (by simp) (by omega)).mono ?_; rintro e w2 ⟨rfl, h2, h3⟩; have HO2 := Lib.hid h2; have HC2 := Lib.hid (HC1.out.trans h3); clear h2 h3))
  all_goals
    have hend := oend_calls HO2.out rfl
    have HE := Lib.hid hend
    clear hend
    go_wp2_with fail
    refine HE.out.mono ?_
    rintro e w3 ⟨rfl, h4, h5⟩
    have HC3 := Lib.hid (HC2.out.trans h5)
    have HO3 := Lib.hid h4
    clear h4 h5
    go_wp2_with fail
    go_end0
    exact ⟨rfl, by have := HO3.out; rwa [List.nil_append] at this, HC3.out⟩
theorem out_oth {w w' : World} {g b : Nat} {b4 : B4} {l : List Int} {rs : List Value} {cs : Array Value} (h : OutAt PT w g b4 l rs) (hb : w.heap[b]? = some (.cells cs 70 (0, 0))) (ho : Oth b w w') : OutAt PT w' g b4 l rs := by
  refine h.keep ?_
  rw [h.blk]
  refine ho g _ h.blk ?_ (by intro c fz h; injection h with h1 h2; cases h2)
  intro hh
  injection hh with hh
  subst hh
  rw [h.blk] at hb
  injection hb with hb
  injection hb with h1 h2
  cases h2
theorem ms_oth {w w' : World} {b : Nat} {A : Option Addr} {xs : List Int} {cs : Array Value} (h : MsAt w A xs) (hb : w.heap[b]? = some (.cells cs 70 (0, 0))) (ho : Oth b w w') : MsAt w' A xs := by
  refine h.keep fun g cur _ hg => ?_
  rw [hg]
  refine ho g _ hg ?_ (by intro c fz h; injection h with h1 h2; cases h2)
  intro hh
  injection hh with hh
  subst hh
  rw [hg] at hb
  injection hb with hb
  injection hb with h1 h2
  cases h2
theorem out_kin {w : World} {g i : Nat} {b4 : B4} {l : List Int} {rs : List Value} {cs : Array Value} {T : TypeId} {fz : Nat × Nat} (h : OutAt PT w g b4 l rs) (hi : w.heap[i]? = some (.cells cs T fz)) (hT : T = 5 ∨ T = 70 ∨ T = 39) : ¬ ES g i := by
  intro hh
  have hh : i = g := hh
  subst hh
  have := hi.symm.trans h.blk
  injection this with this
  injection this with h1 h2 h3
  rcases hT with rfl | rfl | rfl <;> cases h2
theorem mac_puny (g : Nat) {l : List Int} (hl : l.length ≤ 60) (hs : ∀ x ∈ l, 0 ≤ x ∧ isB x = true) :
    Mac g (ES g) 160 159 l [] (textP l) (fun w => OutAt PT w g b40 [] [.slice none 0 0]) (fun w => ∃ A c, OutAt PT w g (p1 l.length) [] [.slice A l.length c] ∧ MsAt w A l)
      (fun w => ∃ A c, OutAt PT w g (p2 l.length) (textP l) [.slice A l.length c]) (fun w => ∃ A c, OutAt PT w g (p2 l.length) [] [.slice A l.length c]) := by
  have htl := textP_len l hl (fun x hx => (isB_iff.1 (hs x hx).2).1)
  refine ⟨fun w w' h hb => h.below hb, ?_, ?_, ?_, ?_, fun w i cs T fz h hi hT => out_kin h hi hT, ?_, ?_, ?_, ?_, ?_, ?_, ?_, ?_, ?_⟩
  · rintro w w' ⟨A, c, h⟩ hb; exact ⟨A, c, h.below hb⟩
  · rintro b w w' cs ⟨A, c, h, hm⟩ hb ho; exact ⟨A, c, out_oth h hb ho, ms_oth hm hb ho⟩
  · rintro b w w' cs ⟨A, c, h⟩ hb ho; exact ⟨A, c, out_oth h hb ho⟩
  · rintro b w w' cs ⟨A, c, h⟩ hb ho; exact ⟨A, c, out_oth h hb ho⟩
  · rintro w i cs T fz ⟨A, c, h, _⟩ hi hT; exact out_kin h hi hT
  · rintro w i cs T fz ⟨A, c, h⟩ hi hT; exact out_kin h hi hT
  · intro w A cap h hA
    exact pfeed_calls (cap := cap) h hA (by omega) hs
  · rintro w ⟨A, c, h, hm⟩
    exact (pend_calls h hm hl hs).mono fun e w' ⟨h1, h2, h3⟩ => ⟨h1, ⟨A, c, h2⟩, h3⟩
  · rintro w ⟨A, c, h⟩
    exact pdone_calls h rfl (by omega)
  · rintro w ⟨A, c, h⟩ _
    exact (pmore_calls h (by omega)).mono fun e w' ⟨h1, h2, h3⟩ => ⟨h1, ⟨A, c, h2⟩, h3⟩
  · rintro w ⟨A, c, h⟩
    exact pdone_calls h rfl (by simp)
  · rintro w ⟨A, c, h⟩
    exact ⟨_, h.base, rfl, rfl⟩
  · rintro w ⟨A, c, h⟩
    exact ⟨_, h.base, rfl, rfl⟩
theorem mk_p (v : Value) (w : World) : (Instr.makeInterface 119 v).run Tryz.prog w = .ok (.iface 119 v) w := run_makeInterface w 119 v (by kernel_rfl)
section
attribute [local go_sem] mk_p
theorem new2_7 {l : List Int} (hl : l.length ≤ 60) (hs : ∀ x ∈ l, 0 ≤ x ∧ isB x = true) (w : World) : Calls Tryz.prog 34 #[.int .i64 7] w (NewPost2 119 160 159 l [] (textP l) w) := by
  go_enter Tryz.func34, Tryz.ntmps34
  go_wp2_with fail
  refine (newp_calls _).mono ?_
  rintro e w1 ⟨rfl, h1, h2⟩
  go_wp2_with fail
  go_ret2
  refine ⟨_, _, _, _, _, _, mac_puny _ hl hs, rfl, h2, h1, ?_⟩
  intro i hi
  have hi : i = w.heap.size := hi
  omega
end
theorem encOK_puny : Dcd.EncOK 7 textP 60 := by
  refine ⟨by decide, by decide, by decide, fun l hs hl => ?_, fun l hs hl h1 => textP_pos l h1, fun {w A cap l} hL hs hl hcap _ => ?_⟩
  · have := textP_len l hl (fun x hx => (isB_iff.1 (hs x hx).2).1)
    omega
  · have := textP_len l hl (fun x hx => (isB_iff.1 (hs x hx).2).1)
    have h := encode2_puny (new2_7 hl hs) (by simp) (by omega) hL (by omega) hcap
    rwa [List.nil_append] at h
end Go.Proofs.YtooiooledeblmaaGreat.Pun
end
section
namespace Go.Proofs.YtooiooledeblmaaGreat.Win
open Go.RowKit
set_option linter.unusedVariables false
set_option linter.unusedSimpArgs false
set_option maxRecDepth 100000
def wTouch (u : List Int) (n : Int) : List Int := if 0 ≤ n ∧ n < 8 then u.erase n ++ [n] else u
theorem setRow_below (w : World) (g : Nat) (A B : Array Value) (t : TypeId) (hg : w.heap[g]? = some (.cells A t (0, 0))) : Chg (· = g) w (w.drew.setRow g B) ∧ (w.drew.setRow g B).heap[g]? = some (.cells B t (0, 0)) := by
  have hg' : w.drew.heap[g]? = some (.cells A t (0, 0)) := hg
  refine ⟨⟨rfl, rfl, rfl, ?_, fun i hi hs => ?_⟩, ?_⟩
  · show w.heap.size ≤ (w.heap.modify g _).size
    rw [Array.size_modify]; exact Nat.le_refl _
  · show (w.heap.modify g _)[i]? = w.heap[i]?
    rw [Array.getElem?_modify, if_neg (fun e => hs e.symm)]
  · exact setRow_heap w.drew g A B t (0, 0) hg'
theorem src_of {w : World} {g : Nat} {o u : List Int} (h : WinAt w g o u) (p : Nat) (hp : p ≤ 8) : ∀ (j : Nat) (v : Value), ((u.drop p).map fun x => Value.int .i64 x)[j]? = some v → w.drew.cell? ((⟨g, 8 + p, none⟩ : Addr).add j) = some v := by
  intro j v hj
  have hadd : (⟨g, 8 + p, none⟩ : Addr).add j = ⟨g, 8 + (p + j), none⟩ := by unfold Addr.add; split <;> simp_all [Nat.add_assoc]
  have hlt : p + j < 8 := by
    have := (List.getElem?_eq_some_iff.1 hj).1
    simp [h.lu] at this
    omega
  rw [hadd]
  show w.cell? _ = _
  rw [h.cellU (p + j) hlt]
  rw [List.getElem?_map, List.getElem?_drop] at hj
  rw [List.getD_eq_getElem?_getD]
  cases hq : u[p + j]? with
  | none => rw [hq] at hj; simp at hj
  | some x => rw [hq] at hj; simpa using hj
set_option maxHeartbeats 2000000 in
theorem touch_0 (g : Nat) (o : List Int) (n : Int) (b0 b1 b2 b3 b4 b5 b6 b7 : Int) (w : World) (h : WinAt w g o [b0, b1, b2, b3, b4, b5, b6, b7]) (hn : 0 ≤ n) (hn2 : n < 8)  (e0 : (b0 == n) = true) :
    Calls Tryz.prog 217 #[.pointer (some ⟨g, 0, none⟩), .int .i64 n] w fun e w' => e = .returned (.tuple #[]) ∧ WinAt w' g o [b1, b2, b3, b4, b5, b6, b7, n] ∧ Chg (· = g) w w' := by
  have hlo := h.lo
  have hne : ∀ z : Int, 0 ≤ z → z < 0 → (([b0, b1, b2, b3, b4, b5, b6, b7].getD z.toNat 0 : Int) == n) = false := by
    intro z hz0 hz1
    omega
  have HW := Lib.hid h
  have hf := h.frozen
  have hi := is_calls n
  rw [show (decide (0 ≤ n) && decide (n < 8)) = true from by simp; omega] at hi
  obtain ⟨W1, hW1⟩ : ∃ W1, W1 = w.drew.setRow g (winCells o [b1, b2, b3, b4, b5, b6, b7, b7]).toArray := ⟨_, rfl⟩
  obtain ⟨hch, hbl⟩ := setRow_below w g _ (winCells o [b1, b2, b3, b4, b5, b6, b7, b7]).toArray _ h.blk
  rw [← hW1] at hch hbl
  have hcp : (Builtin.copy_ #[26, 26] 3 #[.slice (some ⟨g, 8, none⟩) 8 8, .slice (some ⟨g, 9, none⟩) 7 7]).run Tryz.prog w.drew = .ok (.int .i64 7) W1 := by
    rw [hW1]
    refine (run_copy_row _ w.drew _ _ _ 3 g 8 8 8 ⟨g, 9, none⟩ 7 7 _ _ [.int .i64 b1, .int .i64 b2, .int .i64 b3, .int .i64 b4, .int .i64 b5, .int .i64 b6, .int .i64 b7] (by kernel_rfl) (by kernel_rfl) h.blk (by rfl) (src_of h 1 (by decide)) (by simp [winCells, hlo]) (by simp [Value.oneCell'])).trans ?_
    show Result.ok _ _ = _
    congr 2
    simp [winCells, List.take_append, List.drop_append, hlo, List.take_of_length_le, List.drop_of_length_le]
  have hW1' : WinAt W1 g o [b1, b2, b3, b4, b5, b6, b7, b7] := ⟨hbl, hlo, rfl⟩
  have hc15 : W1.cell? ⟨g, 15, none⟩ = some (.int .i64 b7) := hW1'.cellU 7 (by decide)
  have hf15 : W1.frozen? ⟨g, 15, none⟩ = false := hW1'.frozen 15
  have HW1 := Lib.hid hW1'
  have HCH := Lib.hid hch
  clear h hlo hne hW1 hch hbl hW1'
  go_enter Tryz.func217, Tryz.ntmps217
  go_wp2_with (go_at_call 224; refine (hi _).mono ?_; rintro e w1 ⟨rfl, rfl⟩)
  go_loop [4] (fun i => ∃ z : Int, i = .int .i64 z ∧ 0 ≤ z ∧ z ≤ 0) (fun i => 8 - (intOf i).toNat)
  case atStart => exact ⟨0, rfl, by decide, by decide⟩
  case round =>
    obtain ⟨z, rfl, hz0, hz1⟩ := hrel
    by_cases hlt : z < 0
    · exact absurd hlt (by omega)
    · obtain rfl : z = 0 := by omega
      have hcz : w.cell? ⟨g, 8, none⟩ = some (.int .i64 b0) := HW.out.cellU 0 (by decide)
      have hnz : (b0 == n) = true := by simpa using e0
      go_wp2
      go_region
      go_wp2
      go_end0
      refine ⟨rfl, ?_, HCH.out.trans (Chg.set (S := (· = g)) _ rfl _ _)⟩
      exact HW1.out.setU 7 (by decide) n
set_option maxHeartbeats 2000000 in
theorem touch_1 (g : Nat) (o : List Int) (n : Int) (b0 b1 b2 b3 b4 b5 b6 b7 : Int) (w : World) (h : WinAt w g o [b0, b1, b2, b3, b4, b5, b6, b7]) (hn : 0 ≤ n) (hn2 : n < 8) (e0 : (b0 == n) = false) (e1 : (b1 == n) = true) :
    Calls Tryz.prog 217 #[.pointer (some ⟨g, 0, none⟩), .int .i64 n] w fun e w' => e = .returned (.tuple #[]) ∧ WinAt w' g o [b0, b2, b3, b4, b5, b6, b7, n] ∧ Chg (· = g) w w' := by
  have hlo := h.lo
  have hne : ∀ z : Int, 0 ≤ z → z < 1 → (([b0, b1, b2, b3, b4, b5, b6, b7].getD z.toNat 0 : Int) == n) = false := by
    intro z hz0 hz1
    have hz : z = 0 := by omega
    rcases hz with rfl
    · exact e0
  have HNE := Lib.hid hne
  have HW := Lib.hid h
  have hf := h.frozen
  have hi := is_calls n
  rw [show (decide (0 ≤ n) && decide (n < 8)) = true from by simp; omega] at hi
  obtain ⟨W1, hW1⟩ : ∃ W1, W1 = w.drew.setRow g (winCells o [b0, b2, b3, b4, b5, b6, b7, b7]).toArray := ⟨_, rfl⟩
  obtain ⟨hch, hbl⟩ := setRow_below w g _ (winCells o [b0, b2, b3, b4, b5, b6, b7, b7]).toArray _ h.blk
  rw [← hW1] at hch hbl
  have hcp : (Builtin.copy_ #[26, 26] 3 #[.slice (some ⟨g, 9, none⟩) 7 7, .slice (some ⟨g, 10, none⟩) 6 6]).run Tryz.prog w.drew = .ok (.int .i64 6) W1 := by
    rw [hW1]
    refine (run_copy_row _ w.drew _ _ _ 3 g 9 7 7 ⟨g, 10, none⟩ 6 6 _ _ [.int .i64 b2, .int .i64 b3, .int .i64 b4, .int .i64 b5, .int .i64 b6, .int .i64 b7] (by kernel_rfl) (by kernel_rfl) h.blk (by rfl) (src_of h 2 (by decide)) (by simp [winCells, hlo]) (by simp [Value.oneCell'])).trans ?_
    show Result.ok _ _ = _
    congr 2
    simp [winCells, List.take_append, List.drop_append, hlo, List.take_of_length_le, List.drop_of_length_le]
  have hW1' : WinAt W1 g o [b0, b2, b3, b4, b5, b6, b7, b7] := ⟨hbl, hlo, rfl⟩
  have hc15 : W1.cell? ⟨g, 15, none⟩ = some (.int .i64 b7) := hW1'.cellU 7 (by decide)
  have hf15 : W1.frozen? ⟨g, 15, none⟩ = false := hW1'.frozen 15
  have HW1 := Lib.hid hW1'
  have HCH := Lib.hid hch
  clear h hlo hne hW1 hch hbl hW1'
  go_enter Tryz.func217, Tryz.ntmps217
  go_wp2_with (go_at_call 224; refine (hi _).mono ?_; rintro e w1 ⟨rfl, rfl⟩)
  go_loop [4] (fun i => ∃ z : Int, i = .int .i64 z ∧ 0 ≤ z ∧ z ≤ 1) (fun i => 8 - (intOf i).toNat)
  case atStart => exact ⟨0, rfl, by decide, by decide⟩
  case round =>
    obtain ⟨z, rfl, hz0, hz1⟩ := hrel
    by_cases hlt : z < 1
    · have hcz := HW.out.cellU z.toNat (by omega)
      have hnz := HNE.out z hz0 hlt
      generalize ([b0, b1, b2, b3, b4, b5, b6, b7].getD z.toNat 0 : Int) = bz at hcz hnz
      clear hcp hc15 hf15
      go_wp2
      exact ⟨⟨z + 1, by rfl, by omega, by omega⟩, by simp [intOf]; omega⟩
    · obtain rfl : z = 1 := by omega
      have hcz : w.cell? ⟨g, 9, none⟩ = some (.int .i64 b1) := HW.out.cellU 1 (by decide)
      have hnz : (b1 == n) = true := by simpa using e1
      go_wp2
      go_region
      go_wp2
      go_end0
      refine ⟨rfl, ?_, HCH.out.trans (Chg.set (S := (· = g)) _ rfl _ _)⟩
      exact HW1.out.setU 7 (by decide) n
set_option maxHeartbeats 2000000 in
theorem touch_2 (g : Nat) (o : List Int) (n : Int) (b0 b1 b2 b3 b4 b5 b6 b7 : Int) (w : World) (h : WinAt w g o [b0, b1, b2, b3, b4, b5, b6, b7]) (hn : 0 ≤ n) (hn2 : n < 8) (e0 : (b0 == n) = false) (e1 : (b1 == n) = false) (e2 : (b2 == n) = true) :
    Calls Tryz.prog 217 #[.pointer (some ⟨g, 0, none⟩), .int .i64 n] w fun e w' => e = .returned (.tuple #[]) ∧ WinAt w' g o [b0, b1, b3, b4, b5, b6, b7, n] ∧ Chg (· = g) w w' := by
  have hlo := h.lo
  have hne : ∀ z : Int, 0 ≤ z → z < 2 → (([b0, b1, b2, b3, b4, b5, b6, b7].getD z.toNat 0 : Int) == n) = false := by
    intro z hz0 hz1
    have hz : z = 0 ∨ z = 1 := by omega
    rcases hz with rfl | rfl
    · exact e0
    · exact e1
  have HNE := Lib.hid hne
  have HW := Lib.hid h
  have hf := h.frozen
  have hi := is_calls n
  rw [show (decide (0 ≤ n) && decide (n < 8)) = true from by simp; omega] at hi
  obtain ⟨W1, hW1⟩ : ∃ W1, W1 = w.drew.setRow g (winCells o [b0, b1, b3, b4, b5, b6, b7, b7]).toArray := ⟨_, rfl⟩
  obtain ⟨hch, hbl⟩ := setRow_below w g _ (winCells o [b0, b1, b3, b4, b5, b6, b7, b7]).toArray _ h.blk
  rw [← hW1] at hch hbl
  have hcp : (Builtin.copy_ #[26, 26] 3 #[.slice (some ⟨g, 10, none⟩) 6 6, .slice (some ⟨g, 11, none⟩) 5 5]).run Tryz.prog w.drew = .ok (.int .i64 5) W1 := by
    rw [hW1]
    refine (run_copy_row _ w.drew _ _ _ 3 g 10 6 6 ⟨g, 11, none⟩ 5 5 _ _ [.int .i64 b3, .int .i64 b4, .int .i64 b5, .int .i64 b6, .int .i64 b7] (by kernel_rfl) (by kernel_rfl) h.blk (by rfl) (src_of h 3 (by decide)) (by simp [winCells, hlo]) (by simp [Value.oneCell'])).trans ?_
    show Result.ok _ _ = _
    congr 2
    simp [winCells, List.take_append, List.drop_append, hlo, List.take_of_length_le, List.drop_of_length_le]
  have hW1' : WinAt W1 g o [b0, b1, b3, b4, b5, b6, b7, b7] := ⟨hbl, hlo, rfl⟩
  have hc15 : W1.cell? ⟨g, 15, none⟩ = some (.int .i64 b7) := hW1'.cellU 7 (by decide)
  have hf15 : W1.frozen? ⟨g, 15, none⟩ = false := hW1'.frozen 15
  have HW1 := Lib.hid hW1'
  have HCH := Lib.hid hch
  clear h hlo hne hW1 hch hbl hW1'
  go_enter Tryz.func217, Tryz.ntmps217
  go_wp2_with (go_at_call 224; refine (hi _).mono ?_; rintro e w1 ⟨rfl, rfl⟩)
  go_loop [4] (fun i => ∃ z : Int, i = .int .i64 z ∧ 0 ≤ z ∧ z ≤ 2) (fun i => 8 - (intOf i).toNat)
  case atStart => exact ⟨0, rfl, by decide, by decide⟩
  case round =>
    obtain ⟨z, rfl, hz0, hz1⟩ := hrel
    by_cases hlt : z < 2
    · have hcz := HW.out.cellU z.toNat (by omega)
      have hnz := HNE.out z hz0 hlt
      generalize ([b0, b1, b2, b3, b4, b5, b6, b7].getD z.toNat 0 : Int) = bz at hcz hnz
      clear hcp hc15 hf15
      go_wp2
      exact ⟨⟨z + 1, by rfl, by omega, by omega⟩, by simp [intOf]; omega⟩
    · obtain rfl : z = 2 := by omega
      have hcz : w.cell? ⟨g, 10, none⟩ = some (.int .i64 b2) := HW.out.cellU 2 (by decide)
      have hnz : (b2 == n) = true := by simpa using e2
      go_wp2
      go_region
      go_wp2
      go_end0
      refine ⟨rfl, ?_, HCH.out.trans (Chg.set (S := (· = g)) _ rfl _ _)⟩
      exact HW1.out.setU 7 (by decide) n
set_option maxHeartbeats 2000000 in
theorem touch_3 (g : Nat) (o : List Int) (n : Int) (b0 b1 b2 b3 b4 b5 b6 b7 : Int) (w : World) (h : WinAt w g o [b0, b1, b2, b3, b4, b5, b6, b7]) (hn : 0 ≤ n) (hn2 : n < 8) (e0 : (b0 == n) = false) (e1 : (b1 == n) = false) (e2 : (b2 == n) = false) (e3 : (b3 == n) = true) :
    Calls Tryz.prog 217 #[.pointer (some ⟨g, 0, none⟩), .int .i64 n] w fun e w' => e = .returned (.tuple #[]) ∧ WinAt w' g o [b0, b1, b2, b4, b5, b6, b7, n] ∧ Chg (· = g) w w' := by
  have hlo := h.lo
  have hne : ∀ z : Int, 0 ≤ z → z < 3 → (([b0, b1, b2, b3, b4, b5, b6, b7].getD z.toNat 0 : Int) == n) = false := by
    intro z hz0 hz1
    have hz : z = 0 ∨ z = 1 ∨ z = 2 := by omega
    rcases hz with rfl | rfl | rfl
    · exact e0
    · exact e1
    · exact e2
  have HNE := Lib.hid hne
  have HW := Lib.hid h
  have hf := h.frozen
  have hi := is_calls n
  rw [show (decide (0 ≤ n) && decide (n < 8)) = true from by simp; omega] at hi
  obtain ⟨W1, hW1⟩ : ∃ W1, W1 = w.drew.setRow g (winCells o [b0, b1, b2, b4, b5, b6, b7, b7]).toArray := ⟨_, rfl⟩
  obtain ⟨hch, hbl⟩ := setRow_below w g _ (winCells o [b0, b1, b2, b4, b5, b6, b7, b7]).toArray _ h.blk
  rw [← hW1] at hch hbl
  have hcp : (Builtin.copy_ #[26, 26] 3 #[.slice (some ⟨g, 11, none⟩) 5 5, .slice (some ⟨g, 12, none⟩) 4 4]).run Tryz.prog w.drew = .ok (.int .i64 4) W1 := by
    rw [hW1]
    refine (run_copy_row _ w.drew _ _ _ 3 g 11 5 5 ⟨g, 12, none⟩ 4 4 _ _ [.int .i64 b4, .int .i64 b5, .int .i64 b6, .int .i64 b7] (by kernel_rfl) (by kernel_rfl) h.blk (by rfl) (src_of h 4 (by decide)) (by simp [winCells, hlo]) (by simp [Value.oneCell'])).trans ?_
    show Result.ok _ _ = _
    congr 2
    simp [winCells, List.take_append, List.drop_append, hlo, List.take_of_length_le, List.drop_of_length_le]
  have hW1' : WinAt W1 g o [b0, b1, b2, b4, b5, b6, b7, b7] := ⟨hbl, hlo, rfl⟩
  have hc15 : W1.cell? ⟨g, 15, none⟩ = some (.int .i64 b7) := hW1'.cellU 7 (by decide)
  have hf15 : W1.frozen? ⟨g, 15, none⟩ = false := hW1'.frozen 15
  have HW1 := Lib.hid hW1'
  have HCH := Lib.hid hch
  clear h hlo hne hW1 hch hbl hW1'
  go_enter Tryz.func217, Tryz.ntmps217
  go_wp2_with (go_at_call 224; refine (hi _).mono ?_; rintro e w1 ⟨rfl, rfl⟩)
  go_loop [4] (fun i => ∃ z : Int, i = .int .i64 z ∧ 0 ≤ z ∧ z ≤ 3) (fun i => 8 - (intOf i).toNat)
  case atStart => exact ⟨0, rfl, by decide, by decide⟩
  case round =>
    obtain ⟨z, rfl, hz0, hz1⟩ := hrel
    by_cases hlt : z < 3
    · have hcz := HW.out.cellU z.toNat (by omega)
      have hnz := HNE.out z hz0 hlt
      generalize ([b0, b1, b2, b3, b4, b5, b6, b7].getD z.toNat 0 : Int) = bz at hcz hnz
      clear hcp hc15 hf15
      go_wp2
      exact ⟨⟨z + 1, by rfl, by omega, by omega⟩, by simp [intOf]; omega⟩
    · obtain rfl : z = 3 := by omega
      have hcz : w.cell? ⟨g, 11, none⟩ = some (.int .i64 b3) := HW.out.cellU 3 (by decide)
      have hnz : (b3 == n) = true := by simpa using e3
      go_wp2
      go_region
      go_wp2
      go_end0
      refine ⟨rfl, ?_, HCH.out.trans (Chg.set (S := (· = g)) _ rfl _ _)⟩
      exact HW1.out.setU 7 (by decide) n
set_option maxHeartbeats 2000000 in
theorem touch_4 (g : Nat) (o : List Int) (n : Int) (b0 b1 b2 b3 b4 b5 b6 b7 : Int) (w : World) (h : WinAt w g o [b0, b1, b2, b3, b4, b5, b6, b7]) (hn : 0 ≤ n) (hn2 : n < 8) (e0 : (b0 == n) = false) (e1 : (b1 == n) = false) (e2 : (b2 == n) = false) (e3 : (b3 == n) = false) (e4 : (b4 == n) = true) :
    Calls Tryz.prog 217 #[.pointer (some ⟨g, 0, none⟩), .int .i64 n] w fun e w' => e = .returned (.tuple #[]) ∧ WinAt w' g o [b0, b1, b2, b3, b5, b6, b7, n] ∧ Chg (· = g) w w' := by
  have hlo := h.lo
  have hne : ∀ z : Int, 0 ≤ z → z < 4 → (([b0, b1, b2, b3, b4, b5, b6, b7].getD z.toNat 0 : Int) == n) = false := by
    intro z hz0 hz1
    have hz : z = 0 ∨ z = 1 ∨ z = 2 ∨ z = 3 := by omega
    rcases hz with rfl | rfl | rfl | rfl
    · exact e0
    · exact e1
    · exact e2
    · exact e3
  have HNE := Lib.hid hne
  have HW := Lib.hid h
  have hf := h.frozen
  have hi := is_calls n
  rw [show (decide (0 ≤ n) && decide (n < 8)) = true from by simp; omega] at hi
  obtain ⟨W1, hW1⟩ : ∃ W1, W1 = w.drew.setRow g (winCells o [b0, b1, b2, b3, b5, b6, b7, b7]).toArray := ⟨_, rfl⟩
  obtain ⟨hch, hbl⟩ := setRow_below w g _ (winCells o [b0, b1, b2, b3, b5, b6, b7, b7]).toArray _ h.blk
  rw [← hW1] at hch hbl
  have hcp : (Builtin.copy_ #[26, 26] 3 #[.slice (some ⟨g, 12, none⟩) 4 4, .slice (some ⟨g, 13, none⟩) 3 3]).run Tryz.prog w.drew = .ok (.int .i64 3) W1 := by
    rw [hW1]
    refine (run_copy_row _ w.drew _ _ _ 3 g 12 4 4 ⟨g, 13, none⟩ 3 3 _ _ [.int .i64 b5, .int .i64 b6, .int .i64 b7] (by kernel_rfl) (by kernel_rfl) h.blk (by rfl) (src_of h 5 (by decide)) (by simp [winCells, hlo]) (by simp [Value.oneCell'])).trans ?_
    show Result.ok _ _ = _
    congr 2
    simp [winCells, List.take_append, List.drop_append, hlo, List.take_of_length_le, List.drop_of_length_le]
  have hW1' : WinAt W1 g o [b0, b1, b2, b3, b5, b6, b7, b7] := ⟨hbl, hlo, rfl⟩
  have hc15 : W1.cell? ⟨g, 15, none⟩ = some (.int .i64 b7) := hW1'.cellU 7 (by decide)
  have hf15 : W1.frozen? ⟨g, 15, none⟩ = false := hW1'.frozen 15
  have HW1 := Lib.hid hW1'
  have HCH := Lib.hid hch
  clear h hlo hne hW1 hch hbl hW1'
  go_enter Tryz.func217, Tryz.ntmps217
  go_wp2_with (go_at_call 224; refine (hi _).mono ?_; rintro e w1 ⟨rfl, rfl⟩)
  go_loop [4] (fun i => ∃ z : Int, i = .int .i64 z ∧ 0 ≤ z ∧ z ≤ 4) (fun i => 8 - (intOf i).toNat)
  case atStart => exact ⟨0, rfl, by decide, by decide⟩
  case round =>
    obtain ⟨z, rfl, hz0, hz1⟩ := hrel
    by_cases hlt : z < 4
    · have hcz := HW.out.cellU z.toNat (by omega)
      have hnz := HNE.out z hz0 hlt
      generalize ([b0, b1, b2, b3, b4, b5, b6, b7].getD z.toNat 0 : Int) = bz at hcz hnz
      clear hcp hc15 hf15
      go_wp2
      exact ⟨⟨z + 1, by rfl, by omega, by omega⟩, by simp [intOf]; omega⟩
    · obtain rfl : z = 4 := by omega
      have hcz : w.cell? ⟨g, 12, none⟩ = some (.int .i64 b4) := HW.out.cellU 4 (by decide)
      have hnz : (b4 == n) = true := by simpa using e4
      go_wp2
      go_region
      go_wp2
      go_end0
      refine ⟨rfl, ?_, HCH.out.trans (Chg.set (S := (· = g)) _ rfl _ _)⟩
      exact HW1.out.setU 7 (by decide) n
set_option maxHeartbeats 2000000 in
theorem touch_5 (g : Nat) (o : List Int) (n : Int) (b0 b1 b2 b3 b4 b5 b6 b7 : Int) (w : World) (h : WinAt w g o [b0, b1, b2, b3, b4, b5, b6, b7]) (hn : 0 ≤ n) (hn2 : n < 8) (e0 : (b0 == n) = false) (e1 : (b1 == n) = false) (e2 : (b2 == n) = false) (e3 : (b3 == n) = false) (e4 : (b4 == n) = false) (e5 : (b5 == n) = true) :
    Calls Tryz.prog 217 #[.pointer (some ⟨g, 0, none⟩), .int .i64 n] w fun e w' => e = .returned (.tuple #[]) ∧ WinAt w' g o [b0, b1, b2, b3, b4, b6, b7, n] ∧ Chg (· = g) w w' := by
  have hlo := h.lo
  have hne : ∀ z : Int, 0 ≤ z → z < 5 → (([b0, b1, b2, b3, b4, b5, b6, b7].getD z.toNat 0 : Int) == n) = false := by
    intro z hz0 hz1
    have hz : z = 0 ∨ z = 1 ∨ z = 2 ∨ z = 3 ∨ z = 4 := by omega
    rcases hz with rfl | rfl | rfl | rfl | rfl
    · exact e0
    · exact e1
    · exact e2
    · exact e3
    · exact e4
  have HNE := Lib.hid hne
  have HW := Lib.hid h
  have hf := h.frozen
  have hi := is_calls n
  rw [show (decide (0 ≤ n) && decide (n < 8)) = true from by simp; omega] at hi
  obtain ⟨W1, hW1⟩ : ∃ W1, W1 = w.drew.setRow g (winCells o [b0, b1, b2, b3, b4, b6, b7, b7]).toArray := ⟨_, rfl⟩
  obtain ⟨hch, hbl⟩ := setRow_below w g _ (winCells o [b0, b1, b2, b3, b4, b6, b7, b7]).toArray _ h.blk
  rw [← hW1] at hch hbl
  have hcp : (Builtin.copy_ #[26, 26] 3 #[.slice (some ⟨g, 13, none⟩) 3 3, .slice (some ⟨g, 14, none⟩) 2 2]).run Tryz.prog w.drew = .ok (.int .i64 2) W1 := by
    rw [hW1]
    refine (run_copy_row _ w.drew _ _ _ 3 g 13 3 3 ⟨g, 14, none⟩ 2 2 _ _ [.int .i64 b6, .int .i64 b7] (by kernel_rfl) (by kernel_rfl) h.blk (by rfl) (src_of h 6 (by decide)) (by simp [winCells, hlo]) (by simp [Value.oneCell'])).trans ?_
    show Result.ok _ _ = _
    congr 2
    simp [winCells, List.take_append, List.drop_append, hlo, List.take_of_length_le, List.drop_of_length_le]
  have hW1' : WinAt W1 g o [b0, b1, b2, b3, b4, b6, b7, b7] := ⟨hbl, hlo, rfl⟩
  have hc15 : W1.cell? ⟨g, 15, none⟩ = some (.int .i64 b7) := hW1'.cellU 7 (by decide)
  have hf15 : W1.frozen? ⟨g, 15, none⟩ = false := hW1'.frozen 15
  have HW1 := Lib.hid hW1'
  have HCH := Lib.hid hch
  clear h hlo hne hW1 hch hbl hW1'
  go_enter Tryz.func217, Tryz.ntmps217
  go_wp2_with (go_at_call 224; refine (hi _).mono ?_; rintro e w1 ⟨rfl, rfl⟩)
  go_loop [4] (fun i => ∃ z : Int, i = .int .i64 z ∧ 0 ≤ z ∧ z ≤ 5) (fun i => 8 - (intOf i).toNat)
  case atStart => exact ⟨0, rfl, by decide, by decide⟩
  case round =>
    obtain ⟨z, rfl, hz0, hz1⟩ := hrel
    by_cases hlt : z < 5
    · have hcz := HW.out.cellU z.toNat (by omega)
      have hnz := HNE.out z hz0 hlt
      generalize ([b0, b1, b2, b3, b4, b5, b6, b7].getD z.toNat 0 : Int) = bz at hcz hnz
      clear hcp hc15 hf15
      go_wp2
      exact ⟨⟨z + 1, by rfl, by omega, by omega⟩, by simp [intOf]; omega⟩
    · obtain rfl : z = 5 := by omega
      have hcz : w.cell? ⟨g, 13, none⟩ = some (.int .i64 b5) := HW.out.cellU 5 (by decide)
      have hnz : (b5 == n) = true := by simpa using e5
      go_wp2
      go_region
      go_wp2
      go_end0
      refine ⟨rfl, ?_, HCH.out.trans (Chg.set (S := (· = g)) _ rfl _ _)⟩
      exact HW1.out.setU 7 (by decide) n
set_option maxHeartbeats 2000000 in
theorem touch_6 (g : Nat) (o : List Int) (n : Int) (b0 b1 b2 b3 b4 b5 b6 b7 : Int) (w : World) (h : WinAt w g o [b0, b1, b2, b3, b4, b5, b6, b7]) (hn : 0 ≤ n) (hn2 : n < 8) (e0 : (b0 == n) = false) (e1 : (b1 == n) = false) (e2 : (b2 == n) = false) (e3 : (b3 == n) = false) (e4 : (b4 == n) = false) (e5 : (b5 == n) = false) (e6 : (b6 == n) = true) :
    Calls Tryz.prog 217 #[.pointer (some ⟨g, 0, none⟩), .int .i64 n] w fun e w' => e = .returned (.tuple #[]) ∧ WinAt w' g o [b0, b1, b2, b3, b4, b5, b7, n] ∧ Chg (· = g) w w' := by
  have hlo := h.lo
  have hne : ∀ z : Int, 0 ≤ z → z < 6 → (([b0, b1, b2, b3, b4, b5, b6, b7].getD z.toNat 0 : Int) == n) = false := by
    intro z hz0 hz1
    have hz : z = 0 ∨ z = 1 ∨ z = 2 ∨ z = 3 ∨ z = 4 ∨ z = 5 := by omega
    rcases hz with rfl | rfl | rfl | rfl | rfl | rfl
    · exact e0
    · exact e1
    · exact e2
    · exact e3
    · exact e4
    · exact e5
  have HNE := Lib.hid hne
  have HW := Lib.hid h
  have hf := h.frozen
  have hi := is_calls n
  rw [show (decide (0 ≤ n) && decide (n < 8)) = true from by simp; omega] at hi
  obtain ⟨W1, hW1⟩ : ∃ W1, W1 = w.drew.setRow g (winCells o [b0, b1, b2, b3, b4, b5, b7, b7]).toArray := ⟨_, rfl⟩
  obtain ⟨hch, hbl⟩ := setRow_below w g _ (winCells o [b0, b1, b2, b3, b4, b5, b7, b7]).toArray _ h.blk
  rw [← hW1] at hch hbl
  have hcp : (Builtin.copy_ #[26, 26] 3 #[.slice (some ⟨g, 14, none⟩) 2 2, .slice (some ⟨g, 15, none⟩) 1 1]).run Tryz.prog w.drew = .ok (.int .i64 1) W1 := by
    rw [hW1]
    refine (run_copy_row _ w.drew _ _ _ 3 g 14 2 2 ⟨g, 15, none⟩ 1 1 _ _ [.int .i64 b7] (by kernel_rfl) (by kernel_rfl) h.blk (by rfl) (src_of h 7 (by decide)) (by simp [winCells, hlo]) (by simp [Value.oneCell'])).trans ?_
    show Result.ok _ _ = _
    congr 2
    simp [winCells, List.take_append, List.drop_append, hlo, List.take_of_length_le, List.drop_of_length_le]
  have hW1' : WinAt W1 g o [b0, b1, b2, b3, b4, b5, b7, b7] := ⟨hbl, hlo, rfl⟩
  have hc15 : W1.cell? ⟨g, 15, none⟩ = some (.int .i64 b7) := hW1'.cellU 7 (by decide)
  have hf15 : W1.frozen? ⟨g, 15, none⟩ = false := hW1'.frozen 15
  have HW1 := Lib.hid hW1'
  have HCH := Lib.hid hch
  clear h hlo hne hW1 hch hbl hW1'
  go_enter Tryz.func217, Tryz.ntmps217
  go_wp2_with (go_at_call 224; refine (hi _).mono ?_; rintro e w1 ⟨rfl, rfl⟩)
  go_loop [4] (fun i => ∃ z : Int, i = .int .i64 z ∧ 0 ≤ z ∧ z ≤ 6) (fun i => 8 - (intOf i).toNat)
  case atStart => exact ⟨0, rfl, by decide, by decide⟩
  case round =>
    obtain ⟨z, rfl, hz0, hz1⟩ := hrel
    by_cases hlt : z < 6
    · have hcz := HW.out.cellU z.toNat (by omega)
      have hnz := HNE.out z hz0 hlt
      generalize ([b0, b1, b2, b3, b4, b5, b6, b7].getD z.toNat 0 : Int) = bz at hcz hnz
      clear hcp hc15 hf15
      go_wp2
      exact ⟨⟨z + 1, by rfl, by omega, by omega⟩, by simp [intOf]; omega⟩
    · obtain rfl : z = 6 := by omega
      have hcz : w.cell? ⟨g, 14, none⟩ = some (.int .i64 b6) := HW.out.cellU 6 (by decide)
      have hnz : (b6 == n) = true := by simpa using e6
      go_wp2
      go_region
      go_wp2
      go_end0
      refine ⟨rfl, ?_, HCH.out.trans (Chg.set (S := (· = g)) _ rfl _ _)⟩
      exact HW1.out.setU 7 (by decide) n
set_option maxHeartbeats 2000000 in
theorem touch_7 (g : Nat) (o : List Int) (n : Int) (b0 b1 b2 b3 b4 b5 b6 b7 : Int) (w : World) (h : WinAt w g o [b0, b1, b2, b3, b4, b5, b6, b7]) (hn : 0 ≤ n) (hn2 : n < 8) (e0 : (b0 == n) = false) (e1 : (b1 == n) = false) (e2 : (b2 == n) = false) (e3 : (b3 == n) = false) (e4 : (b4 == n) = false) (e5 : (b5 == n) = false) (e6 : (b6 == n) = false) (e7 : (b7 == n) = true) :
    Calls Tryz.prog 217 #[.pointer (some ⟨g, 0, none⟩), .int .i64 n] w fun e w' => e = .returned (.tuple #[]) ∧ WinAt w' g o [b0, b1, b2, b3, b4, b5, b6, n] ∧ Chg (· = g) w w' := by
  have hlo := h.lo
  have hne : ∀ z : Int, 0 ≤ z → z < 7 → (([b0, b1, b2, b3, b4, b5, b6, b7].getD z.toNat 0 : Int) == n) = false := by
    intro z hz0 hz1
    have hz : z = 0 ∨ z = 1 ∨ z = 2 ∨ z = 3 ∨ z = 4 ∨ z = 5 ∨ z = 6 := by omega
    rcases hz with rfl | rfl | rfl | rfl | rfl | rfl | rfl
    · exact e0
    · exact e1
    · exact e2
    · exact e3
    · exact e4
    · exact e5
    · exact e6
  have HNE := Lib.hid hne
  have HW := Lib.hid h
  have hf := h.frozen
  have hi := is_calls n
  rw [show (decide (0 ≤ n) && decide (n < 8)) = true from by simp; omega] at hi
  obtain ⟨W1, hW1⟩ : ∃ W1, W1 = w.drew.setRow g (winCells o [b0, b1, b2, b3, b4, b5, b6, b7]).toArray := ⟨_, rfl⟩
  obtain ⟨hch, hbl⟩ := setRow_below w g _ (winCells o [b0, b1, b2, b3, b4, b5, b6, b7]).toArray _ h.blk
  rw [← hW1] at hch hbl
  have hcp : (Builtin.copy_ #[26, 26] 3 #[.slice (some ⟨g, 15, none⟩) 1 1, .slice (some ⟨g, 8, none⟩) 0 0]).run Tryz.prog w.drew = .ok (.int .i64 0) W1 := by
    rw [hW1]
    rw [setRow_self w.drew g _ _ _ h.blk]
    exact run_copy_none w.drew _ _ _ 3 _ _ _ _ _ _ (by kernel_rfl) (by kernel_rfl) (by rfl)
  have hW1' : WinAt W1 g o [b0, b1, b2, b3, b4, b5, b6, b7] := ⟨hbl, hlo, rfl⟩
  have hc15 : W1.cell? ⟨g, 15, none⟩ = some (.int .i64 b7) := hW1'.cellU 7 (by decide)
  have hf15 : W1.frozen? ⟨g, 15, none⟩ = false := hW1'.frozen 15
  have HW1 := Lib.hid hW1'
  have HCH := Lib.hid hch
  clear h hlo hne hW1 hch hbl hW1'
  go_enter Tryz.func217, Tryz.ntmps217
  go_wp2_with (go_at_call 224; refine (hi _).mono ?_; rintro e w1 ⟨rfl, rfl⟩)
  go_loop [4] (fun i => ∃ z : Int, i = .int .i64 z ∧ 0 ≤ z ∧ z ≤ 7) (fun i => 8 - (intOf i).toNat)
  case atStart => exact ⟨0, rfl, by decide, by decide⟩
  case round =>
    obtain ⟨z, rfl, hz0, hz1⟩ := hrel
    by_cases hlt : z < 7
    · have hcz := HW.out.cellU z.toNat (by omega)
      have hnz := HNE.out z hz0 hlt
      generalize ([b0, b1, b2, b3, b4, b5, b6, b7].getD z.toNat 0 : Int) = bz at hcz hnz
      clear hcp hc15 hf15
      go_wp2
      exact ⟨⟨z + 1, by rfl, by omega, by omega⟩, by simp [intOf]; omega⟩
    · obtain rfl : z = 7 := by omega
      have hcz : w.cell? ⟨g, 15, none⟩ = some (.int .i64 b7) := HW.out.cellU 7 (by decide)
      have hnz : (b7 == n) = true := by simpa using e7
      go_wp2
      go_region
      go_wp2
      go_end0
      refine ⟨rfl, ?_, HCH.out.trans (Chg.set (S := (· = g)) _ rfl _ _)⟩
      exact HW1.out.setU 7 (by decide) n
theorem touch_calls (g : Nat) (o u : List Int) (n : Int) (w : World) (h : WinAt w g o u) (hm : 0 ≤ n → n < 8 → n ∈ u) :
    Calls Tryz.prog 217 #[.pointer (some ⟨g, 0, none⟩), .int .i64 n] w fun e w' => e = .returned (.tuple #[]) ∧ WinAt w' g o (wTouch u n) ∧ Chg (· = g) w w' := by
  by_cases hn' : 0 ≤ n ∧ n < 8
  rotate_left
  · have he : wTouch u n = u := by unfold wTouch; rw [if_neg hn']
    rw [he]
    have hi := is_calls n
    rw [show (decide (0 ≤ n) && decide (n < 8)) = false from by simp; omega] at hi
    have HW := Lib.hid h
    clear h hn' he hm
    go_enter Tryz.func217, Tryz.ntmps217
    go_wp2_with (go_at_call 224; refine (hi _).mono ?_; rintro e w1 ⟨rfl, rfl⟩)
    exact bodyPost_ret (v := .tuple #[]) (by simp [results, Tryz.results217, go_sem]) rfl ⟨rfl, HW.out, Chg.refl _⟩
  obtain ⟨hn, hn2⟩ := hn'
  have hmem := hm hn hn2
  obtain ⟨b0, b1, b2, b3, b4, b5, b6, b7, rfl⟩ := list8 h.lu
  by_cases e0 : b0 = n
  · have he : wTouch [b0, b1, b2, b3, b4, b5, b6, b7] n = [b1, b2, b3, b4, b5, b6, b7, n] := by
      unfold wTouch
      rw [if_pos ⟨hn, hn2⟩]
      simp [List.erase_cons, e0]
    rw [he]
    exact touch_0 g o n b0 b1 b2 b3 b4 b5 b6 b7 w h hn hn2  (beq_iff_eq.2 e0)
  by_cases e1 : b1 = n
  · have he : wTouch [b0, b1, b2, b3, b4, b5, b6, b7] n = [b0, b2, b3, b4, b5, b6, b7, n] := by
      unfold wTouch
      rw [if_pos ⟨hn, hn2⟩]
      simp [List.erase_cons, e0, e1]
    rw [he]
    exact touch_1 g o n b0 b1 b2 b3 b4 b5 b6 b7 w h hn hn2 (beq_eq_false_iff_ne.2 e0) (beq_iff_eq.2 e1)
  by_cases e2 : b2 = n
  · have he : wTouch [b0, b1, b2, b3, b4, b5, b6, b7] n = [b0, b1, b3, b4, b5, b6, b7, n] := by
      unfold wTouch
      rw [if_pos ⟨hn, hn2⟩]
      simp [List.erase_cons, e0, e1, e2]
    rw [he]
    exact touch_2 g o n b0 b1 b2 b3 b4 b5 b6 b7 w h hn hn2 (beq_eq_false_iff_ne.2 e0) (beq_eq_false_iff_ne.2 e1) (beq_iff_eq.2 e2)
  by_cases e3 : b3 = n
  · have he : wTouch [b0, b1, b2, b3, b4, b5, b6, b7] n = [b0, b1, b2, b4, b5, b6, b7, n] := by
      unfold wTouch
      rw [if_pos ⟨hn, hn2⟩]
      simp [List.erase_cons, e0, e1, e2, e3]
    rw [he]
    exact touch_3 g o n b0 b1 b2 b3 b4 b5 b6 b7 w h hn hn2 (beq_eq_false_iff_ne.2 e0) (beq_eq_false_iff_ne.2 e1) (beq_eq_false_iff_ne.2 e2) (beq_iff_eq.2 e3)
  by_cases e4 : b4 = n
  · have he : wTouch [b0, b1, b2, b3, b4, b5, b6, b7] n = [b0, b1, b2, b3, b5, b6, b7, n] := by
      unfold wTouch
      rw [if_pos ⟨hn, hn2⟩]
      simp [List.erase_cons, e0, e1, e2, e3, e4]
    rw [he]
    exact touch_4 g o n b0 b1 b2 b3 b4 b5 b6 b7 w h hn hn2 (beq_eq_false_iff_ne.2 e0) (beq_eq_false_iff_ne.2 e1) (beq_eq_false_iff_ne.2 e2) (beq_eq_false_iff_ne.2 e3) (beq_iff_eq.2 e4)
  by_cases e5 : b5 = n
  · have he : wTouch [b0, b1, b2, b3, b4, b5, b6, b7] n = [b0, b1, b2, b3, b4, b6, b7, n] := by
      unfold wTouch
      rw [if_pos ⟨hn, hn2⟩]
      simp [List.erase_cons, e0, e1, e2, e3, e4, e5]
    rw [he]
    exact touch_5 g o n b0 b1 b2 b3 b4 b5 b6 b7 w h hn hn2 (beq_eq_false_iff_ne.2 e0) (beq_eq_false_iff_ne.2 e1) (beq_eq_false_iff_ne.2 e2) (beq_eq_false_iff_ne.2 e3) (beq_eq_false_iff_ne.2 e4) (beq_iff_eq.2 e5)
  by_cases e6 : b6 = n
  · have he : wTouch [b0, b1, b2, b3, b4, b5, b6, b7] n = [b0, b1, b2, b3, b4, b5, b7, n] := by
      unfold wTouch
      rw [if_pos ⟨hn, hn2⟩]
      simp [List.erase_cons, e0, e1, e2, e3, e4, e5, e6]
    rw [he]
    exact touch_6 g o n b0 b1 b2 b3 b4 b5 b6 b7 w h hn hn2 (beq_eq_false_iff_ne.2 e0) (beq_eq_false_iff_ne.2 e1) (beq_eq_false_iff_ne.2 e2) (beq_eq_false_iff_ne.2 e3) (beq_eq_false_iff_ne.2 e4) (beq_eq_false_iff_ne.2 e5) (beq_iff_eq.2 e6)
  by_cases e7 : b7 = n
  · have he : wTouch [b0, b1, b2, b3, b4, b5, b6, b7] n = [b0, b1, b2, b3, b4, b5, b6, n] := by
      unfold wTouch
      rw [if_pos ⟨hn, hn2⟩]
      simp [List.erase_cons, e0, e1, e2, e3, e4, e5, e6, e7]
    rw [he]
    exact touch_7 g o n b0 b1 b2 b3 b4 b5 b6 b7 w h hn hn2 (beq_eq_false_iff_ne.2 e0) (beq_eq_false_iff_ne.2 e1) (beq_eq_false_iff_ne.2 e2) (beq_eq_false_iff_ne.2 e3) (beq_eq_false_iff_ne.2 e4) (beq_eq_false_iff_ne.2 e5) (beq_eq_false_iff_ne.2 e6) (beq_iff_eq.2 e7)
  exfalso
  simp at hmem
  omega
end Go.Proofs.YtooiooledeblmaaGreat.Win
end
section
namespace Go.Proofs.YtooiooledeblmaaGreat.Enc
open Go.RowKit Go.Proofs.YtooiooledeblmaaGreat.Win Go.Proofs.YtooiooledeblmaaGreat.Stp
set_option linter.unusedVariables false
set_option linter.unusedSimpArgs false
/-- Where the compressor stands. -/
structure E where
  o : List Int
  u : List Int
  plain : Bool
  uni : Bool
  act : Int
  beh : Bool
  wt : Int
def encCells (b : B4) (l : List Int) (gw : Nat) (m : E) : Array Value :=
  #[.int .i64 b.at_, .int .i64 b.err, .int .i64 b.pl, .bool b.fin, .string (strOfNums l), .bool m.plain, .pointer (some ⟨gw, 0, none⟩), .bool m.uni, .int .i64 m.act, .bool m.beh, .int .u32 m.wt]
structure EncAt (w : World) (g gw : Nat) (b : B4) (l : List Int) (m : E) : Prop where
  blk : w.heap[g]? = some (.cells (encCells b l gw m) 186 (0, 0))
  win : WinAt w gw m.o m.u
section
variable {w : World} {g gw : Nat} {b : B4} {l : List Int} {m : E}
theorem EncAt.base (h : EncAt w g gw b l m) : BaseAt w g b := ⟨by rw [cell_of h.blk]; rfl, by rw [cell_of h.blk]; rfl, by rw [cell_of h.blk]; rfl, by rw [cell_of h.blk]; rfl, frozen_of h.blk⟩
theorem EncAt.fz (h : EncAt w g gw b l m) : ∀ j, w.frozen? ⟨g, j, none⟩ = false := frozen_of h.blk
theorem EncAt.c4 (h : EncAt w g gw b l m) : w.cell? ⟨g, 4, none⟩ = some (.string (strOfNums l)) := by rw [cell_of h.blk]; rfl
theorem EncAt.c5 (h : EncAt w g gw b l m) : w.cell? ⟨g, 5, none⟩ = some (.bool m.plain) := by rw [cell_of h.blk]; rfl
theorem EncAt.c6 (h : EncAt w g gw b l m) : w.cell? ⟨g, 6, none⟩ = some (.pointer (some ⟨gw, 0, none⟩)) := by rw [cell_of h.blk]; rfl
theorem EncAt.c7 (h : EncAt w g gw b l m) : w.cell? ⟨g, 7, none⟩ = some (.bool m.uni) := by rw [cell_of h.blk]; rfl
theorem EncAt.c8 (h : EncAt w g gw b l m) : w.cell? ⟨g, 8, none⟩ = some (.int .i64 m.act) := by rw [cell_of h.blk]; rfl
theorem EncAt.c9 (h : EncAt w g gw b l m) : w.cell? ⟨g, 9, none⟩ = some (.bool m.beh) := by rw [cell_of h.blk]; rfl
theorem EncAt.c10 (h : EncAt w g gw b l m) : w.cell? ⟨g, 10, none⟩ = some (.int .u32 m.wt) := by rw [cell_of h.blk]; rfl
theorem EncAt.lt (h : EncAt w g gw b l m) : g < w.heap.size := (Array.getElem?_eq_some_iff.1 h.blk).1
theorem EncAt.ne_gw (h : EncAt w g gw b l m) : gw ≠ g := by
  rintro rfl
  have := h.blk.symm.trans h.win.blk
  simp at this
theorem EncAt.set (h : EncAt w g gw b l m) (j : Nat) (x : Value) {b' : B4} {l' : List Int} {m' : E} (he : (encCells b l gw m).setIfInBounds j x = encCells b' l' gw m') (ho : m'.o = m.o) (hu : m'.u = m.u) : EncAt (w.setCell ⟨g, j, none⟩ x) g gw b' l' m' := by
  refine ⟨?_, ?_⟩
  · rw [heap_setCell_same w g j _ _ _ h.blk, he]
  · rw [ho, hu]; exact h.win.keep (Below.heap_setCell w _ _ gw h.ne_gw)
theorem EncAt.keep {w' : World} (h : EncAt w g gw b l m) (h0 : w'.heap[g]? = w.heap[g]?) (h1 : w'.heap[gw]? = w.heap[gw]?) : EncAt w' g gw b l m := ⟨h0.trans h.blk, h.win.keep h1⟩
theorem EncAt.below {w' : World} (h : EncAt w g gw b l m) (hb : Below w.heap.size w w') : EncAt w' g gw b l m := h.keep (hb.block g h.lt) (hb.block gw h.win.lt)
theorem EncAt.alloc (h : EncAt w g gw b l m) (o : Obj) : EncAt (w.alloc o) g gw b l m := h.keep (Below.heap_alloc w o g h.lt) (Below.heap_alloc w o gw h.win.lt)
theorem EncAt.drewN (h : EncAt w g gw b l m) (n : Nat) : EncAt (w.drewN n) g gw b l m := h.keep rfl rfl
theorem EncAt.wins {w' : World} {o u : List Int} (h : EncAt w g gw b l m) (hw : WinAt w' gw o u) (hc : Chg (· = gw) w w') : EncAt w' g gw b l { m with o := o, u := u } := ⟨(hc.block g h.lt (fun e => h.ne_gw e.symm)).trans h.blk, hw⟩
end
/-- What may turn of what was there. -/
def EFS (g gw : Nat) : Nat → Prop := fun i => i = g ∨ i = gw
theorem efs_g {g gw : Nat} {w : World} (j : Nat) (v : Value) : Chg (EFS g gw) w (w.setCell ⟨g, j, none⟩ v) := Chg.set w (.inl rfl) j v
theorem efs_gw {g gw : Nat} {w w' : World} (h : Chg (· = gw) w w') : Chg (EFS g gw) w w' := h.mono (fun i hi => .inr hi)
theorem str_append (a b : List Int) : strOfNums a ++ strOfNums b = strOfNums (a ++ b) := by
  have : (strOfNums a ++ strOfNums b).data = (strOfNums (a ++ b)).data := by
    rw [ByteArray.data_append]
    simp [strOfNums]
  cases h1 : (strOfNums a ++ strOfNums b)
  cases h2 : strOfNums (a ++ b)
  rw [h1, h2] at this
  simp only at this
  rw [this]
theorem str_size (a : List Int) : (strOfNums a).size = a.length := by simp [strOfNums, ByteArray.size]
theorem pkeep_calls {w : World} {g gw : Nat} {b : B4} {l : List Int} {m : E} (xs : List Int) (h : EncAt w g gw b l m) (hl : l.length ≤ 1000000) (hx : xs.length ≤ 10) :
    Calls Tryz.prog 146 #[.pointer (some ⟨g, 4, none⟩), .string (strOfNums xs)] w fun e w' => e = .returned (.tuple #[]) ∧ w' = w.setCell ⟨g, 4, none⟩ (.string (strOfNums (l ++ xs))) := by
  have h4 := h.c4
  have f4 := h.fz 4
  have e := str_append l xs
  have s1 : (strOfNums l).size ≤ 1000000 := by rw [str_size]; exact hl
  have s2 : (strOfNums xs).size ≤ 10 := by rw [str_size]; exact hx
  obtain ⟨S, hS⟩ : ∃ S, S = strOfNums (l ++ xs) := ⟨_, rfl⟩
  rw [← hS] at e ⊢
  generalize strOfNums l = A at *
  generalize strOfNums xs = B at *
  clear h hS
  go_enter Tryz.func146, Tryz.ntmps146
  go_wp2
  go_end0
  exact ⟨rfl, rfl⟩
def KeepPost (w : World) (g gw : Nat) (b : B4) (l : List Int) (m : E) (e : Ending) (w' : World) : Prop := e = .returned (.tuple #[]) ∧ EncAt w' g gw b l m ∧ Chg (EFS g gw) w w'
/-- Some bytes of a new row are kept. -/
theorem keep_calls {w : World} {g gw : Nat} {b : B4} {l : List Int} {m : E} (xs : List Int) (h : EncAt w g gw b l m) (hl : l.length ≤ 1000000) (hx : xs.length ≤ 10) :
    Calls Tryz.prog 201 #[.pointer (some ⟨g, 0, none⟩), .slice (some ⟨w.heap.size, 0, none⟩) xs.length xs.length] (w.alloc (.cells (xs.map fun x => Value.int .u8 x).toArray 5)) (KeepPost w g gw b (l ++ xs) m) := by
  have hz := h.alloc (.cells (xs.map fun x => Value.int .u8 x).toArray 5)
  have hc := Chg.alloc (S := EFS g gw) w (.cells (xs.map fun x => Value.int .u8 x).toArray 5)
  have hnew := heap_alloc_new w (.cells (xs.map fun x => Value.int .u8 x).toArray 5)
  obtain ⟨w1, hw1⟩ : ∃ w1, w1 = w.alloc (.cells (xs.map fun x => Value.int .u8 x).toArray 5) := ⟨_, rfl⟩
  obtain ⟨a, ha⟩ : ∃ a, a = w.heap.size := ⟨_, rfl⟩
  rw [← hw1] at hz hc hnew ⊢
  rw [← ha] at hnew ⊢
  have hcv : (convert 68 9 (.slice (some ⟨a, 0, none⟩) xs.length xs.length)).run Tryz.prog w1.drew = .ok (.string (strOfNums xs)) w1.drew := by
    refine run_convert_bytes_arg _ _ 5 Tryz.underlying68 Tryz.underlying5 a 0 xs.length xs.length xs rfl (fun i hi => ?_) _ Tryz.underlying9
    show w1.cell? _ = _
    rw [cell_of hnew]
    simp [List.getD_eq_getElem?_getD, hi]
  have hk := pkeep_calls (w := w1.drew) xs (show EncAt w1.drew g gw b l m from hz.drewN 1) hl hx
  have HZ := Lib.hid hz
  have HC := Lib.hid hc
  have HK := Lib.hid hk
  obtain ⟨n, hn⟩ : ∃ n, n = xs.length := ⟨_, rfl⟩
  rw [← hn] at hcv
  rw [← hn]
  clear h hz hc hk hnew hw1 ha hn
  generalize strOfNums xs = B at *
  go_enter Tryz.func201, Tryz.ntmps201
  go_wp2_with fail
  go_region_with (go_at_call 146; refine HK.out.mono ?_; rintro e w2 ⟨rfl, rfl⟩)
  all_goals
    go_wp2_with fail
    go_end0
    exact ⟨rfl, (HZ.out.drewN 1).set 4 _ rfl rfl rfl, (HC.out.trans (Chg.drew _)).trans (efs_g 4 _)⟩
end Go.Proofs.YtooiooledeblmaaGreat.Enc
end
section
namespace Go.Proofs.YtooiooledeblmaaGreat.Enc
open Go.RowKit Go.Proofs.YtooiooledeblmaaGreat.Win Go.Proofs.YtooiooledeblmaaGreat.Stp Go.Proofs.YtooiooledeblmaaGreatW.PrintMore
set_option linter.unusedVariables false
set_option linter.unusedSimpArgs false
attribute [local go_sem] max2_int min2_int max_two min_two
def passB (c : Int) : Bool := (decide (32 ≤ c) && decide (c < 128)) || decide (c = 0) || decide (c = 9) || decide (c = 10) || decide (c = 13)
theorem passB_iff {c : Int} : passB c = true ↔ (32 ≤ c ∧ c < 128) ∨ c = 0 ∨ c = 9 ∨ c = 10 ∨ c = 13 := by
  unfold passB
  simp
  omega
def tagB (c : Int) : Bool := decide (57344 ≤ c) && decide (c ≤ 62207)
def easyB (o : List Int) (c : Int) : Bool := (wFind o c).2 || decide (c < 128)
def softB (o : List Int) (d : Int) : Bool := (d == 2147483648) || easyB o d
def ownC (c : Int) : Int × Bool := if 65536 ≤ c then (c / 128 * 128, true) else ((wOffset (wIndex c).1).1, (wIndex c).2)
def twinsB (c d : Int) : Bool := (ownC c).2 && (d != 2147483648) && hld (ownC c).1 d
theorem andNot127 (c : Nat) (h : c < 4294967296) : c &&& 4294967168 = c / 128 * 128 := by
  have e1 : (4294967168 : Nat) = (2 ^ 25 - 1) <<< 7 := by decide
  have e2 : c / 128 * 128 = (c >>> 7) <<< 7 := by rw [Nat.shiftRight_eq_div_pow, Nat.shiftLeft_eq]
  apply Nat.eq_of_testBit_eq
  intro i
  rw [Nat.testBit_and, e1, e2, Nat.testBit_shiftLeft, Nat.testBit_shiftLeft, Nat.testBit_two_pow_sub_one, Nat.testBit_shiftRight]
  by_cases h7 : 7 ≤ i
  · have e3 : 7 + (i - 7) = i := by omega
    rw [e3]
    by_cases h32 : i < 32
    · simp [h7, show i - 7 < 25 by omega]
    · have : c.testBit i = false := Nat.testBit_lt_two_pow (Nat.lt_of_lt_of_le h (Nat.pow_le_pow_right (n := 2) (i := 32) (by decide) (by omega)))
      simp [this]
  · simp [h7]
theorem andNot_int (c : Int) (h0 : 0 ≤ c) (h1 : c < 4294967296) : bits .andNot .u32 c 127 = c / 128 * 128 := by
  rw [u32_andNot c 127 h0 h1 (by decide) (by decide)]
  have := andNot127 c.toNat (by omega)
  simp only [show (127 : Int).toNat = 127 from rfl, show 4294967295 - 127 = 4294967168 from rfl]
  rw [this]
  omega
theorem passes_calls (c : Int) (w : World) : Calls Tryz.prog 213 #[.int .u32 c] w fun e w' => e = .returned (.bool (passB c)) ∧ w = w' := by
  by_cases h : (32 ≤ c ∧ c < 128) ∨ c = 0 ∨ c = 9 ∨ c = 10 ∨ c = 13
  · rw [passB_iff.2 h]
    have hcs : (32 ≤ c ∧ c < 128) ∨ (c < 32 ∧ c = 0) ∨ (c < 32 ∧ c = 9) ∨ (c < 32 ∧ c = 10) ∨ (c < 32 ∧ c = 13) := by omega
    clear h
    rcases hcs with ⟨h1, h2⟩ | ⟨h1, rfl⟩ | ⟨h1, rfl⟩ | ⟨h1, rfl⟩ | ⟨h1, rfl⟩
    all_goals
      go_enter Tryz.func213, Tryz.ntmps213
      go_wp2
      go_ret
      exact ⟨rfl, rfl⟩
  · have e : passB c = false := by rw [← Bool.not_eq_true, passB_iff]; exact h
    rw [e]
    have k0 : (c == 0) = false := by rw [beq_eq_false_iff_ne]; omega
    have k9 : (c == 9) = false := by rw [beq_eq_false_iff_ne]; omega
    have k10 : (c == 10) = false := by rw [beq_eq_false_iff_ne]; omega
    have k13 : (c == 13) = false := by rw [beq_eq_false_iff_ne]; omega
    have hcs : c < 32 ∨ (32 ≤ c ∧ 128 ≤ c) := by omega
    clear h e
    rcases hcs with h1 | ⟨h1, h2⟩
    all_goals
      go_enter Tryz.func213, Tryz.ntmps213
      go_wp2
      go_ret
      first
      | exact ⟨rfl, rfl⟩
      | (refine ⟨?_, rfl⟩; simp [k0, k9, k10, k13]; done)
      | (refine ⟨?_, rfl⟩; simp; omega)
theorem tagged_calls (c : Int) (w : World) : Calls Tryz.prog 212 #[.int .u32 c] w fun e w' => e = .returned (.bool (tagB c)) ∧ w = w' := by
  unfold tagB
  by_cases h1 : 57344 ≤ c
  · go_enter Tryz.func212, Tryz.ntmps212
    go_wp2
    go_ret
    exact ⟨by simp [h1], rfl⟩
  · go_enter Tryz.func212, Tryz.ntmps212
    go_wp2
    go_ret
    refine ⟨?_, rfl⟩
    rw [decide_eq_false (by omega)]
    rfl
section
variable {w : World} {g gw : Nat} {b : B4} {l : List Int} {m : E}
theorem easy_calls (c : Int) (h : EncAt w g gw b l m) (hr : Rng m.o) (h0 : 0 ≤ c) (h1 : c ≤ 4294967295) : Calls Tryz.prog 206 #[.pointer (some ⟨g, 0, none⟩), .int .u32 c] w fun e w' => e = .returned (.bool (easyB m.o c)) ∧ w = w' := by
  have h6 := h.c6
  have HF := Lib.hid (find_calls gw m.o m.u c w h.win hr h0 h1)
  unfold easyB
  clear h
  generalize wFind m.o c = r at HF ⊢
  obtain ⟨n, x⟩ := r
  cases x
  all_goals
    go_enter Tryz.func206, Tryz.ntmps206
    go_wp2_with (go_at_call 208; refine HF.out.mono ?_; rintro e w1 ⟨rfl, rfl⟩)
    go_ret
    exact ⟨by simp, rfl⟩
theorem soft_calls (d : Int) (h : EncAt w g gw b l m) (hr : Rng m.o) (h0 : 0 ≤ d) (h1 : d ≤ 4294967295) : Calls Tryz.prog 207 #[.pointer (some ⟨g, 0, none⟩), .int .u32 d] w fun e w' => e = .returned (.bool (softB m.o d)) ∧ w = w' := by
  have HE := Lib.hid (easy_calls d h hr h0 h1)
  unfold softB
  clear h
  cases hd : (d == 2147483648)
  · go_enter Tryz.func207, Tryz.ntmps207
    go_wp2_with (go_at_call 206; refine HE.out.mono ?_; rintro e w1 ⟨rfl, rfl⟩)
    go_ret
    exact ⟨by simp, rfl⟩
  · go_enter Tryz.func207, Tryz.ntmps207
    go_wp2_with (go_at_call 206; refine HE.out.mono ?_; rintro e w1 ⟨rfl, rfl⟩)
    go_ret
    exact ⟨by simp, rfl⟩
end
theorem idxFrom_lt {c : Int} : ∀ {l : List Int} {k n : Nat}, idxFrom c k l = some n → n < k + l.length
  | [], k, n, h => by cases h
  | x :: l, k, n, h => by
    unfold idxFrom at h
    split at h
    · injection h with h
      rw [← h, List.length_cons]; omega
    · have := idxFrom_lt h
      rw [List.length_cons]; omega
theorem idx_rng {c : Int} (h0 : 0 ≤ c) (h1 : c ≤ 4294967295) : 0 ≤ (wIndex c).1 ∧ (wIndex c).1 ≤ 255 := by
  unfold wIndex
  split
  · rename_i n hn
    have := idxFrom_lt hn
    have h7 : specials.length = 7 := rfl
    simp only
    omega
  · split
    · simp only; omega
    · split
      · simp only; omega
      · simp
def OwnPost (w : World) (c : Int) (e : Ending) (w' : World) : Prop := e = .returned (.tuple #[.int .u32 (ownC c).1, .bool (ownC c).2]) ∧ Below w.heap.size w w'
theorem own_calls (c : Int) (w : World) (h0 : 0 ≤ c) (h1 : c ≤ 4294967295) : Calls Tryz.prog 219 #[.int .u32 c] w (OwnPost w c) := by
  unfold OwnPost ownC
  by_cases hc : 65536 ≤ c
  · have e := andNot_int c h0 (by omega)
    rw [if_pos hc]
    go_enter Tryz.func219, Tryz.ntmps219
    go_wp2
    go_ret2
    exact ⟨rfl, Below.refl _ _⟩
  · rw [if_neg hc]
    have hr := idx_rng h0 h1
    have HI := Lib.hid (index_calls c w h0 h1)
    generalize wIndex c = r at hr HI ⊢
    obtain ⟨x, ok⟩ := r
    simp only at hr
    have HO := Lib.hid (fun w => offset_calls x w hr.1 hr.2)
    generalize wOffset x = r at HO ⊢
    obtain ⟨o, ok2⟩ := r
    clear hr
    go_enter Tryz.func219, Tryz.ntmps219
    go_wp2_with fail
    refine HI.out.mono ?_
    rintro e w1 ⟨rfl, hb⟩
    have HB := Lib.hid hb
    clear hb
    go_wp2_with fail
    refine (HO.out _).mono ?_
    rintro e w2 ⟨rfl, hb⟩
    have HB2 := Lib.hid hb
    clear hb
    go_wp2_with fail
    go_ret2
    exact ⟨rfl, HB.out.trans ⟨HB2.out.os, HB2.out.tape, HB2.out.output, HB2.out.size, fun i hi => HB2.out.block i (Nat.lt_of_lt_of_le hi HB.out.size)⟩⟩
end Go.Proofs.YtooiooledeblmaaGreat.Enc
end
section
namespace Go.Proofs.YtooiooledeblmaaGreat.Enc
open Go.RowKit Go.Proofs.YtooiooledeblmaaGreat.Win Go.Proofs.YtooiooledeblmaaGreat.Stp Go.Proofs.YtooiooledeblmaaGreatW.PrintMore
set_option linter.unusedVariables false
set_option linter.unusedSimpArgs false
attribute [local go_sem] max2_int min2_int max_two min_two
theorem str_extract (l : List Int) (a b : Nat) : (strOfNums l).extract a b = strOfNums ((l.drop a).take (b - a)) := by
  have : ((strOfNums l).extract a b).data = (strOfNums ((l.drop a).take (b - a))).data := by
    rw [ByteArray.data_extract]
    simp [strOfNums]
  cases h1 : ((strOfNums l).extract a b)
  cases h2 : strOfNums ((l.drop a).take (b - a))
  rw [h1, h2] at this
  simp only at this
  rw [this]
def clipN (room : Int) (n : Nat) : Nat := if room < 0 then 0 else if room < n then room.toNat else n
section
variable {w : World} {g gw : Nat} {b : B4} {l : List Int} {m : E}
theorem kept_calls (h : EncAt w g gw b l m) (hl : l.length ≤ 1000000) : Calls Tryz.prog 142 #[.pointer (some ⟨g, 4, none⟩)] w fun e w' => e = .returned (.int .i64 l.length) ∧ w = w' := by
  have h4 := h.c4
  have s1 := str_size l
  generalize strOfNums l = A at *
  clear h
  rw [← s1] at hl ⊢
  clear s1
  go_enter Tryz.func142, Tryz.ntmps142
  go_wp2
  go_ret
  exact ⟨rfl, rfl⟩
theorem give_calls (room : Int) (h : EncAt w g gw b l m) (hl : l.length ≤ 1000000) : Calls Tryz.prog 144 #[.pointer (some ⟨g, 4, none⟩), .int .i64 room] w fun e w' => e = .returned (.string (strOfNums (l.take (clipN room l.length)))) ∧ w' = w.setCell ⟨g, 4, none⟩ (.string (strOfNums (l.drop (clipN room l.length)))) := by
  have h4 := h.c4
  have f4 := h.fz 4
  have s1 := str_size l
  obtain ⟨n, hn⟩ : ∃ n, n = clipN room l.length := ⟨_, rfl⟩
  have e1 := str_extract l 0 n
  have e2 := str_extract l n l.length
  rw [← s1] at e2
  have t1 : (l.drop 0).take (n - 0) = l.take n := by simp
  have t2 : (l.drop n).take ((strOfNums l).size - n) = l.drop n := by rw [s1, List.take_of_length_le (by rw [List.length_drop]; exact Nat.le_refl _)]
  rw [t1] at e1
  rw [t2] at e2
  have hnn : (n : Int) = if (if room < 0 then 0 else room) < (strOfNums l).size then (if room < 0 then 0 else room) else (strOfNums l).size := by
    rw [hn, s1]
    unfold clipN
    repeat' (first | omega | split)
  have hle : n ≤ (strOfNums l).size := by rw [s1, hn]; unfold clipN; repeat' (first | omega | split)
  rw [← hn]
  have hsz : (strOfNums l).size ≤ 1000000 := by omega
  generalize strOfNums l = A at *
  obtain ⟨B1, hB1⟩ : ∃ B, B = strOfNums (l.take n) := ⟨_, rfl⟩
  obtain ⟨B2, hB2⟩ : ∃ B, B = strOfNums (l.drop n) := ⟨_, rfl⟩
  rw [← hB1] at e1 ⊢
  rw [← hB2] at e2 ⊢
  have HN := Lib.hid hnn
  clear h t1 t2 s1 hl hn hB1 hB2 hnn
  go_enter Tryz.func144, Tryz.ntmps144
  go_upto_region 1 with fail
  go_cut [5] (fun v wx => v = .int .i64 n ∧ w = wx)
  case first =>
    go_wp2_with fail
    all_goals
      go_meet
      refine ⟨?_, rfl⟩
      rw [HN.out]
      congr 1
      repeat' (first | omega | split)
  case rest =>
    obtain ⟨rfl, rfl⟩ := hcut
    go_wp2_with fail
    go_ret
    exact ⟨rfl, rfl⟩
theorem held_calls (n c : Int) (h : EncAt w g gw b l m) (h0 : 0 ≤ wAt m.o n) (h1 : wAt m.o n ≤ c) (h2 : c - wAt m.o n < 128) (h3 : c ≤ 1114111) :
    Calls Tryz.prog 216 #[.pointer (some ⟨g, 0, none⟩), .int .i64 n, .int .u32 c] w fun e w' => e = .returned (.int .u8 (128 + c - wAt m.o n)) ∧ w = w' := by
  have h6 := h.c6
  have HA := Lib.hid (at_calls gw m.o m.u n w h.win)
  clear h
  generalize wAt m.o n = x at *
  go_enter Tryz.func216, Tryz.ntmps216
  go_wp2_with (go_at_call 215; refine HA.out.mono ?_; rintro e w1 ⟨rfl, rfl⟩)
  go_ret
  exact ⟨rfl, rfl⟩
def UsePost (w : World) (g gw : Nat) (b : B4) (l : List Int) (m : E) (n : Int) (e : Ending) (w' : World) : Prop := e = .returned (.tuple #[]) ∧ EncAt w' g gw b l { m with act := n, u := wTouch m.u n } ∧ Chg (EFS g gw) w w'
theorem use_calls (n : Int) (h : EncAt w g gw b l m) (hm : 0 ≤ n → n < 8 → n ∈ m.u) : Calls Tryz.prog 209 #[.pointer (some ⟨g, 0, none⟩), .int .i64 n] w (UsePost w g gw b l m n) := by
  have h8 := h.c8
  have f8 := h.fz 8
  have hs := h.set 8 (.int .i64 n) (b' := b) (l' := l) (m' := { m with act := n }) rfl rfl rfl
  have h6 := hs.c6
  have HT := Lib.hid (touch_calls gw m.o m.u n _ hs.win hm)
  have HS := Lib.hid hs
  clear h hs
  go_enter Tryz.func209, Tryz.ntmps209
  go_wp2_with fail
  refine HT.out.mono ?_
  rintro e w1 ⟨rfl, hw, hc⟩
  have HW := Lib.hid hw
  have HC := Lib.hid hc
  clear hw hc
  go_wp2_with fail
  go_end0
  exact ⟨rfl, HS.out.wins HW.out HC.out, (efs_g 8 _).trans (efs_gw HC.out)⟩
end
theorem off_rng {x : Int} (h0 : 0 ≤ x) (h1 : x ≤ 255) : 0 ≤ (wOffset x).1 ∧ (wOffset x).1 ≤ 65408 := by
  have key : ∀ b : Fin 256, 0 ≤ (wOffset (b.val : Int)).1 ∧ (wOffset (b.val : Int)).1 ≤ 65408 := by decide +kernel
  have := key ⟨x.toNat, by omega⟩
  simp only [Int.toNat_of_nonneg h0] at this
  exact this
theorem own_rng {c : Int} (h0 : 0 ≤ c) (h1 : c ≤ 4294967295) : 0 ≤ (ownC c).1 ∧ (ownC c).1 ≤ 4294967295 := by
  unfold ownC
  split
  · simp only; omega
  · have hr := idx_rng h0 h1
    have := off_rng hr.1 hr.2
    simp only; omega
theorem twins_calls (c d : Int) (w : World) (h0 : 0 ≤ c) (h1 : c ≤ 4294967295) (h2 : 0 ≤ d) (h3 : d ≤ 4294967295) : Calls Tryz.prog 210 #[.int .u32 c, .int .u32 d] w fun e w' => e = .returned (.bool (twinsB c d)) ∧ Below w.heap.size w w' := by
  have HO := Lib.hid (own_calls c w h0 h1)
  have hrg : 0 ≤ (ownC c).1 ∧ (ownC c).1 ≤ 4294967295 := own_rng h0 h1
  unfold OwnPost at HO
  unfold twinsB
  generalize ownC c = r at HO hrg ⊢
  obtain ⟨o, ok⟩ := r
  obtain ⟨r1, r2⟩ := hrg
  have HH := Lib.hid (fun w => holds_calls o d w r1 r2 h2 h3)
  cases ok
  · go_enter Tryz.func210, Tryz.ntmps210
    go_wp2_with fail
    refine HO.out.mono ?_
    rintro e w1 ⟨rfl, hb⟩
    have HB := Lib.hid hb
    clear hb
    go_wp2_with fail
    go_ret
    exact ⟨rfl, HB.out⟩
  · cases hd : (d != 2147483648)
    · go_enter Tryz.func210, Tryz.ntmps210
      go_wp2_with fail
      refine HO.out.mono ?_
      rintro e w1 ⟨rfl, hb⟩
      have HB := Lib.hid hb
      clear hb
      go_wp2_with fail
      go_ret
      exact ⟨rfl, HB.out⟩
    · go_enter Tryz.func210, Tryz.ntmps210
      go_wp2_with fail
      refine HO.out.mono ?_
      rintro e w1 ⟨rfl, hb⟩
      have HB := Lib.hid hb
      clear hb
      go_wp2_with fail
      refine (HH.out _).mono ?_
      rintro e w2 ⟨rfl, rfl⟩
      go_wp2_with fail
      go_ret
      exact ⟨rfl, HB.out⟩
end Go.Proofs.YtooiooledeblmaaGreat.Enc
end
section
namespace Go.Proofs.YtooiooledeblmaaGreat.Enc
open Go.RowKit Go.Proofs.YtooiooledeblmaaGreat.Win Go.Proofs.YtooiooledeblmaaGreat.Stp Go.Proofs.YtooiooledeblmaaGreatW.PrintMore
set_option linter.unusedVariables false
set_option linter.unusedSimpArgs false
/-- What is always so. -/
structure EG (m : E) : Prop where
  lo : m.o.length = 8
  ro : ∀ x ∈ m.o, 128 ≤ x ∧ x ≤ 1114000
  mem : ∀ n : Int, 0 ≤ n → n < 8 → n ∈ m.u
  lu : m.u.length = 8
  ru : ∀ n ∈ m.u, 0 ≤ n ∧ n < 8
  act : 0 ≤ m.act ∧ m.act < 8
theorem EG.rng {m : E} (h : EG m) : Rng m.o := fun x hx => by have := h.ro x hx; omega
theorem EG.at_ {m : E} (h : EG m) {n : Int} (h0 : 0 ≤ n) (h1 : n < 8) : 128 ≤ wAt m.o n ∧ wAt m.o n ≤ 1114000 := by
  unfold wAt
  rw [if_pos ⟨h0, h1⟩, List.getD_eq_getElem?_getD, List.getElem?_eq_getElem (by rw [h.lo]; omega)]
  exact h.ro _ (List.getElem_mem _)
def simpleC (m : E) (c : Int) : Option (List Int) := if passB c = true then some [c] else if c < 32 then some [1, c] else if hld (wAt m.o m.act) c = true then some [128 + c - wAt m.o m.act] else none
def SimPost (w : World) (g gw : Nat) (b : B4) (l : List Int) (m : E) (r : Option (List Int)) (e : Ending) (w' : World) : Prop :=
  match r with
  | some x => e = .returned (.bool true) ∧ EncAt w' g gw b (l ++ x) m ∧ Chg (EFS g gw) w w'
  | none => e = .returned (.bool false) ∧ EncAt w' g gw b l m ∧ Chg (EFS g gw) w w'
section
variable {w : World} {g gw : Nat} {b : B4} {l : List Int} {m : E}
set_option maxHeartbeats 2000000 in
theorem simple_calls (c : Int) (h : EncAt w g gw b l m) (hG : EG m) (h0 : 0 ≤ c) (h1 : c ≤ 1114111) (hl : l.length ≤ 1000000) :
    Calls Tryz.prog 203 #[.pointer (some ⟨g, 0, none⟩), .int .u32 c] w (SimPost w g gw b l m (simpleC m c)) := by
  have HP := Lib.hid (passes_calls c)
  unfold simpleC
  cases hp : passB c
  · rw [if_neg (by decide)]
    rw [hp] at HP
    by_cases h32 : c < 32
    · rw [if_pos h32]
      have HK := Lib.hid (keep_calls [1, c] h hl (by simp))
      clear h hG hp
      go_enter Tryz.func203, Tryz.ntmps203
      go_wp2_with fail
      refine (HP.out _).mono ?_
      rintro e w1 ⟨rfl, rfl⟩
      go_wp2_with fail
      refine HK.out.mono ?_
      rintro e w1 ⟨rfl, hd, hc⟩
      have HD := Lib.hid hd
      have HC := Lib.hid hc
      clear hd hc
      go_wp2_with fail
      go_ret
      exact ⟨rfl, HD.out, HC.out⟩
    · rw [if_neg h32]
      have h6 := h.c6
      have h8 := h.c8
      have ha := hG.at_ hG.act.1 hG.act.2
      obtain ⟨x, hx⟩ : ∃ x, x = wAt m.o m.act := ⟨_, rfl⟩
      have HA := Lib.hid (fun n => at_calls gw m.o m.u m.act (w.drewN n) (h.drewN n).win)
      rw [← hx] at HA ha ⊢
      have HH := Lib.hid (fun w => holds_calls x c w (by omega) (by omega) h0 (by omega))
      cases hh : hld x c
      · rw [hh] at HH
        have H := Lib.hid h
        clear h hG hp hh hx
        go_enter Tryz.func203, Tryz.ntmps203
        go_wp2_with fail
        refine (HP.out _).mono ?_
        rintro e w1 ⟨rfl, rfl⟩
        go_wp2_with fail
        go_quiet ((first | (go_at_call 215; exact Calls.quiet_of_same ((HA.out _).mono (fun e w' h => ⟨h.1, h.2.symm⟩))) | (go_at_call 214; exact Calls.quiet_of_same ((HH.out _).mono (fun e w' h => ⟨h.1, h.2.symm⟩)))))
        go_wp2_with fail
        go_ret
        exact ⟨rfl, H.out.drewN _, Chg.drewN _ _⟩
      · rw [hh] at HH
        have hxx : x ≤ c ∧ c - x < 128 := by unfold hld at hh; simpa using hh
        have HHe := Lib.hid (fun n => held_calls m.act c (h.drewN n) (by rw [← hx]; omega) (by rw [← hx]; exact hxx.1) (by rw [← hx]; exact hxx.2) h1)
        rw [← hx] at HHe
        have HK := Lib.hid (fun n => keep_calls [128 + c - x] (h.drewN n) hl (by simp))
        have H := Lib.hid h
        clear h hG hp hh hx
        go_enter Tryz.func203, Tryz.ntmps203
        go_wp2_with fail
        refine (HP.out _).mono ?_
        rintro e w1 ⟨rfl, rfl⟩
        go_wp2_with fail
        go_quiet ((first | (go_at_call 215; exact Calls.quiet_of_same ((HA.out _).mono (fun e w' h => ⟨h.1, h.2.symm⟩))) | (go_at_call 214; exact Calls.quiet_of_same ((HH.out _).mono (fun e w' h => ⟨h.1, h.2.symm⟩)))))
        go_wp2_with fail
        refine (HHe.out _).mono ?_
        rintro e w2 ⟨rfl, rfl⟩
        go_wp2_with fail
        refine (HK.out _).mono ?_
        rintro e w2 ⟨rfl, hd, hc⟩
        have HD := Lib.hid hd
        have HC := Lib.hid hc
        clear hd hc
        go_wp2_with fail
        go_ret
        exact ⟨rfl, HD.out, (Chg.drewN w _).trans HC.out⟩
  · rw [if_pos rfl]
    rw [hp] at HP
    have hb : c ≤ 127 := by have := passB_iff.1 hp; omega
    have HK := Lib.hid (keep_calls [c] h hl (by simp))
    clear h hG hp
    go_enter Tryz.func203, Tryz.ntmps203
    go_wp2_with fail
    refine (HP.out _).mono ?_
    rintro e w1 ⟨rfl, rfl⟩
    go_wp2_with fail
    refine HK.out.mono ?_
    rintro e w1 ⟨rfl, hd, hc⟩
    have HD := Lib.hid hd
    have HC := Lib.hid hc
    clear hd hc
    go_wp2_with fail
    go_ret
    exact ⟨rfl, HD.out, HC.out⟩
def unitsC (c : Int) : List Int :=
  if 65536 ≤ c then [(55296 + (c - 65536) / 1024) / 256, (55296 + (c - 65536) / 1024) % 256, (56320 + (c - 65536) % 1024) / 256, (56320 + (c - 65536) % 1024) % 256]
  else (if tagB c = true then [240] else []) ++ [c / 256, c % 256]
set_option maxHeartbeats 2000000 in
theorem units_calls (c : Int) (h : EncAt w g gw b l m) (h0 : 0 ≤ c) (h1 : c ≤ 1114111) (hl : l.length < 1000000) :
    Calls Tryz.prog 202 #[.pointer (some ⟨g, 0, none⟩), .int .u32 c] w (KeepPost w g gw b (l ++ unitsC c) m) := by
  unfold unitsC
  by_cases hc : 65536 ≤ c
  · rw [if_pos hc]
    have or1 : bits .or .u32 55296 ((c - 65536) / 1024) = 55296 + (c - 65536) / 1024 := bits_join .u32 32 (by decide) wraps_u32 10 55296 _ (by omega) (by omega) (by omega) (by omega) (by omega) (by omega)
    have or2 : bits .or .u32 56320 ((c - 65536) % 1024) = 56320 + (c - 65536) % 1024 := bits_join .u32 32 (by decide) wraps_u32 10 56320 _ (by omega) (by omega) (by omega) (by omega) (by omega) (by omega)
    have an : bits .and .u32 (c - 65536) 1023 = (c - 65536) % 1024 := bits_mask .u32 32 (by decide) wraps_u32 10 (by decide) (c - 65536) (by omega) (by omega)
    obtain ⟨x, hx⟩ : ∃ x, x = 55296 + (c - 65536) / 1024 := ⟨_, rfl⟩
    obtain ⟨y, hy⟩ : ∃ y, y = 56320 + (c - 65536) % 1024 := ⟨_, rfl⟩
    rw [← hx] at or1 ⊢
    rw [← hy] at or2 ⊢
    have hxr : 0 ≤ x ∧ x ≤ 65535 := by omega
    have hyr : 0 ≤ y ∧ y ≤ 65535 := by omega
    obtain ⟨x0, x1⟩ := hxr
    obtain ⟨y0, y1⟩ := hyr
    have w1 : IntKind.u8.wrap x = x % 256 := by rw [IntKind.wrap_u8]
    have w2 : IntKind.u8.wrap y = y % 256 := by rw [IntKind.wrap_u8]
    have HK := Lib.hid (keep_calls [x / 256, x % 256, y / 256, y % 256] h (by omega) (by simp))
    clear h hx hy
    go_enter Tryz.func202, Tryz.ntmps202
    go_wp2_with fail
    refine HK.out.mono ?_
    rintro e w1 ⟨rfl, hd, hc⟩
    have HD := Lib.hid hd
    have HC := Lib.hid hc
    clear hd hc
    go_wp2_with fail
    go_end0
    exact ⟨rfl, HD.out, HC.out⟩
  · rw [if_neg hc]
    have HT := Lib.hid (tagged_calls c)
    have w1 : IntKind.u8.wrap c = c % 256 := by rw [IntKind.wrap_u8]
    cases ht : tagB c
    · rw [ht] at HT
      rw [if_neg (by decide), List.nil_append]
      have HK := Lib.hid (keep_calls [c / 256, c % 256] h (by omega) (by simp))
      clear h ht
      go_enter Tryz.func202, Tryz.ntmps202
      go_wp2_with fail
      refine (HT.out _).mono ?_
      rintro e w1 ⟨rfl, rfl⟩
      go_wp2_with fail
      refine HK.out.mono ?_
      rintro e w1 ⟨rfl, hd, hc⟩
      have HD := Lib.hid hd
      have HC := Lib.hid hc
      clear hd hc
      go_wp2_with fail
      go_end0
      exact ⟨rfl, HD.out, HC.out⟩
    · rw [ht] at HT
      rw [if_pos rfl]
      have HK := Lib.hid (keep_calls [240] h (by omega) (by simp))
      clear h ht
      go_enter Tryz.func202, Tryz.ntmps202
      go_wp2_with fail
      refine (HT.out _).mono ?_
      rintro e w1 ⟨rfl, rfl⟩
      go_wp2_with fail
      refine HK.out.mono ?_
      rintro e w1 ⟨rfl, hd, hcc⟩
      have HK2 := Lib.hid (keep_calls [c / 256, c % 256] hd (by rw [List.length_append]; simp; omega) (by simp))
      have HC := Lib.hid hcc
      clear hd hcc
      go_wp2_with fail
      refine HK2.out.mono ?_
      rintro e w2 ⟨rfl, hd, hcc⟩
      have HD := Lib.hid hd
      have HC2 := Lib.hid hcc
      clear hd hcc
      go_wp2_with fail
      go_end0
      refine ⟨rfl, ?_, HC.out.trans HC2.out⟩
      have := HD.out
      rw [List.append_assoc] at this
      exact this
end
end Go.Proofs.YtooiooledeblmaaGreat.Enc
end
section
namespace Go.Proofs.YtooiooledeblmaaGreat.Enc
open Go.RowKit Go.Proofs.YtooiooledeblmaaGreat.Win Go.Proofs.YtooiooledeblmaaGreat.Stp Go.Proofs.YtooiooledeblmaaGreatW.PrintMore
set_option linter.unusedVariables false
set_option linter.unusedSimpArgs false
attribute [local go_sem] max2_int min2_int max_two min_two
theorem hld_iff {o c : Int} : hld o c = true ↔ o ≤ c ∧ c - o < 128 := by unfold hld; simp
theorem idxFrom_hld {c : Int} : ∀ {l : List Int} {k n : Nat}, idxFrom c k l = some n → k ≤ n ∧ hld (l.getD (n - k) 0) c = true
  | [], k, n, h => by cases h
  | x :: l, k, n, h => by
    unfold idxFrom at h
    split at h
    · injection h with h
      subst h
      rename_i hx
      exact ⟨Nat.le_refl _, by rw [Nat.sub_self]; exact hx⟩
    · obtain ⟨h1, h2⟩ := idxFrom_hld h
      refine ⟨by omega, ?_⟩
      have : n - k = n - (k + 1) + 1 := by omega
      rw [this]
      exact h2
theorem index_own {c : Int} (h0 : 0 ≤ c) (h : (wIndex c).2 = true) : hld (wOffset (wIndex c).1).1 c = true ∧ (wOffset (wIndex c).1).2 = true := by
  unfold wIndex at h ⊢
  cases hi : idxFrom c 0 specials with
  | some n =>
    have h1 := (idxFrom_hld hi).2
    have h2 := idxFrom_lt hi
    have h7 : specials.length = 7 := rfl
    rw [h7] at h2
    rw [Nat.sub_zero] at h1
    simp only
    have key : ∀ n : Fin 7, wOffset (249 + (n.val : Int)) = (specials.getD n.val 0, true) := by decide +kernel
    have := key ⟨n, by omega⟩
    simp only at this
    rw [this]
    exact ⟨h1, rfl⟩
  | none =>
    rw [hi] at h
    simp only at h ⊢
    by_cases h1 : 128 ≤ c ∧ c < 13312
    · rw [if_pos h1]
      have : wOffset (c / 128) = (c / 128 * 128, true) := by
        unfold wOffset
        rw [if_neg (by omega), if_pos (by omega)]
      simp only [this]
      exact ⟨hld_iff.2 (by omega), by trivial⟩
    · rw [if_neg h1] at h ⊢
      by_cases h2 : 57344 ≤ c ∧ c < 65536
      · rw [if_pos h2]
        have : wOffset ((c - 44032) / 128) = ((c - 44032) / 128 * 128 + 44032, true) := by
          unfold wOffset
          rw [if_neg (by omega), if_neg (by omega), if_pos (by omega)]
        simp only [this]
        exact ⟨hld_iff.2 (by omega), by trivial⟩
      · rw [if_neg h2] at h
        cases h
theorem own_hld {c : Int} (h0 : 0 ≤ c) (h : (ownC c).2 = true) : hld (ownC c).1 c = true := by
  unfold ownC at h ⊢
  by_cases hc : 65536 ≤ c
  · rw [if_pos hc]
    exact hld_iff.2 (by simp only; omega)
  · rw [if_neg hc] at h ⊢
    exact (index_own h0 h).1
def staticC (c : Int) : Int × Int × Bool := if (findFrom c 1 (statics.drop 1)).2 = true then ((findFrom c 1 (statics.drop 1)).1, statics.getD (findFrom c 1 (statics.drop 1)).1.toNat 0, true) else (0, 0, false)
def StatRel (w : World) (c : Int) (i : Value) (wr : World) : Prop := ∃ k : Nat, 1 ≤ k ∧ k ≤ 8 ∧ i = .int .i64 k ∧ w = wr ∧ findFrom c 1 (statics.drop 1) = findFrom c k (statics.drop k)
theorem static_rng2 {k : Nat} (h : k < 8) : 0 ≤ statics.getD k 0 ∧ statics.getD k 0 ≤ 12288 := by
  match k with
  | 0 | 1 | 2 | 3 | 4 | 5 | 6 | 7 => decide
  | n + 8 => omega
theorem cstatic_calls (c : Int) (w : World) (h0 : 0 ≤ c) (h1 : c ≤ 4294967295) : Calls Tryz.prog 218 #[.int .u32 c] w fun e w' => e = .returned (.tuple #[.int .i64 (staticC c).1, .int .u32 (staticC c).2.1, .bool (staticC c).2.2]) ∧ w = w' := by
  obtain ⟨r, hr⟩ : ∃ r, r = staticC c := ⟨_, rfl⟩
  rw [← hr]
  obtain ⟨rn, ro, rb⟩ := r
  have HS := Lib.hid hr
  clear hr
  go_enter Tryz.func218, Tryz.ntmps218
  go_wp2_with fail
  go_loopw [5] (fun i wr => StatRel w c i wr) (fun i _ => 8 - (intOf i).toNat)
  case atStart => exact ⟨1, Nat.le_refl _, by decide, rfl, rfl, rfl⟩
  case round =>
    obtain ⟨k, hk1, hk8, rfl, rfl, hf⟩ := hrel
    by_cases hlt : k < 8
    · have hst := static_calls k
      have hw : wStatic k = (statics.getD k 0, true) := by
        unfold wStatic
        rw [if_pos (by omega)]
        simp
      rw [hw] at hst
      have hrg := static_rng2 hlt
      rw [find_step c statics k hlt] at hf
      obtain ⟨o, ho⟩ : ∃ o, o = statics.getD k 0 := ⟨_, rfl⟩
      rw [← ho] at hst hrg hf
      obtain ⟨r0, r1⟩ := hrg
      have hh := holds_calls o c
      have HST := Lib.hid hst
      cases hx : hld o c
      · rw [hx] at hf hh
        rw [if_neg (by decide)] at hf
        have HF := Lib.hid hf
        have HH := Lib.hid (fun w => hh w r0 (by omega) h0 h1)
        clear hst hf hh hx ho hw
        go_wp2_with (first | (go_at_call 225; refine (HST.out _).mono ?_; rintro e w1 ⟨rfl, rfl⟩) | (go_at_call 214; refine (HH.out _).mono ?_; rintro e w1 ⟨rfl, rfl⟩))
        go_roundw
        case rel => exact ⟨k + 1, by omega, hlt, by go_num, rfl, HF.out⟩
        case measure => simp [intOf]; omega
      · rw [hx] at hf hh
        rw [if_pos rfl] at hf
        have hv : staticC c = ((k : Int), o, true) := by
          unfold staticC
          rw [hf, ho]
          simp
        have HV := Lib.hid (HS.out.trans hv)
        have HH := Lib.hid (fun w => hh w r0 (by omega) h0 h1)
        clear hst hf hh hx ho hw hv
        go_wp2_with (first | (go_at_call 225; refine (HST.out _).mono ?_; rintro e w1 ⟨rfl, rfl⟩) | (go_at_call 214; refine (HH.out _).mono ?_; rintro e w1 ⟨rfl, rfl⟩))
        have hv := HV.out
        simp only [Prod.mk.injEq] at hv
        obtain ⟨rfl, rfl, rfl⟩ := hv
        exact bodyPost_ret (v := .tuple #[.int .i64 k, .int .u32 ro, .bool true]) (by simp [results, Tryz.results218, go_sem]) rfl ⟨rfl, rfl⟩
    · obtain rfl : k = 8 := by omega
      have hf2 : staticC c = (0, 0, false) := by
        unfold staticC
        rw [hf]
        rfl
      have HV := Lib.hid (HS.out.trans hf2)
      clear hf hf2
      go_wp2_with fail
      have hv := HV.out
      simp only [Prod.mk.injEq] at hv
      obtain ⟨rfl, rfl, rfl⟩ := hv
      exact bodyPost_ret (v := .tuple #[.int .i64 0, .int .u32 0, .bool false]) (by simp [results, Tryz.results218, go_sem]) rfl ⟨rfl, rfl⟩
section
variable {w : World} {g gw : Nat} {b : B4} {l : List Int} {m : E}
theorem double_calls (c : Int) (h : EncAt w g gw b l m) (h0 : 0 ≤ c) (h1 : c ≤ 1114111) (hl : l.length < 999999) :
    Calls Tryz.prog 204 #[.pointer (some ⟨g, 0, none⟩), .int .u32 c] w (KeepPost w g gw b (l ++ 15 :: unitsC c) { m with uni := true }) := by
  have HK := Lib.hid (keep_calls [15] h (by omega) (by simp))
  clear h
  go_enter Tryz.func204, Tryz.ntmps204
  go_wp2_with fail
  refine HK.out.mono ?_
  rintro e w1 ⟨rfl, hd, hc⟩
  have h7 := hd.c7
  have f7 := hd.fz 7
  have hs := hd.set 7 (.bool true) (b' := b) (l' := l ++ [15]) (m' := { m with uni := true }) rfl rfl rfl
  have HU := Lib.hid (units_calls c hs h0 h1 (by rw [List.length_append]; simp; omega))
  have HC := Lib.hid hc
  clear hd hc hs
  go_wp2_with fail
  refine HU.out.mono ?_
  rintro e w2 ⟨rfl, hd, hc⟩
  have HD := Lib.hid hd
  have HC2 := Lib.hid hc
  clear hd hc
  go_wp2_with fail
  go_end0
  refine ⟨rfl, ?_, (HC.out.trans (efs_g 7 _)).trans HC2.out⟩
  have := HD.out
  rw [List.append_assoc] at this
  exact this
end
end Go.Proofs.YtooiooledeblmaaGreat.Enc
end
section
namespace Go.Proofs.YtooiooledeblmaaGreat.Enc
open Go.RowKit Go.Proofs.YtooiooledeblmaaGreat.Win Go.Proofs.YtooiooledeblmaaGreat.Stp Go.Proofs.YtooiooledeblmaaGreatW.PrintMore
set_option linter.unusedVariables false
set_option linter.unusedSimpArgs false
def oldC (m : E) : Int := m.u.getD 0 0
def layM (m : E) (c : Int) : E := { m with o := m.o.set (oldC m).toNat (ownC c).1, act := oldC m, u := wTouch m.u (oldC m), uni := false }
def layE (m : E) (c ix pr : Int) : List Int := (if (wPair (oldC m) c).2.2 = true then [pr, (wPair (oldC m) c).1, (wPair (oldC m) c).2.1] else [ix + oldC m, (wIndex c).1]) ++ [128 + c - (ownC c).1]
section
variable {w : World} {g gw : Nat} {b : B4} {l : List Int} {m : E}
theorem old_rng (hG : EG m) : 0 ≤ oldC m ∧ oldC m < 8 := by
  unfold oldC
  rw [List.getD_eq_getElem?_getD, List.getElem?_eq_getElem (by rw [hG.lu]; decide)]
  exact hG.ru _ (List.getElem_mem _)
theorem wAt_set2 {o : List Int} {n c : Int} (hn : 0 ≤ n) (hn8 : n < 8) (hl : o.length = 8) : wAt (o.set n.toNat c) n = c := by
  unfold wAt
  rw [if_pos ⟨hn, hn8⟩, List.getD_eq_getElem?_getD, List.getElem?_set_self (by omega)]
  rfl
set_option maxRecDepth 100000 in
set_option maxHeartbeats 8000000 in
theorem lay_calls (c ix pr : Int) (h : EncAt w g gw b l m) (hG : EG m) (h0 : 0 ≤ c) (h1 : c ≤ 1114111) (hl : l.length < 999990) (ho : (ownC c).2 = true) (i0 : 0 ≤ ix) (i1 : ix ≤ 240) (p0 : 0 ≤ pr) (p1 : pr ≤ 255) :
    Calls Tryz.prog 211 #[.pointer (some ⟨g, 0, none⟩), .int .u32 c, .int .u8 ix, .int .u8 pr] w (KeepPost w g gw b (l ++ layE m c ix pr) (layM m c)) := by
  have h6 := h.c6
  have hor := old_rng hG
  have hown := own_hld h0 ho
  have hor2 := own_rng (c := c) h0 (by omega)
  have HOld := Lib.hid (oldest_calls gw m.o m.u w h.win)
  have HOwn := Lib.hid (own_calls c w h0 (by omega))
  unfold layE layM
  obtain ⟨n, hn⟩ : ∃ n, n = oldC m := ⟨_, rfl⟩
  have hn' : m.u.getD 0 0 = n := by rw [hn]; rfl
  rw [hn'] at HOld
  rw [← hn] at hor ⊢
  obtain ⟨n0, n8⟩ := hor
  unfold OwnPost at HOwn
  rw [ho] at HOwn
  obtain ⟨o, ho2⟩ : ∃ o, o = (ownC c).1 := ⟨_, rfl⟩
  rw [← ho2] at HOwn hown hor2 ⊢
  rw [hld_iff] at hown
  have HPr := Lib.hid (fun w => pair_calls n c w h0 (by omega))
  have HIx := Lib.hid (fun w => index_calls c w h0 (by omega))
  have hir := idx_rng (c := c) h0 (by omega)
  have hmem := hG.mem
  have hlo := hG.lo
  have H := Lib.hid h
  have HMem := Lib.hid hmem
  have HLo := Lib.hid hlo
  clear h hG hn hn' ho ho2 hmem hlo
  have hpr : ((wPair n c).2.2 = true ∧ 0 ≤ (wPair n c).1 ∧ (wPair n c).1 ≤ 255 ∧ 0 ≤ (wPair n c).2.1 ∧ (wPair n c).2.1 ≤ 255) ∨ (wPair n c).2.2 = false := by
    unfold wPair
    by_cases hc : 0 ≤ n ∧ n < 8 ∧ 65536 ≤ c ∧ c ≤ 1114111
    · rw [if_pos hc]; simp only; left; refine ⟨trivial, ?_, ?_, ?_, ?_⟩ <;> omega
    · rw [if_neg hc]; right; rfl
  generalize wPair n c = pc at HPr hpr ⊢
  obtain ⟨ph, pl, pk⟩ := pc
  generalize wIndex c = xc at HIx hir ⊢
  obtain ⟨x, xk⟩ := xc
  simp only at hpr hir ⊢
  have HPR := Lib.hid hpr
  clear hpr
  obtain ⟨e1, he1⟩ : ∃ e1, e1 = (if pk = true then [pr, ph, pl] else [ix + n, x]) := ⟨_, rfl⟩
  rw [← he1]
  have HE1 := Lib.hid he1
  have hel : e1.length ≤ 3 := by rw [he1]; split <;> simp
  clear he1
  go_enter Tryz.func211, Tryz.ntmps211
  go_wp2_with fail
  refine HOld.out.mono ?_
  rintro e w1 ⟨rfl, rfl⟩
  go_wp2_with fail
  refine HOwn.out.mono ?_
  rintro e w1 ⟨rfl, hb⟩
  have H1 := Lib.hid (H.out.below hb)
  have HB1 := Lib.hid hb
  clear hb
  go_wp2_with fail
  refine (HPr.out _).mono ?_
  rintro e w2 ⟨rfl, rfl⟩
  go_upto_if 33 with fail
  go_cut [] (fun wx => EncAt wx g gw b (l ++ e1) m ∧ Chg (EFS g gw) w wx)
  case first =>
    cases pk with
    | true =>
      have HK := Lib.hid (keep_calls [pr, ph, pl] H1.out (by omega) (by simp))
      go_wp2_with fail
      refine HK.out.mono ?_
      rintro e w2 ⟨rfl, hd, hc⟩
      have HD := Lib.hid hd
      have HC := Lib.hid hc
      clear hd hc
      go_wp2_with fail
      go_meet
      rw [show e1 = [pr, ph, pl] from by simpa using HE1.out]
      exact ⟨HD.out, (Chg.of_below HB1.out).trans HC.out⟩
    | false =>
      go_wp2_with fail
      refine (HIx.out _).mono ?_
      rintro e w2 ⟨rfl, hb⟩
      have HK := Lib.hid (keep_calls [ix + n, x] (H1.out.below hb) (by omega) (by simp))
      have HB2 := Lib.hid hb
      clear hb
      go_wp2_with fail
      refine HK.out.mono ?_
      rintro e w3 ⟨rfl, hd, hc⟩
      have HD := Lib.hid hd
      have HC := Lib.hid hc
      clear hd hc
      go_wp2_with fail
      go_meet
      rw [show e1 = [ix + n, x] from by simpa using HE1.out]
      exact ⟨HD.out, ((Chg.of_below HB1.out).trans (Chg.of_below HB2.out)).trans HC.out⟩
  case rest =>
    obtain ⟨hd, hc⟩ := hcut
    have h6 := hd.c6
    have hset := set_calls gw m.o m.u n o wc hd.win
    rw [if_pos ⟨n0, n8⟩] at hset
    have HSet := Lib.hid hset
    have HD := Lib.hid hd
    have HC := Lib.hid hc
    clear hd hc hset
    go_wp2_with fail
    refine HSet.out.mono ?_
    rintro e w4 ⟨rfl, hw, hcw⟩
    have hd4 := HD.out.wins hw hcw
    have HC4 := Lib.hid hcw
    have HU := Lib.hid (use_calls n hd4 (HMem.out n))
    clear hw hcw hd4
    go_wp2_with fail
    refine HU.out.mono ?_
    rintro e w5 ⟨rfl, hd5, hc5⟩
    have h7 := hd5.c7
    have f7 := hd5.fz 7
    have hs := hd5.set 7 (.bool false) (b' := b) (l' := l ++ e1) (m' := { m with o := m.o.set n.toNat o, act := n, u := wTouch m.u n, uni := false }) rfl rfl rfl
    have hat : wAt (m.o.set n.toNat o) n = o := wAt_set2 n0 n8 HLo.out
    have hhe := held_calls n c hs (by rw [hat]; exact hor2.1) (by rw [hat]; exact hown.1) (by rw [hat]; exact hown.2) h1
    have e2 : wAt ({ m with o := m.o.set n.toNat o, act := n, u := wTouch m.u n, uni := false } : E).o n = o := hat
    rw [e2] at hhe
    have HHe := Lib.hid hhe
    have hk := keep_calls [128 + c - o] hs (by rw [List.length_append]; omega) (by simp)
    have hsz5 : (w5.setCell ⟨g, 7, none⟩ (.bool false)).heap.size = w5.heap.size := by simp [World.setCell]
    rw [hsz5] at hk
    have HK := Lib.hid hk
    clear hk hsz5
    have HC5 := Lib.hid hc5
    clear hd5 hc5 hs hat hhe e2
    go_wp2_with fail
    refine HHe.out.mono ?_
    rintro e w6 ⟨rfl, rfl⟩
    go_wp2_with fail
    refine HK.out.mono ?_
    rintro e w6 ⟨rfl, hd, hc⟩
    have HD6 := Lib.hid hd
    have HC6 := Lib.hid hc
    clear hd hc
    go_wp2_with fail
    go_end0
    refine ⟨rfl, ?_, (((HC.out.trans (efs_gw HC4.out)).trans HC5.out).trans (efs_g 7 _)).trans HC6.out⟩
    have := HD6.out
    rw [List.append_assoc] at this
    exact this
end
end Go.Proofs.YtooiooledeblmaaGreat.Enc
end
