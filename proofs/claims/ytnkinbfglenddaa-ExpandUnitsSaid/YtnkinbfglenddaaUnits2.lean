/- Big bytes of some scalars: the reference's function. -/
import Derived.Test.YtnkinbfglenddaaUnits
import Derived.Test.YtnkinbfglenddaaLawWin
import Derived.Deep.AppendLies
import Derived.Test.YtnkinbfglenddaaRef13
import Derived.Test.YtnkinbfglenddaaWWords
import Derived.Deep.RegionLaw
namespace Go.Proofs.Ytnkinbfglenddaa.Dec
open Go.RowKit Go.Proofs.Ytnkinbfglenddaa.Win Go.Proofs.Ytnkinbfglenddaa.Stp Go.Proofs.Ytnkinbfglenddaa.Mach Go.Proofs.Ytnkinbfglenddaa.Lst Go.Proofs.YtnkinbfglenddaaW.PrintWords
set_option linter.unusedVariables false
set_option linter.unusedSimpArgs false
def u8s (xs : List Int) : List Value := xs.map fun x => .int .u8 x
theorem u8s_append (xs ys : List Int) : u8s (xs ++ ys) = u8s xs ++ u8s ys := by simp [u8s]
theorem info_u8 : (Try.prog.info? 5).map (fun i => (i.zero, i.size, i.bytes)) = some (some (.int .u8 0), 1, 1) := by kernel_rfl
theorem units_len (c : Int) : (units c).length ≤ 2 := by unfold units; split <;> simp
theorem big_len (us : List Int) : (big us).length = 2 * us.length := by
  induction us with
  | nil => rfl
  | cons u us ih => simp only [big, List.flatMap_cons, List.length_append, List.length_cons, List.length_nil] at ih ⊢; omega
theorem bytesB_len (l : List Int) : (bytesB l).length ≤ 4 * l.length := by
  induction l with
  | nil => simp [bytesB]
  | cons c l ih =>
    have h1 := big_len (units c)
    have h2 := units_len c
    simp only [bytesB, List.flatMap_cons, List.length_append, List.length_cons] at ih ⊢
    omega
theorem big_snoc (us : List Int) (u : Int) : big (us ++ [u]) = big us ++ [u / 256, u % 256] := by simp [big]
theorem bytesB_snoc (l : List Int) (c : Int) : bytesB (l ++ [c]) = bytesB l ++ big (units c) := by simp [bytesB]
theorem units_rng {c : Int} (h0 : 0 ≤ c) (h1 : c ≤ 1114111) : ∀ u ∈ units c, 0 ≤ u ∧ u ≤ 65535 := by
  intro u hu
  unfold units at hu
  split at hu
  · rw [List.mem_singleton.1 hu]; omega
  · simp only [List.mem_cons, List.not_mem_nil, or_false] at hu
    omega
theorem bytesB_rng {l : List Int} (h : ∀ x ∈ l, 0 ≤ x ∧ x ≤ 1114111) : ∀ y ∈ bytesB l, 0 ≤ y ∧ y ≤ 255 := by
  intro y hy
  unfold bytesB big at hy
  simp only [List.mem_flatMap] at hy
  obtain ⟨c, hc, u, hu, hy⟩ := hy
  have := units_rng (h c hc).1 (h c hc).2 u hu
  simp only [List.mem_cons, List.not_mem_nil, or_false] at hy
  omega
def OutRel (w : World) (l : List Int) (vo i : Value) (wr : World) : Prop :=
  ∃ k : Nat, k ≤ l.length ∧ i = .int .i64 k ∧ Below w.heap.size w wr ∧ wr.ownsRow w.heap.size 5 1 vo (bytesB (l.take k)).length (u8s (bytesB (l.take k)))
def InRel (w : World) (l : List Int) (k : Nat) (c : Int) (gu : Nat) (vo i : Value) (wr : World) : Prop :=
  ∃ j : Nat, j ≤ (units c).length ∧ i = .int .i64 j ∧ Below w.heap.size w wr ∧ wr.ownsRow w.heap.size 5 1 vo (bytesB (l.take k) ++ big ((units c).take j)).length (u8s (bytesB (l.take k) ++ big ((units c).take j))) ∧
    RowAt wr gu .u32 25 (units c)
def BytesPost (w : World) (l : List Int) (e : Ending) (w' : World) : Prop := ∃ s : ByteArray, e = .returned (.string s) ∧ byt s = bytesB l ∧ Below w.heap.size w w'
set_option maxRecDepth 100000 in
set_option maxHeartbeats 8000000 in
theorem rbytes_calls {w : World} {A : Option Addr} {c : Nat} {l : List Int} (h : Lst w .u32 A l) (hl : l.length ≤ 1000) (hr : ∀ x ∈ l, 0 ≤ x ∧ x ≤ 1114111) : Calls Try.prog 15 #[.slice A l.length c, .bool true] w (BytesPost w l) := by
  obtain ⟨i0, hi, hz0, hz1, hz2⟩ := info_parts info_u8
  have HN : Hid (i0.zero = some (.int .u8 0) ∧ i0.size = 1 ∧ i0.bytes = 1 ∧ Try.prog.info? 5 = some i0) := ⟨hz0, hz1, hz2, hi⟩
  have H := Lib.hid h
  have HR := Lib.hid hr
  clear h hr hz0 hz1 hz2 hi
  go_enter Try.func15, Try.ntmps15
  go_wp2_with fail
  have hlit := World.ownsRow_lit (base := w.heap.size) (e := 5) (size := 1) w #[] 0 (Nat.le_refl _) (by decide) rfl
  go_loopw [5, 6] (fun vo i wr => OutRel w l vo i wr) (fun _ i _ => l.length - (intOf i).toNat)
  case atStart =>
    exact ⟨0, Nat.zero_le _, rfl, (Below.refl _ _).alloc (Nat.le_refl _) _, hlit⟩
  case round =>
    obtain ⟨k, hk, rfl, hb, ho⟩ := hrel
    have HB := Lib.hid hb
    have HO := Lib.hid ho
    clear hb ho hlit
    by_cases hlt : k < l.length
    · obtain ⟨a, rfl, q⟩ := (H.out.below HB.out) k hlt
      have htk := take_succ' hlt
      have hrx := HR.out (l.getD k 0) (by rw [List.getD_eq_getElem?_getD, List.getElem?_eq_getElem hlt]; exact List.getElem_mem _)
      generalize l.getD k 0 = x at q htk hrx
      obtain ⟨x0, x1⟩ := hrx
      have HTK := Lib.hid htk
      have HUN := Lib.hid (fun w => runits_calls x w x0 x1)
      clear htk
      go_wp2_with (go_at_call 28; refine (HUN.out _).mono ?_; rintro e w1 ⟨rfl, rfl⟩)
      have hrow : RowAt (wr.alloc (.cells (u32s (units x)).toArray 25)) wr.heap.size .u32 25 (units x) := ⟨heap_alloc_new _ _⟩
      have ho2 := HO.out.alloc (.cells (u32s (units x)).toArray 25)
      have hb2 := HB.out.alloc HB.out.size (.cells (u32s (units x)).toArray 25)
      have hul := units_len x
      obtain ⟨gu, hgu⟩ : ∃ g, g = wr.heap.size := ⟨_, rfl⟩
      rw [← hgu] at hrow
      rw [← hgu]
      obtain ⟨w1, hw1⟩ : ∃ w1, w1 = wr.alloc (.cells (u32s (units x)).toArray 25) := ⟨_, rfl⟩
      rw [← hw1] at hrow ho2 hb2
      rw [← hw1]
      clear hgu hw1
      have HRow := Lib.hid hrow
      have HO2 := Lib.hid ho2
      have HB2 := Lib.hid hb2
      obtain ⟨U, hU⟩ : ∃ U, U = (units x).length := ⟨_, rfl⟩
      rw [← hU] at hul
      rw [← hU]
      have HU := Lib.hid hU
      clear hrow ho2 hb2 hU
      go_loopw [5, 8] (fun vo i wr => InRel w l k x gu vo i wr) (fun _ i _ => U - (intOf i).toNat)
      case atStart =>
        refine ⟨0, Nat.zero_le _, rfl, HB2.out, ?_, HRow.out⟩
        have := HO2.out
        simpa [big] using this
      case round =>
        obtain ⟨j, hj, rfl, hb, ho, hrow⟩ := hrel
        rw [← HU.out] at hj
        have HB3 := Lib.hid hb
        have HO3 := Lib.hid ho
        have HRow3 := Lib.hid hrow
        by_cases hjl : j < U
        · have hcell := hrow.cell j (by rw [← HU.out]; exact hjl)
          have hur := units_rng x0 x1 ((units x).getD j 0) (by rw [List.getD_eq_getElem?_getD, List.getElem?_eq_getElem (by rw [← HU.out]; exact hjl)]; exact List.getElem_mem _)
          have htj := take_succ' (l := units x) (k := j) (by rw [← HU.out]; exact hjl)
          generalize (units x).getD j 0 = u at hcell hur htj
          obtain ⟨u0, u1⟩ := hur
          have HTJ := Lib.hid htj
          clear hb ho hrow htj
          go_upto_region 10 with fail
          have q1 : IntKind.u8.wrap (u / 256) = u / 256 := by rw [IntKind.wrap_u8]; omega
          have q2 : IntKind.u8.wrap (u % 256) = u % 256 := by rw [IntKind.wrap_u8]; omega
          have p1 : IntKind.u32.wrap (u.tdiv 256) = u / 256 := by rw [Int.tdiv_eq_ediv_of_nonneg u0, IntKind.wrap_u32]; omega
          have p2 : u.tmod 256 = u % 256 := Int.tmod_eq_emod_of_nonneg u0
          have hne : wr.heap.size < (wr.alloc (.cells #[.int .u8 (u / 256), .int .u8 (u % 256)] 5)).drew.heap.size := by simp [World.drew]
          have hbs : w.heap.size ≤ (wr.alloc (.cells #[.int .u8 (u / 256), .int .u8 (u % 256)] 5)).drew.heap.size := by have := HB3.out.size; omega
          have hlen3 : (bytesB (l.take k) ++ big ((units x).take j)).length ≤ 4004 := by
            have e1 := bytesB_len (l.take k)
            have e2 := big_len ((units x).take j)
            rw [List.length_take] at e1 e2
            rw [List.length_append]
            omega
          have HLN := Lib.hid hlen3
          have HBS := Lib.hid hbs
          clear hne hbs hlen3
          go_region_law (refine step_append_lies (wr.alloc (.cells #[.int .u8 (u / 256), .int .u8 (u % 256)] 5)).drew rfl (.tmp 28) (.tmp 41) 37 rfl w.heap.size 5 i0 (.int .u8 0) 1 1 Try.underlying37 HN.out.2.2.2 HN.out.1 HN.out.2.1 HN.out.2.2.1 rfl (by decide) _ _ _ rfl (HO3.out.alloc (.cells #[.int .u8 (u / 256), .int .u8 (u % 256)] 5)) ⟨wr.heap.size, 0, none⟩ 2 2 [.int .u8 (u / 256), .int .u8 (u % 256)] rfl rfl ?c1 ?c2 (by decide) ?c3 ?c4 HBS.out _ rfl ?_; (case c1 => exact World.news_of_block (w := (wr.alloc (.cells #[.int .u8 (u / 256), .int .u8 (u % 256)] 5)).drew) (heap_alloc_new wr _)); (case c2 => intro q hq; simp at hq; rcases hq with rfl | rfl <;> rfl); (case c3 => have := HLN.out; unfold maxLen; omega); (case c4 => have := HLN.out; omega); intro r c1 w1 hown1 hgrow1 hat1 hlt1; have HO1 := Lib.hid hown1; have HG1 := Lib.hid hgrow1; clear hown1 hgrow1 hat1 hlt1)
          all_goals
            go_wp2_with fail
            go_roundw
            case rel =>
              refine ⟨j + 1, by rw [← HU.out]; exact hjl, by go_num, ?_, ?_, ?_⟩
              · exact Below.grown ((HB3.out.alloc HB3.out.size _).trans (below_drewN (Below.refl _ _) 1)) HG1.out HBS.out (fun q hq => (HO3.out.lt q hq).1)
              · rw [HTJ.out, big_snoc, ← List.append_assoc, u8s_append]
                have h1 := HO1.out
                simp only [List.length_append] at h1 ⊢
                exact h1
              · refine HRow3.out.keep (HG1.out.block gu (Nat.lt_of_lt_of_le HRow3.out.lt ?_) ?_ |>.trans (Below.heap_alloc _ _ _ HRow3.out.lt))
                · simp [World.drew]
                · exact fun e => own_ne_blk HO3.out HRow3.out.blk (by decide) e.symm
            case measure => simp [intOf]; omega
        · obtain rfl : j = U := by omega
          clear hb ho hrow hjl
          go_wp2_with fail
          go_roundw
          case rel =>
            refine ⟨k + 1, hlt, by go_num, HB3.out, ?_⟩
            have := HO3.out
            rw [HTK.out, bytesB_snoc]
            rw [HU.out, List.take_length] at this
            exact this
          case measure => simp [intOf]; omega
    · obtain rfl : k = l.length := by omega
      have ho := HO.out
      rw [List.take_length] at ho
      have hcv := own_string (src := 37) (dst := 9) Try.underlying37 Try.underlying5 Try.underlying9 (xs := bytesB l) ho
      have hrng : ∀ x ∈ bytesB l, 0 ≤ x ∧ x ≤ 255 := bytesB_rng HR.out
      have HRN := Lib.hid hrng
      clear ho hlt hrng
      go_wp2_with fail
      go_ret
      exact ⟨_, rfl, byt_str HRN.out, HB.out⟩
end Go.Proofs.Ytnkinbfglenddaa.Dec
