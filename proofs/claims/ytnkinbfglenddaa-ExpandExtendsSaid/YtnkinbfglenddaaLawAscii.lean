/- ExpandAscii: text that denotes itself. -/
import Derived.Test.YtnkinbfglenddaaAwk
import Derived.Deep.AppendLies
namespace Go.Proofs.Ytnkinbfglenddaa.Dec
open Go.RowKit Go.Proofs.Ytnkinbfglenddaa.Win Go.Proofs.Ytnkinbfglenddaa.Stp Go.Proofs.Ytnkinbfglenddaa.Mach Go.Proofs.Ytnkinbfglenddaa.Lst
set_option linter.unusedVariables false
set_option linter.unusedSimpArgs false
/-- A byte that stands for itself. -/
def okb (x : Int) : Prop := ¬ (x < 32 ∧ x ≠ 0 ∧ x ≠ 9 ∧ x ≠ 10 ∧ x ≠ 13)
def bad (x : Int) : Bool := decide (x < 32) && (x != 0) && (x != 9) && (x != 10) && (x != 13)
theorem bad_false {x : Int} (h : bad x = false) : okb x := by
  unfold bad at h
  unfold okb
  rintro ⟨h1, h2, h3, h4, h5⟩
  simp [h1, h2, h3, h4, h5] at h
theorem okb_step {x : Int} (h : okb x) : Mach.step m0 x = some (m0, [x]) := by
  unfold okb at h
  unfold Mach.step
  rw [if_neg (by unfold m0; decide), if_neg (by unfold m0; decide)]
  unfold single
  rw [if_neg (by unfold m0; simp; omega)]
  split
  · have : wAt m0.o m0.act = 128 := by decide +kernel
    rw [this]
    have : (128 : Int) + x - 128 = x := by omega
    rw [this]
  · rw [if_pos]
    unfold pass
    simp only [Bool.or_eq_true, decide_eq_true_eq]
    omega
theorem okb_steps : ∀ {l : List Int}, (∀ x ∈ l, okb x) → steps m0 l = some (m0, l)
  | [], _ => rfl
  | x :: xs, h => by
    simp only [steps, okb_step (h x List.mem_cons_self), okb_steps (l := xs) (fun y hy => h y (List.mem_cons_of_mem _ hy))]
    rfl
theorem ran_ascii {l out : List Int} {b : B4} (h : ∀ x ∈ l, okb x) (hr : Ran l out b) : out = l := by
  have h1 := okb_steps h
  rcases hr with ⟨m, h2, _⟩ | ⟨m, h2, _⟩ | ⟨k, m, h2, h3, h4, _⟩
  · rw [h1] at h2; simp only [Option.some.injEq, Prod.mk.injEq] at h2; exact h2.2.symm
  · rw [h1] at h2; simp only [Option.some.injEq, Prod.mk.injEq] at h2; exact h2.2.symm
  · have := stop_le h2 h3 h4 (j := l.length) (by rw [List.take_length]; exact h1)
    omega
theorem byt_rng (s : ByteArray) : ∀ x ∈ byt s, 0 ≤ x ∧ x ≤ 255 := by
  intro x hx
  unfold byt at hx
  rw [List.mem_map] at hx
  obtain ⟨y, _, rfl⟩ := hx
  have := y.toNat_lt
  omega
def AscRel (w1 : World) (s : ByteArray) (vo i : Value) (wr : World) : Prop :=
  ∃ k : Nat, k ≤ s.size ∧ i = .int .i64 k ∧ wr.ownsRow w1.heap.size 25 1 vo k (u32s ((byt s).take k)) ∧ Below w1.heap.size w1 wr ∧ (∀ x ∈ (byt s).take k, okb x)
def LawPost (w : World) (e : Ending) (w' : World) : Prop := e = .returned (.bool true) ∧ Below w.heap.size w w'
set_option maxRecDepth 100000 in
set_option maxHeartbeats 8000000 in
theorem ascii_small (s : ByteArray) (w : World) (hs : s.size ≤ 400) : Calls Try.prog 3 #[.string s] w (LawPost w) := by
  obtain ⟨i0, hi, hz0, hz1, hz2⟩ := info_parts info_u32
  have HN : Hid (i0.zero = some (.int .u32 0) ∧ i0.size = 1 ∧ i0.bytes = 4 ∧ Try.prog.info? 25 = some i0) := ⟨hz0, hz1, hz2, hi⟩
  clear hz0 hz1 hz2 hi
  have hgr := great_calls (s.size : Int) none none 0 0 0 0
  have e1 : (decide (400 < (s.size : Int)) || (decide (200 < 0) || decide (200 < 0))) = false := by rw [Bool.eq_iff_iff]; simp; omega
  rw [e1] at hgr
  have HGR := Lib.hid hgr
  clear hgr e1
  go_enter Try.func3, Try.ntmps3
  go_wp2_with fail
  refine (awake_calls _).mono ?_
  rintro e w1 ⟨rfl, hb1⟩
  have HB1 := Lib.hid hb1
  clear hb1
  go_wp2_with fail
  refine (HGR.out _).mono ?_
  rintro e w2 ⟨rfl, rfl⟩
  go_wp2_with fail
  go_loopw [3, 4] (fun vo i wr => AscRel w1 s vo i wr) (fun _ i _ => s.size - (intOf i).toNat)
  case atStart => exact ⟨0, Nat.zero_le _, rfl, World.ownsRow_nil _ _ _ _, Below.refl _ _, fun x hx => by cases hx⟩
  case round =>
    obtain ⟨k, hk, rfl, ho, hbl, hok⟩ := hrel
    have HO := Lib.hid ho
    have HBl := Lib.hid hbl
    have HOK := Lib.hid hok
    clear ho hbl hok
    by_cases hlt : k < s.size
    · have hb := byt_at s k hlt
      have htk := byt_take s k hlt
      obtain ⟨x, hx⟩ : ∃ x : Int, x = (s[k].toNat : Int) := ⟨_, rfl⟩
      have x0 : 0 ≤ x := by omega
      have x1 : x ≤ 255 := by have := s[k].toNat_lt; omega
      rw [← hx] at htk
      have HX := Lib.hid hx
      have HTK := Lib.hid htk
      clear hb htk hx
      go_upto_region 7 with fail
      go_cut [5] from 16 to 47 (fun b wx => b = .int .u8 x ∧ wr = wx)
      case first =>
        go_wp2_with fail
        go_meet
        exact ⟨by rw [HX.out], rfl⟩
      case rest =>
        obtain ⟨rfl, rfl⟩ := hcut
        go_upto_region 8 with fail
        go_cut [42] from 16 to 47 (fun b wx => b = .bool (bad x) ∧ wr = wx)
        case first =>
          by_cases hx32 : x < 32
          · obtain ⟨q0, e0⟩ : ∃ q, (x != 0) = q := ⟨_, rfl⟩
            obtain ⟨q9, e9⟩ : ∃ q, (x != 9) = q := ⟨_, rfl⟩
            obtain ⟨q10, e10⟩ : ∃ q, (x != 10) = q := ⟨_, rfl⟩
            obtain ⟨q13, e13⟩ : ∃ q, (x != 13) = q := ⟨_, rfl⟩
            have hbb : bad x = (q0 && q9 && q10 && q13) := by
              unfold bad
              rw [decide_eq_true hx32, e0, e9, e10, e13, Bool.true_and]
            have HBB := Lib.hid hbb
            clear hbb
            cases q0 <;> cases q9 <;> cases q10 <;> cases q13
            all_goals
              go_wp2_with fail
              go_meet
              exact ⟨by rw [HBB.out]; rfl, rfl⟩
          · have hbb : bad x = false := by
              unfold bad
              rw [decide_eq_false hx32]
              rfl
            have HBB := Lib.hid hbb
            clear hbb
            go_wp2_with fail
            go_meet
            exact ⟨by rw [HBB.out], rfl⟩
        case rest =>
          obtain ⟨hb42, rfl⟩ := hcut
          cases hbx : bad x with
          | true =>
            rw [hbx] at hb42
            subst hb42
            clear hbx
            go_wp2_with fail
            go_ret
            exact ⟨rfl, tb HB1.out HBl.out⟩
          | false =>
            rw [hbx] at hb42
            subst hb42
            have HOKx := Lib.hid (bad_false hbx)
            clear hbx
            have ho2 := own_chg HO.out (Chg.alloc (S := fun _ => False) wr (.cells #[.int .u32 x] 25)) (fun _ _ h => h)
            have HO2 := Lib.hid ho2
            have hcell : (wr.alloc (.cells #[.int .u32 x] 25)).cell? ⟨wr.heap.size, 0, none⟩ = some (.int .u32 x) := by rw [cell_of (heap_alloc_new _ _)]; rfl
            have HCL := Lib.hid hcell
            have hws : w1.heap.size ≤ (wr.alloc (.cells #[.int .u32 x] 25)).heap.size := by have := HBl.out.size; simp; omega
            have HWS := Lib.hid hws
            clear ho2 hcell hws
            go_wp2_with (at_builtin; refine wpList_append_lies _ rfl (.tmp 43) (.tmp 46) 24 rfl w1.heap.size 25 i0 (.int .u32 0) 1 4 Try.underlying24 HN.out.2.2.2 HN.out.1 HN.out.2.1 HN.out.2.2.1 rfl (by decide) _ k (u32s ((byt s).take k)) rfl HO2.out ⟨wr.heap.size, 0, none⟩ 1 1 [.int .u32 x] rfl rfl ?c1 ?c2 (by decide) ?c3 ?c4 HWS.out _ rfl ?_; (case c1 => intro j u hu; match j, hu with | 0, hu => (simp at hu; subst hu; exact HCL.out)); (case c2 => intro u hu; simp at hu; subst hu; rfl); (case c3 => unfold maxLen; omega); (case c4 => omega); intro r c1 w3 hown1 hgrow1 hat1 hlt1; have HO1 := Lib.hid hown1; have HG1 := Lib.hid hgrow1; clear hown1 hgrow1 hat1 hlt1)
            go_roundw
            case rel =>
              refine ⟨k + 1, hlt, by go_num, ?_, ?_, ?_⟩
              · rw [HTK.out, u32s_append]
                exact HO1.out
              · refine Below.grown (HBl.out.alloc HBl.out.size _) HG1.out HWS.out (fun q hq => ?_)
                exact (HO2.out.lt q hq).1
              · rw [HTK.out]
                intro y hy
                rcases List.mem_append.1 hy with hy | hy
                · exact HOK.out y hy
                · rw [List.mem_singleton.1 hy]; exact HOKx.out
            case measure => simp [intOf]; omega
    · obtain rfl : k = s.size := by omega
      obtain ⟨A, c, rfl⟩ := owns_form HO.out
      have hfull : (byt s).take s.size = byt s := by rw [← byt_length, List.take_length]
      have hok := HOK.out
      have ho := HO.out
      rw [hfull] at hok ho
      have HOK2 := Lib.hid hok
      have HO2 := Lib.hid ho
      clear hfull hok ho hlt
      go_wp2_with fail
      refine (newDecoder_calls _).mono ?_
      rintro e w3 ⟨rfl, hd, hb3, hz3⟩
      obtain ⟨g, hg⟩ : ∃ g, g = wr.heap.size := ⟨_, rfl⟩
      rw [← hg] at hd
      rw [← hg]
      have hrd := read_calls (parts := []) (rooms := []) (AP := none) (AR := none) (cP := 0) (cR := 0) s hd (fun _ _ => Lst.nil _ _ _) (fun _ _ => Lst.nil _ _ _) (by decide) (by decide) (by omega)
      have HRD := Lib.hid hrd
      have HB3 := Lib.hid hb3
      have HGw := Lib.hid hg
      have HD := Lib.hid hd
      clear hrd hb3 hg hz3 hd
      go_wp2_with fail
      refine HRD.out.mono ?_
      rintro e w4 ⟨A2, c2, out, b, m, rfl, hd4, hc4, ho4, hlen, hran⟩
      have hout := ran_ascii HOK2.out hran
      have hb4 : Below w.heap.size w w4 := Chg.below (tb (tb HB1.out HBl.out) HB3.out) hc4 (by
        have := (tb HB1.out HBl.out).size
        have := HGw.out
        rintro i (h | h | h)
        · omega
        · omega
        · cases h)
      have hl1 : Lst w4 .u32 A (byt s) := by
        refine Lst.chg ((Lst.of_owns (n := s.size) (by rw [byt_length]; exact HO2.out)).below HB3.out) hc4 ?_
        intro a ha hh
        have hlt := (HO2.out.lt a.block (by rw [ha]; rfl)).2
        have := HGw.out
        rcases hh with h | h | h
        · omega
        · omega
        · cases h
      have hl2 := Lst.of_owns ho4
      have hsm := same_calls (c := c2) (d := c) hl2 hl1 (by omega) (by rw [byt_length]; omega)
      rw [byt_length, decide_eq_true hout] at hsm
      have HSM := Lib.hid hsm
      have HB4 := Lib.hid hb4
      clear hd4 hc4 ho4 hlen hran hout hb4 hl1 hl2 hsm
      go_wp2_with fail
      refine HSM.out.mono ?_
      rintro e w5 ⟨rfl, hdr⟩
      have HB5 := Lib.hid (hdr.below w.heap.size)
      clear hdr
      go_wp2_with fail
      go_ret
      exact ⟨rfl, HB4.out.trans HB5.out⟩
set_option maxHeartbeats 4000000 in
theorem ascii_big (s : ByteArray) (w : World) (hs : 400 < s.size) (hm : s.size ≤ 140737488351232) : Calls Try.prog 3 #[.string s] w (LawPost w) := by
  have hgr := great_calls (s.size : Int) none none 0 0 0 0
  have e1 : (decide (400 < (s.size : Int)) || (decide (200 < 0) || decide (200 < 0))) = true := by rw [Bool.eq_iff_iff]; simp; omega
  rw [e1] at hgr
  have HGR := Lib.hid hgr
  clear hgr e1
  go_enter Try.func3, Try.ntmps3
  go_wp2_with fail
  refine (awake_calls _).mono ?_
  rintro e w1 ⟨rfl, hb1⟩
  have HB1 := Lib.hid hb1
  clear hb1
  go_wp2_with fail
  refine (HGR.out _).mono ?_
  rintro e w2 ⟨rfl, rfl⟩
  go_wp2_with fail
  refine (awake_calls _).mono ?_
  rintro e w3 ⟨rfl, hb3⟩
  have HB3 := Lib.hid hb3
  clear hb3
  go_wp2_with fail
  go_ret
  exact ⟨rfl, tb HB1.out HB3.out⟩
theorem expandAscii_row (s : ByteArray) (w : World) (hm : s.size ≤ 140737488351232) : Calls Try.prog 3 #[.string s] w fun e w' => e = .returned (.bool true) ∧ Below w.heap.size w w' := by
  by_cases h : s.size ≤ 400
  · exact ascii_small s w h
  · exact ascii_big s w (by omega) hm
end Go.Proofs.Ytnkinbfglenddaa.Dec
