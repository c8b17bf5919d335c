/- CompressLatin: Latin text is itself. -/
import Derived.Test.YtkfiahildoljfaaAwkE
import Derived.Deep.AppendLies
import Derived.Deep.CutBlock
import Derived.Deep.DeepCutAuto
namespace Go.Proofs.Ytkfiahildoljfaa.Enc
open Go.RowKit Go.Proofs.Ytkfiahildoljfaa.Win Go.Proofs.Ytkfiahildoljfaa.Stp Go.Proofs.Ytkfiahildoljfaa.Lst
set_option linter.unusedVariables false
set_option linter.unusedSimpArgs false
def byt (s : ByteArray) : List Int := s.data.toList.map fun x => (x.toNat : Int)
theorem byt_length (s : ByteArray) : (byt s).length = s.size := by unfold byt; rw [List.length_map, Array.length_toList]; rfl
theorem byt_at (s : ByteArray) (k : Nat) (h : k < s.size) : (byt s).getD k 0 = (s[k].toNat : Int) := by
  unfold byt
  rw [List.getD_eq_getElem?_getD, List.getElem?_map, List.getElem?_eq_getElem (by rw [Array.length_toList]; exact h)]
  rfl
theorem byt_take (s : ByteArray) (k : Nat) (h : k < s.size) : (byt s).take (k + 1) = (byt s).take k ++ [(s[k].toNat : Int)] := by
  rw [List.take_succ_eq_append_getElem (by rw [byt_length]; exact h)]
  have := byt_at s k h
  rw [List.getD_eq_getElem?_getD, List.getElem?_eq_getElem (by rw [byt_length]; exact h)] at this
  rw [← this]; rfl
theorem str_byt (s : ByteArray) : strOfNums (byt s) = s := by
  have : (strOfNums (byt s)).data = s.data := by
    have hm : List.map (fun n : Int => UInt8.ofNat n.toNat) (List.map (fun x : UInt8 => (x.toNat : Int)) s.data.toList) = s.data.toList := by
      rw [List.map_map]
      conv => rhs; rw [← List.map_id s.data.toList]
      apply List.map_congr_left
      intro x _
      simp
    unfold strOfNums byt
    rw [hm]
  cases h1 : strOfNums (byt s)
  cases s
  rw [h1] at this
  simp only at this
  rw [this]
def okL (x : Int) : Prop := 0 ≤ x ∧ x ≤ 255 ∧ (x < 32 → x = 0 ∨ x = 9 ∨ x = 10 ∨ x = 13) ∧ ¬ (127 ≤ x ∧ x < 160)
def badL (x : Int) : Bool := (decide (x < 32) && (x != 0) && (x != 9) && (x != 10) && (x != 13)) || (decide (127 ≤ x) && decide (x < 160))
theorem badL_false {x : Int} (h0 : 0 ≤ x) (h1 : x ≤ 255) (h : badL x = false) : okL x := by
  unfold badL at h
  unfold okL
  simp at h
  refine ⟨h0, h1, fun h2 => ?_, fun h2 => ?_⟩
  · have h3 := h.1 h2
    by_cases a0 : x = 0
    · exact .inl a0
    · by_cases a9 : x = 9
      · exact .inr (.inl a9)
      · by_cases a10 : x = 10
        · exact .inr (.inr (.inl a10))
        · exact .inr (.inr (.inr (h3 a0 a9 a10)))
  · have := h.2 h2.1
    omega
structure LP (m : E) : Prop where
  o : m.o = firsts
  uni : m.uni = false
  act : m.act = 0
theorem latin_simple {m : E} {c : Int} (h : LP m) (hc : okL c) : simpleC m c = some [c] := by
  obtain ⟨h0, h1, h2, h3⟩ := hc
  unfold simpleC
  by_cases hp : passB c = true
  · rw [if_pos hp]
  · have hn : ¬ ((32 ≤ c ∧ c < 128) ∨ c = 0 ∨ c = 9 ∨ c = 10 ∨ c = 13) := fun h => hp (passB_iff.2 h)
    have hc32 : ¬ c < 32 := fun h => by have := h2 h; omega
    have hw : wAt m.o m.act = 128 := by rw [h.o, h.act]; decide +kernel
    rw [if_neg hp, if_neg hc32, hw, if_pos (hld_iff.2 (by omega))]
    have : 128 + c - 128 = c := by omega
    rw [this]
theorem latin_work {m : E} {c d : Int} (h : LP m) (hc : okL c) : workC m c d = ({ m with beh := true }, [c]) := by
  have h2 : LP { m with beh := true } := ⟨h.o, h.uni, h.act⟩
  have hs := latin_simple h2 hc
  have h255 := hc.2.1
  unfold workC
  rw [if_neg (by simp; omega)]
  have hu : m.uni = false := h.uni
  by_cases hp : m.plain = true
  · rw [if_pos hp, if_neg (by rw [hu]; simp), hs]
  · rw [if_neg hp, if_pos hu]
    unfold singleC
    rw [hs]
def total (m : E) (cs : List Int) : List Int := (pushes m cs).2 ++ (flushC (pushes m cs).1).2
theorem total_cons (m : E) (c : Int) (cs : List Int) : total m (c :: cs) = (pushC m c).2 ++ total (pushC m c).1 cs := by
  unfold total
  simp only [pushes, List.append_assoc]
theorem latin_some : ∀ {cs : List Int} {m : E}, LP m → okL m.wt → (∀ x ∈ cs, okL x) → total m cs = m.wt :: cs
  | [], m, h, hw, _ => by
    have hne : m.wt ≠ 2147483648 := by have := hw.2.1; omega
    have hfl : flushC m = ({ (workC m m.wt 2147483648).1 with wt := 2147483648 }, (workC m m.wt 2147483648).2) := by unfold flushC; rw [if_neg hne]
    show [] ++ (flushC m).2 = [m.wt]
    rw [hfl, latin_work h hw]
    rfl
  | c :: cs, m, h, hw, ha => by
    have hne : m.wt ≠ 2147483648 := by have := hw.2.1; omega
    have hpc : pushC m c = ({ m with beh := true, wt := c }, [m.wt]) := by
      unfold pushC
      rw [if_neg hne, latin_work h hw]
    rw [total_cons, hpc]
    have := latin_some (cs := cs) (m := { m with beh := true, wt := c }) ⟨h.o, h.uni, h.act⟩ (ha c List.mem_cons_self) (fun x hx => ha x (List.mem_cons_of_mem _ hx))
    rw [this]
    rfl
theorem latin_text {pl : Bool} : ∀ {cs : List Int}, (∀ x ∈ cs, okL x) → textC pl cs = cs
  | [], _ => rfl
  | c :: cs, ha => by
    have h1 : textC pl (c :: cs) = total (e0 pl) (c :: cs) := rfl
    have hpc : pushC (e0 pl) c = ({ e0 pl with wt := c }, []) := by unfold pushC; rw [if_pos (show (e0 pl).wt = 2147483648 from rfl)]
    rw [h1, total_cons, hpc, latin_some (m := { e0 pl with wt := c }) ⟨rfl, rfl, rfl⟩ (ha c List.mem_cons_self) (fun x hx => ha x (List.mem_cons_of_mem _ hx))]
    rfl
def LatRel (w1 : World) (s : ByteArray) (vo i : Value) (wr : World) : Prop :=
  ∃ k : Nat, k ≤ s.size ∧ i = .int .i64 k ∧ wr.ownsRow w1.heap.size 35 1 vo k (u32s ((byt s).take k)) ∧ Below w1.heap.size w1 wr ∧ (∀ x ∈ (byt s).take k, okL x)
def LawPost (w : World) (e : Ending) (w' : World) : Prop := e = .returned (.bool true) ∧ Below w.heap.size w w'
set_option maxRecDepth 100000 in
set_option maxHeartbeats 8000000 in
theorem latin_small (pl : Bool) (s : ByteArray) (w : World) (hs : s.size ≤ 400) : Calls Try.prog 5 #[.bool pl, .string s] w (LawPost w) := by
  obtain ⟨i0, hi, hz0, hz1, hz2⟩ := info_parts info_u32
  have HN : Hid (i0.zero = some (.int .u32 0) ∧ i0.size = 1 ∧ i0.bytes = 4 ∧ Try.prog.info? 35 = some i0) := ⟨hz0, hz1, hz2, hi⟩
  clear hz0 hz1 hz2 hi
  have hgr := great_calls (s.size : Int) none none 0 0 0 0
  have e1 : (decide (400 < (s.size : Int)) || (decide (200 < 0) || decide (200 < 0))) = false := by rw [Bool.eq_iff_iff]; simp; omega
  rw [e1] at hgr
  have HGR := Lib.hid hgr
  clear hgr e1
  go_enter Try.func5, Try.ntmps5
  go_wp2_with fail
  refine (awake_calls _).mono ?_
  rintro e w1 ⟨rfl, hb1⟩
  have HB1 := Lib.hid hb1
  clear hb1
  go_wp2_with fail
  refine (HGR.out _).mono ?_
  rintro e w2 ⟨rfl, rfl⟩
  go_wp2_with fail
  go_loopw [5, 6] (fun vo i wr => LatRel w1 s vo i wr) (fun _ i _ => s.size - (intOf i).toNat)
  case atStart => exact ⟨0, Nat.zero_le _, rfl, World.ownsRow_nil _ _ _ _, Below.refl _ _, fun x hx => by cases hx⟩
  case round =>
    obtain ⟨k, hk, rfl, ho, hbl, hok⟩ := hrel
    have HO := Lib.hid ho
    have HBl := Lib.hid hbl
    have HOK := Lib.hid hok
    clear ho hbl hok
    by_cases hlt : k < s.size
    · have hb := byt_at s k hlt
      have htk := byt_take s k hlt
      obtain ⟨x, hx⟩ : ∃ x : Int, x = (s[k].toNat : Int) := ⟨_, rfl⟩
      have x0 : 0 ≤ x := by omega
      have x1 : x ≤ 255 := by have := s[k].toNat_lt; omega
      rw [← hx] at htk
      have HX := Lib.hid hx
      have HTK := Lib.hid htk
      clear hb htk hx
      go_upto_region 7 with fail
      go_cut [7] from 18 to 57 (fun b wx => b = .int .u8 x ∧ wr = wx)
      case first =>
        go_wp2_with fail
        go_meet
        exact ⟨by rw [HX.out], rfl⟩
      case rest =>
        obtain ⟨rfl, rfl⟩ := hcut
        go_upto_region 8 with fail
        go_cut [52] from 18 to 57 (fun b wx => b = .bool (badL x) ∧ wr = wx)
        case first =>
          by_cases hx32 : x < 32
          · obtain ⟨q0, e0⟩ : ∃ q, (x != 0) = q := ⟨_, rfl⟩
            obtain ⟨q9, e9⟩ : ∃ q, (x != 9) = q := ⟨_, rfl⟩
            obtain ⟨q10, e10⟩ : ∃ q, (x != 10) = q := ⟨_, rfl⟩
            obtain ⟨q13, e13⟩ : ∃ q, (x != 13) = q := ⟨_, rfl⟩
            have hbb : badL x = (q0 && q9 && q10 && q13) := by
              unfold badL
              rw [decide_eq_true hx32, e0, e9, e10, e13, Bool.true_and, decide_eq_false (show ¬ 127 ≤ x by omega), Bool.false_and, Bool.or_false]
            have HBB := Lib.hid hbb
            have h127 : ¬ 127 ≤ x := by omega
            clear hbb
            cases q0 <;> cases q9 <;> cases q10 <;> cases q13
            all_goals
              go_wp2_with fail
              go_meet
              exact ⟨by rw [HBB.out]; rfl, rfl⟩
          · have hbb : badL x = (decide (127 ≤ x) && decide (x < 160)) := by
              unfold badL
              rw [decide_eq_false hx32]
              rfl
            have HBB := Lib.hid hbb
            clear hbb
            by_cases h127 : 127 ≤ x
            · go_wp2_with fail
              go_meet
              exact ⟨by rw [HBB.out, decide_eq_true h127]; rfl, rfl⟩
            · go_wp2_with fail
              go_meet
              exact ⟨by rw [HBB.out, decide_eq_false (show ¬ 127 ≤ x by omega)]; rfl, rfl⟩
        case rest =>
          obtain ⟨hb52, rfl⟩ := hcut
          cases hbx : badL x with
          | true =>
            rw [hbx] at hb52
            subst hb52
            clear hbx
            go_wp2_with fail
            go_ret
            exact ⟨rfl, tb HB1.out HBl.out⟩
          | false =>
            rw [hbx] at hb52
            subst hb52
            have HOKx := Lib.hid (badL_false x0 x1 hbx)
            clear hbx
            have ho2 := own_chg HO.out (Chg.alloc (S := fun _ => False) wr (.cells #[.int .u32 x] 35)) (fun _ _ h => h)
            have HO2 := Lib.hid ho2
            have hcell : (wr.alloc (.cells #[.int .u32 x] 35)).cell? ⟨wr.heap.size, 0, none⟩ = some (.int .u32 x) := by rw [cell_of (heap_alloc_new _ _)]; rfl
            have HCL := Lib.hid hcell
            have hws : w1.heap.size ≤ (wr.alloc (.cells #[.int .u32 x] 35)).heap.size := by have := HBl.out.size; simp; omega
            have HWS := Lib.hid hws
            clear ho2 hcell hws
            go_wp2_with (at_builtin; refine wpList_append_lies _ rfl (.tmp 53) (.tmp 56) 22 rfl w1.heap.size 35 i0 (.int .u32 0) 1 4 Try.underlying22 HN.out.2.2.2 HN.out.1 HN.out.2.1 HN.out.2.2.1 rfl (by decide) _ k (u32s ((byt s).take k)) rfl HO2.out ⟨wr.heap.size, 0, none⟩ 1 1 [.int .u32 x] rfl rfl ?c1 ?c2 (by decide) ?c3 ?c4 HWS.out _ rfl ?_; (case c1 => intro j u hu; match j, hu with | 0, hu => (simp at hu; subst hu; exact HCL.out)); (case c2 => intro u hu; simp at hu; subst hu; rfl); (case c3 => unfold maxLen; omega); (case c4 => omega); intro r c1 w3 hown1 hgrow1 hat1 hlt1; have HO1 := Lib.hid hown1; have HG1 := Lib.hid hgrow1; clear hown1 hgrow1 hat1 hlt1)
            go_roundw
            case rel =>
              refine ⟨k + 1, hlt, by go_num, ?_, ?_, ?_⟩
              · rw [HTK.out, u32s_append]
                exact HO1.out
              · refine Below.grown (HBl.out.alloc HBl.out.size _) HG1.out HWS.out (fun q hq => ?_)
                exact (HO2.out.lt q hq).1
              · rw [HTK.out]
                intro y hy
                rcases List.mem_append.1 hy with hy | hy
                · exact HOK.out y hy
                · rw [List.mem_singleton.1 hy]; exact HOKx.out
            case measure => simp [intOf]; omega
    · obtain rfl : k = s.size := by omega
      obtain ⟨A, c, rfl⟩ := owns_form HO.out
      have hfull : (byt s).take s.size = byt s := by rw [← byt_length, List.take_length]
      have hok := HOK.out
      have ho := HO.out
      rw [hfull] at hok ho
      have HOK2 := Lib.hid hok
      have HO2 := Lib.hid ho
      clear hfull hok ho hlt
      go_wp2_with fail
      refine (newEncoder_calls pl _).mono ?_
      rintro e w3 ⟨rfl, hd, hb3, hz3⟩
      obtain ⟨g, hg⟩ : ∃ g, g = wr.heap.size := ⟨_, rfl⟩
      rw [← hg] at hd
      rw [← hg]
      have hlen := byt_length s
      have hl3 : ∀ wx, Chg (EFS (g + 1) g) w3 wx → Lst wx .u32 A (byt s) := fun wx hcx => by
        have h1 : wx.ownsRow w1.heap.size 35 1 (.slice A s.size c) s.size (u32s (byt s)) := by
          refine own_chg (S := EFS (g + 1) g) ?_ hcx ?_
          · exact own_chg HO2.out (Chg.of_below (S := fun _ => False) hb3) (fun _ _ h => h)
          · intro q hq hh
            have h2 := (HO2.out.lt q hq).2
            rcases hh with h | h
            · omega
            · omega
        exact Lst.of_owns (n := s.size) (c := c) (by rw [byt_length]; exact h1)
      have hcap : s.size ≤ c := by
        rcases HO2.out.2 with ⟨h1, h2⟩ | ⟨g', cap, cur, h1, _, _, h4, _⟩
        · omega
        · injection h1 with _ _ h1; omega
      have hnil : A = none → c = 0 := fun h => by
        rcases HO2.out.2 with ⟨h1, h2⟩ | ⟨g', cap, cur, h1, _, _, h4, _⟩
        · injection h1 with _ _ h1
        · rw [h] at h1; cases h1
      have hwr := write_calls (pl := pl) (l := byt s) (A := A) (cap := c) hd (by rw [hlen]; omega) (by rw [hlen]; exact hcap) hnil hl3 (fun x hx => ⟨(HOK2.out x hx).1, by have := (HOK2.out x hx).2.1; unfold isB; simp; omega⟩)
      rw [hlen] at hwr
      have HWr := Lib.hid (show Calls Try.prog 11 #[.pointer (some ⟨g + 1, 0, none⟩), .slice A s.size c, .slice none 0 0, .slice none 0 0] w3 (fun e w' => e = .returned (.tuple #[.string s, .bool true]) ∧ Chg (EFS (g + 1) g) w3 w') from hwr.mono (fun e w' h => by
        obtain ⟨h1, h2⟩ := h
        rw [latin_text HOK2.out, str_byt] at h1
        exact ⟨h1, h2⟩))
      have HB3 := Lib.hid hb3
      have HGw := Lib.hid hg
      clear hd hb3 hg hz3 hlen hl3 hcap hnil hwr
      go_wp2_with fail
      refine HWr.out.mono ?_
      rintro e w4 ⟨rfl, hc4⟩
      have hb4 : Below w.heap.size w w4 := Chg.below (tb (tb HB1.out HBl.out) HB3.out) hc4 (by
        have := (tb HB1.out HBl.out).size
        have := HGw.out
        rintro i (h | h) <;> omega)
      have HB4 := Lib.hid hb4
      clear hc4 hb4
      go_wp2_with fail
      go_ret
      exact ⟨by simp, HB4.out⟩
set_option maxHeartbeats 4000000 in
theorem latin_big (pl : Bool) (s : ByteArray) (w : World) (hs : 400 < s.size) (hm : s.size ≤ 140737488351232) : Calls Try.prog 5 #[.bool pl, .string s] w (LawPost w) := by
  have hgr := great_calls (s.size : Int) none none 0 0 0 0
  have e1 : (decide (400 < (s.size : Int)) || (decide (200 < 0) || decide (200 < 0))) = true := by rw [Bool.eq_iff_iff]; simp; omega
  rw [e1] at hgr
  have HGR := Lib.hid hgr
  clear hgr e1
  go_enter Try.func5, Try.ntmps5
  go_wp2_with fail
  refine (awake_calls _).mono ?_
  rintro e w1 ⟨rfl, hb1⟩
  have HB1 := Lib.hid hb1
  clear hb1
  go_wp2_with fail
  refine (HGR.out _).mono ?_
  rintro e w2 ⟨rfl, rfl⟩
  go_wp2_with fail
  refine (awake_calls _).mono ?_
  rintro e w3 ⟨rfl, hb3⟩
  have HB3 := Lib.hid hb3
  clear hb3
  go_wp2_with fail
  go_ret
  exact ⟨rfl, tb HB1.out HB3.out⟩
theorem compressLatin_row (pl : Bool) (s : ByteArray) (w : World) (hm : s.size ≤ 140737488351232) : Calls Try.prog 5 #[.bool pl, .string s] w fun e w' => e = .returned (.bool true) ∧ Below w.heap.size w w' := by
  by_cases h : s.size ≤ 400
  · exact latin_small pl s w h
  · exact latin_big pl s w (by omega) hm
end Go.Proofs.Ytkfiahildoljfaa.Enc
