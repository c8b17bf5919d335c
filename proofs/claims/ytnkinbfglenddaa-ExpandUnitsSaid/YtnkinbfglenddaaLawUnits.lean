/- ExpandUnits: big UTF-16 behind 0F. -/
import Derived.Test.YtnkinbfglenddaaUtf
namespace Go.Proofs.Ytnkinbfglenddaa.Dec
open Go.RowKit Go.Proofs.Ytnkinbfglenddaa.Win Go.Proofs.Ytnkinbfglenddaa.Stp Go.Proofs.Ytnkinbfglenddaa.Mach Go.Proofs.Ytnkinbfglenddaa.Lst
set_option linter.unusedVariables false
set_option linter.unusedSimpArgs false
theorem big_append (a b : List Int) : big (a ++ b) = big a ++ big b := by simp [big]
theorem big_bytesB (l : List Int) : bytesB l = big (l.flatMap units) := by
  induction l with
  | nil => rfl
  | cons c l ih =>
    have : bytesB (c :: l) = big (units c) ++ bytesB l := rfl
    rw [this, ih, List.flatMap_cons, big_append]
theorem big_at {us : List Int} {k : Nat} (hk : k < us.length) : ((big us).drop (2 * k)).take 2 = [us.getD k 0 / 256, us.getD k 0 % 256] := by
  have e1 : big us = big (us.take k) ++ big (us.drop k) := by rw [← big_append, List.take_append_drop]
  have e2 : (big (us.take k)).length = 2 * k := by rw [big_len, List.length_take]; omega
  rw [e1, ← e2, List.drop_left]
  rw [drop_cons hk]
  rfl
theorem big_get {us : List Int} {k : Nat} (hk : k < us.length) : (big us).getD (2 * k) 0 = us.getD k 0 / 256 := by
  have h := big_at hk
  have h2 : (((big us).drop (2 * k)).take 2).getD 0 0 = us.getD k 0 / 256 := by rw [h]; rfl
  rw [← h2, List.getD_eq_getElem?_getD, List.getD_eq_getElem?_getD, List.getElem?_take_of_lt (by decide), List.getElem?_drop]
  rfl
theorem byt_app (a b : ByteArray) : byt (a ++ b) = byt a ++ byt b := by
  unfold byt
  rw [ByteArray.data_append, Array.toList_append, List.map_append]
def UtfRel (w : World) (us : List Int) (v4 v5 i : Value) (wr : World) : Prop :=
  ∃ (k : Nat) (P Q : ByteArray), k ≤ us.length ∧ i = .int .i64 (2 * (k : Int)) ∧ v4 = .string P ∧ v5 = .string Q ∧ byt P = 15 :: (us.take k).flatMap enc1 ∧ byt Q = 15 :: (us.take k).flatMap enc2 ∧ w = wr
theorem enc1_len (u : Int) : (enc1 u).length ≤ 3 := by unfold enc1; split <;> simp
theorem flat_len {f : Int → List Int} (h : ∀ u, (f u).length ≤ 3) (l : List Int) : (l.flatMap f).length ≤ 3 * l.length := by
  induction l with
  | nil => simp
  | cons c l ih =>
    have := h c
    rw [List.flatMap_cons, List.length_append, List.length_cons]
    omega
set_option maxRecDepth 100000 in
set_option maxHeartbeats 8000000 in
theorem units_small {w : World} {A : Option Addr} {c : Nat} {l : List Int} (h : Lst w .u32 A l) (hl : l.length ≤ 400) (hr : ∀ x ∈ l, 0 ≤ x) : Calls Try.prog 4 #[.slice A l.length c] w (LawPost w) := by
  have hgr := great_calls (l.length : Int) none none 0 0 0 0
  have e1 : (decide (400 < (l.length : Int)) || (decide (200 < 0) || decide (200 < 0))) = false := by rw [Bool.eq_iff_iff]; simp; omega
  rw [e1] at hgr
  have HGR := Lib.hid hgr
  have H := Lib.hid h
  have HR := Lib.hid hr
  clear hgr e1 h hr
  go_enter Try.func4, Try.ntmps4
  go_wp2_with fail
  refine (awake_calls _).mono ?_
  rintro e w1 ⟨rfl, hb1⟩
  have HB1 := Lib.hid hb1
  have HL1 := Lib.hid (H.out.below (hb1))
  clear hb1
  go_wp2_with fail
  refine (HGR.out _).mono ?_
  rintro e w2 ⟨rfl, rfl⟩
  go_wp2_with fail
  refine (rfirst_calls HL1.out (by omega)).mono ?_
  rintro e w2 ⟨r, rfl, hrr, hdr⟩
  have HB2 := Lib.hid (hdr.below w.heap.size)
  have HL2 := Lib.hid (HL1.out.drew hdr)
  clear hdr
  rcases hrr with ⟨rfl, hall⟩ | hr0
  · have HAL := Lib.hid (show ∀ x ∈ l, 0 ≤ x ∧ isS x = true from fun x hx => ⟨HR.out x hx, hall x hx⟩)
    clear hall
    have hby := rbytes_calls (c := c) HL2.out (by omega) (fun x hx => ⟨HR.out x hx, (isS_iff.1 (HAL.out x hx).2).2⟩)
    have HBY := Lib.hid hby
    clear hby
    go_wp2_with fail
    refine HBY.out.mono ?_
    rintro e w3 ⟨s, rfl, hs, hb3⟩
    obtain ⟨us, hus⟩ : ∃ us, us = l.flatMap units := ⟨_, rfl⟩
    rw [big_bytesB, ← hus] at hs
    have hsz : s.size = 2 * us.length := by rw [← byt_length, hs, big_len]
    have hul : us.length ≤ 800 := by
      have h1 := bytesB_len l
      rw [big_bytesB, ← hus, big_len] at h1
      omega
    have HB3 := Lib.hid hb3
    have HUS := Lib.hid hus
    have HS := Lib.hid hs
    have HSZ := Lib.hid hsz
    have hsz2 : s.size ≤ 1600 := by omega
    clear hb3 hus hs hsz
    go_wp2_with fail
    go_loopw [4, 5, 6] (fun v4 v5 i wr => UtfRel w3 us v4 v5 i wr) (fun _ _ i _ => 1700 - (intOf i).toNat)
    case atStart => exact ⟨0, _, _, Nat.zero_le _, rfl, rfl, rfl, rfl, rfl, rfl⟩
    case round =>
      obtain ⟨k, P, Q, hk, rfl, rfl, rfl, hp, hq, rfl⟩ := hrel
      have hps : P.size ≤ 2401 := by
        have h1 := flat_len enc1_len (us.take k)
        rw [← byt_length, hp, List.length_cons]
        rw [List.length_take] at h1
        omega
      have hqs : Q.size ≤ 2401 := by
        have h1 := flat_len (f := enc2) (fun _ => Nat.le_refl 3) (us.take k)
        rw [← byt_length, hq, List.length_cons]
        rw [List.length_take] at h1
        omega
      have HP := Lib.hid hp
      have HQ := Lib.hid hq
      clear hp hq
      by_cases hlt : k < us.length
      · have hx := byt_at s (2 * k) (by rw [HSZ.out]; omega)
        rw [HS.out, big_get hlt] at hx
        have hcut := byt_extract s (2 * k) (2 * k + 2)
        have e2 : 2 * k + 2 - 2 * k = 2 := by omega
        rw [HS.out, e2, big_at hlt] at hcut
        have htk := take_succ' hlt
        obtain ⟨u, hu⟩ : ∃ u, u = us.getD k 0 := ⟨_, rfl⟩
        rw [← hu] at hx hcut htk
        have hk2 : 2 * k + 1 < s.size := by rw [HSZ.out]; omega
        obtain ⟨x, hxx⟩ : ∃ x, x = u / 256 := ⟨_, rfl⟩
        rw [← hxx] at hx
        have hx' := hx.symm
        have hsl : ∀ w : World, (Instr.slice 9 (.string s) (some (.int .i64 (2 * (k : Int)))) (some (.int .i64 (2 * (k : Int) + 2))) none).run Try.prog w = .ok (.string (s.extract (2 * k) (2 * k + 2))) w := fun w => by
          rw [run_slice_string w 9 s .i64 .i64 (2 * (k : Int)) (2 * (k : Int) + 2) Try.underlying9 (by omega) (by omega) (by omega)]
          have f1 : (2 * (k : Int)).toNat = 2 * k := by omega
          have f2 : (2 * (k : Int) + 2).toNat = 2 * k + 2 := by omega
          rw [f1, f2]
        have HT := Lib.hid htk
        have HC := Lib.hid hcut
        have HXX := Lib.hid hxx
        have HQ2 := Lib.hid (show byt (Q ++ ((⟨#[240]⟩ : ByteArray) ++ s.extract (2 * k) (2 * k + 2))) = 15 :: (us.take (k + 1)).flatMap enc2 by
          rw [byt_app, byt_app, HQ.out, hcut, htk, List.flatMap_append]
          rfl)
        have HP2 := Lib.hid (fun (h : 224 ≤ x ∧ x ≤ 242) => show byt ((P ++ (⟨#[240]⟩ : ByteArray)) ++ s.extract (2 * k) (2 * k + 2)) = 15 :: (us.take (k + 1)).flatMap enc1 by
          rw [byt_app, byt_app, HP.out, hcut, htk, List.flatMap_append]
          rw [hxx] at h
          have e : enc1 u = 240 :: [u / 256, u % 256] := by unfold enc1; rw [if_pos h]; rfl
          simp only [List.flatMap_cons, List.flatMap_nil, e, List.append_assoc, List.cons_append]
          rfl)
        have HP3 := Lib.hid (fun (h : ¬ (224 ≤ x ∧ x ≤ 242)) => show byt (P ++ s.extract (2 * k) (2 * k + 2)) = 15 :: (us.take (k + 1)).flatMap enc1 by
          rw [byt_app, HP.out, hcut, htk, List.flatMap_append]
          rw [hxx] at h
          have e : enc1 u = [u / 256, u % 256] := by unfold enc1; rw [if_neg h]; rfl
          simp only [List.flatMap_cons, List.flatMap_nil, e, List.append_assoc, List.cons_append, List.append_nil])
        clear hx htk hcut hu hxx e2
        by_cases c1 : 224 ≤ x
        · by_cases c2 : x ≤ 242
          · go_wp2_with fail
            go_roundw
            case rel => exact ⟨k + 1, _, _, hlt, by go_num, rfl, rfl, HP2.out ⟨c1, c2⟩, HQ2.out, rfl⟩
            case measure => simp [intOf]; omega
          · go_wp2_with fail
            go_roundw
            case rel => exact ⟨k + 1, _, _, hlt, by go_num, rfl, rfl, HP3.out (fun h => by omega), HQ2.out, rfl⟩
            case measure => simp [intOf]; omega
        · go_wp2_with fail
          go_roundw
          case rel => exact ⟨k + 1, _, _, hlt, by go_num, rfl, rfl, HP3.out (fun h => by omega), HQ2.out, rfl⟩
          case measure => simp [intOf]; omega
      · obtain rfl : k = us.length := by omega
        have hp := HP.out
        have hq := HQ.out
        rw [List.take_length, HUS.out] at hp hq
        obtain ⟨_, hs1⟩ := behind_0f writes1 HAL.out
        obtain ⟨_, hs2⟩ := behind_0f writes2 HAL.out
        rw [← hp] at hs1
        rw [← hq] at hs2
        have HS1 := Lib.hid hs1
        have HS2 := Lib.hid hs2
        clear hp hq hs1 hs2 hlt
        have hk2 : s.size ≤ 2 * us.length := by rw [HSZ.out]; omega
        have HLw := Lib.hid (HL2.out.below HB3.out)
        have HBw := Lib.hid (tb (HB1.out.trans HB2.out) HB3.out)
        go_wp2_with fail
        refine (newDecoder_calls _).mono ?_
        rintro e w6 ⟨rfl, hd, hb, hz⟩
        obtain ⟨g1, hg1⟩ : ∃ g, g = w3.heap.size := ⟨_, rfl⟩
        rw [← hg1] at hd
        rw [← hg1]
        have hrd := read_calls (parts := []) (rooms := []) (AP := none) (AR := none) (cP := 0) (cR := 0) P hd (fun _ _ => Lst.nil _ _ _) (fun _ _ => Lst.nil _ _ _) (by decide) (by decide) (by omega)
        have HD := Lib.hid hd
        have HB6 := Lib.hid hb
        have HG := Lib.hid hg1
        have HRD := Lib.hid hrd
        clear hd hb hg1 hz hrd
        go_wp2_with fail
        refine HRD.out.mono ?_
        rintro e w7 ⟨A1, c1, o1, b1, n1, rfl, hd1, hc1, ho1, hlen1, hran1⟩
        obtain rfl := ran_all HS1.out hran1
        have hb7 : Below w3.heap.size w3 w7 := Chg.below HB6.out hc1 (by
          have := HG.out
          rintro i (h | h | h)
          · omega
          · omega
          · cases h)
        have HB7 := Lib.hid hb7
        have HO1 := Lib.hid ho1
        clear hd1 hc1 ho1 hlen1 hran1 hb7
        go_wp2_with fail
        refine (newDecoder_calls _).mono ?_
        rintro e w8 ⟨rfl, hd, hb, hz⟩
        obtain ⟨g2, hg2⟩ : ∃ g, g = w7.heap.size := ⟨_, rfl⟩
        rw [← hg2] at hd
        rw [← hg2]
        have hrd := read_calls (parts := []) (rooms := []) (AP := none) (AR := none) (cP := 0) (cR := 0) Q hd (fun _ _ => Lst.nil _ _ _) (fun _ _ => Lst.nil _ _ _) (by decide) (by decide) (by omega)
        have HD2 := Lib.hid hd
        have HB8 := Lib.hid hb
        have HG2 := Lib.hid hg2
        have HRD2 := Lib.hid hrd
        clear hd hb hg2 hz hrd
        go_wp2_with fail
        refine HRD2.out.mono ?_
        rintro e w9 ⟨A2, c2, o2, b2, n2, rfl, hd2, hc2, ho2, hlen2, hran2⟩
        obtain rfl := ran_all HS2.out hran2
        have hb9 : Below w7.heap.size w7 w9 := Chg.below HB8.out hc2 (by
          have := HG2.out
          rintro i (h | h | h)
          · omega
          · omega
          · cases h)
        have hl0 := (HLw.out.below HB7.out).below hb9
        have hl1 := (Lst.of_owns HO1.out).below hb9
        have hl2 := Lst.of_owns ho2
        have hm1 := same_calls (c := c1) (d := c) hl1 hl0 (by omega) (by omega)
        rw [decide_eq_true rfl] at hm1
        have HL0 := Lib.hid hl0
        have HL2' := Lib.hid hl2
        have HM1 := Lib.hid hm1
        have HB9 := Lib.hid (tb (tb HBw.out HB7.out) hb9)
        clear hd2 hc2 ho2 hlen2 hran2 hb9 hl0 hl1 hl2 hm1
        go_wp2_with fail
        refine HM1.out.mono ?_
        rintro e w10 ⟨rfl, hdr⟩
        have hm2 := same_calls (c := c2) (d := c) (HL2'.out.drew hdr) (HL0.out.drew hdr) (by omega) (by omega)
        rw [decide_eq_true rfl] at hm2
        have HM2 := Lib.hid hm2
        have HB10 := Lib.hid (HB9.out.trans (hdr.below _))
        clear hdr hm2
        go_wp2_with fail
        refine HM2.out.mono ?_
        rintro e w11 ⟨rfl, hdr⟩
        have HB11 := Lib.hid (HB10.out.trans (hdr.below _))
        clear hdr
        go_wp2_with fail
        go_ret
        exact ⟨rfl, HB11.out⟩
  · have hr1 : decide (0 ≤ r) = true := by simp [hr0]
    go_wp2_with fail
    refine (awake_calls _).mono ?_
    rintro e w3 ⟨rfl, hb3⟩
    have HB3 := Lib.hid hb3
    clear hb3
    go_wp2_with fail
    go_ret
    exact ⟨rfl, tb (HB1.out.trans HB2.out) HB3.out⟩
set_option maxHeartbeats 4000000 in
theorem units_big {w : World} {A : Option Addr} {c : Nat} {l : List Int} (hl : 400 < l.length) (hm : l.length ≤ maxLen) : Calls Try.prog 4 #[.slice A l.length c] w (LawPost w) := by
  have hgr := great_calls (l.length : Int) none none 0 0 0 0
  have e1 : (decide (400 < (l.length : Int)) || (decide (200 < 0) || decide (200 < 0))) = true := by rw [Bool.eq_iff_iff]; simp; omega
  rw [e1] at hgr
  unfold maxLen at hm
  have HGR := Lib.hid hgr
  clear hgr e1
  go_enter Try.func4, Try.ntmps4
  go_wp2_with fail
  refine (awake_calls _).mono ?_
  rintro e w1 ⟨rfl, hb1⟩
  have HB1 := Lib.hid hb1
  clear hb1
  go_wp2_with fail
  refine (HGR.out _).mono ?_
  rintro e w2 ⟨rfl, rfl⟩
  go_wp2_with fail
  refine (awake_calls _).mono ?_
  rintro e w3 ⟨rfl, hb3⟩
  have HB3 := Lib.hid hb3
  clear hb3
  go_wp2_with fail
  go_ret
  exact ⟨rfl, tb HB1.out HB3.out⟩
open Go.Proofs.YtnkinbfglenddaaW.PrintWords in
theorem lst_arg {w : World} {k : IntKind} {A : Option Addr} {n : Nat} {l : List Int} (h : (Kd.int k).C w A n l) : Lst w k A l := fun j hj => by
  obtain ⟨h1, h2, h3⟩ := h
  obtain ⟨ad, rfl, hc⟩ := h3 (by omega)
  obtain ⟨c, hl, hK, hcell⟩ := hc j _ (List.getElem?_eq_getElem hj)
  refine ⟨ad, rfl, ?_⟩
  have hs : (Kd.int k).sz = 1 := rfl
  rw [hs] at hcell
  have hc1 : c = [.int k l[j]] := hK
  subst hc1
  have := hcell 0 _ rfl
  rw [Nat.mul_one, Nat.add_zero] at this
  rw [this, List.getD_eq_getElem?_getD, List.getElem?_eq_getElem hj]
  rfl
open Go.Proofs.YtnkinbfglenddaaW.PrintWords in
theorem expandUnits_row (A : Option Addr) (c : Nat) (l : List Int) (w : World) (hr : (Kd.int .u32).C w A l.length l) (hc : l.length ≤ c) (hm : l.length ≤ maxLen) (hg : ∀ x ∈ l, (Lit.int .u32 x).wf = true) :
    Calls Try.prog 4 #[.slice A l.length c] w fun e w' => e = .returned (.bool true) ∧ Below w.heap.size w w' := by
  by_cases h : l.length ≤ 400
  · refine units_small (lst_arg hr) h (fun x hx => ?_)
    have := hg x hx
    simp [Lit.wf, IntKind.min, IntKind.max, IntKind.signed, IntKind.bits] at this
    omega
  · exact units_big (by omega) hm
end Go.Proofs.Ytnkinbfglenddaa.Dec
