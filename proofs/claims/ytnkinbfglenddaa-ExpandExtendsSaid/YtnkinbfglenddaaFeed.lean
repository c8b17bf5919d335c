/- The expander: made, fed, ended. -/
import Derived.Test.YtnkinbfglenddaaDec5
import Derived.Deep.CutBlock
import Derived.Deep.DeepCutAuto
namespace Go.Proofs.Ytnkinbfglenddaa.Dec
open Go.RowKit Go.Proofs.Ytnkinbfglenddaa.Win Go.Proofs.Ytnkinbfglenddaa.Stp Go.Proofs.Ytnkinbfglenddaa.Mach
set_option linter.unusedVariables false
set_option linter.unusedSimpArgs false
abbrev nilS : Value := .slice none 0 0
def b40 : B4 := { at_ := 0, err := 0, pl := 0, fin := false }
def m0 : M := { o := firsts, uni := false, act := 0, beg := 0, n := 0, first := 0, upper := 0 }
theorem good0 : Mach.Good m0 := ⟨rfl, by unfold m0; decide +kernel, by decide, by decide, by decide, .inl rfl, by decide⟩
theorem newDecoder_calls (w : World) : Calls Try.prog 12 #[] w fun e w' => e = .returned (.pointer (some ⟨w.heap.size + 1, 0, none⟩)) ∧ DecAt w' (w.heap.size + 1) w.heap.size 0 nilS b40 [] m0 ∧ Below w.heap.size w w' ∧ w'.heap.size = w.heap.size + 2 := by
  have hn : Calls Try.prog 25 #[] w fun e w' => e = .returned (.pointer (some ⟨w.heap.size, 0, none⟩)) ∧ w' = w.alloc (.cells (winCells firsts used0).toArray 81) := by
    go_enter Try.func25, Try.ntmps25
    go_wp2
    go_ret
    exact ⟨rfl, rfl⟩
  go_enter Try.func12, Try.ntmps12
  go_wp2_with (go_at_call 25; refine hn.mono ?_; rintro e w1 ⟨rfl, rfl⟩)
  go_ret
  have e1 : (w.alloc (.cells (winCells firsts used0).toArray 81)).heap.size = w.heap.size + 1 := by simp
  refine ⟨rfl, ⟨?_, ⟨?_, rfl, rfl⟩, World.ownsRow_nil _ _ _ _, fun _ => rfl, Nat.zero_le _⟩, ((Below.refl _ _).alloc (Nat.le_refl _) _).alloc (by simp) _, by simp⟩
  · rw [← e1]; exact heap_alloc_new _ _
  · rw [Below.heap_alloc _ _ _ (by simp)]; exact heap_alloc_new _ _
/-- Bytes, one by one. -/
def steps (m : M) : List Int → Option (M × List Int)
  | [] => some (m, [])
  | x :: xs => match Mach.step m x with
    | none => none
    | some (m1, e) => match steps m1 xs with
      | none => none
      | some (m2, e2) => some (m2, e ++ e2)
theorem steps_snoc {m m1 m2 : M} {e e2 : List Int} {x : Int} : ∀ {xs : List Int}, steps m xs = some (m1, e) → Mach.step m1 x = some (m2, e2) → steps m (xs ++ [x]) = some (m2, e ++ e2) := by
  intro xs
  induction xs generalizing m e with
  | nil =>
    intro h h2
    simp [steps] at h
    obtain ⟨rfl, rfl⟩ := h
    simp [steps, h2]
  | cons y ys ih =>
    intro h h2
    simp only [steps, List.cons_append] at h ⊢
    cases hy : Mach.step m y with
    | none => rw [hy] at h; cases h
    | some r =>
      obtain ⟨m3, e3⟩ := r
      rw [hy] at h
      simp only at h ⊢
      cases hs : steps m3 ys with
      | none => rw [hs] at h; cases h
      | some r =>
        obtain ⟨m4, e4⟩ := r
        rw [hs] at h
        simp only [Option.some.injEq, Prod.mk.injEq] at h
        obtain ⟨rfl, rfl⟩ := h
        rw [ih hs h2]
        simp
theorem step_one {m m' : M} {x : Int} {e : List Int} (h : Mach.step m x = some (m', e)) : e.length ≤ 1 := by
  unfold Mach.step at h
  split at h
  · unfold more whole at h
    repeat' split at h
    all_goals first
      | (cases h; done)
      | (simp only [Option.some.injEq, Prod.mk.injEq] at h; rw [← h.2]; simp)
  · split at h
    · unfold double at h
      repeat' split at h
      all_goals first
        | (cases h; done)
        | (simp only [Option.some.injEq, Prod.mk.injEq] at h; rw [← h.2]; simp)
    · unfold single at h
      repeat' split at h
      all_goals first
        | (cases h; done)
        | (simp only [Option.some.injEq, Prod.mk.injEq] at h; rw [← h.2]; simp)
def byt (s : ByteArray) : List Int := s.data.toList.map fun x => (x.toNat : Int)
theorem byt_length (s : ByteArray) : (byt s).length = s.size := by unfold byt; rw [List.length_map, Array.length_toList]; rfl
theorem byt_at (s : ByteArray) (k : Nat) (h : k < s.size) : (byt s).getD k 0 = (s[k].toNat : Int) := by
  unfold byt
  rw [List.getD_eq_getElem?_getD, List.getElem?_map, List.getElem?_eq_getElem (by rw [Array.length_toList]; exact h)]
  rfl
theorem byt_take (s : ByteArray) (k : Nat) (h : k < s.size) : (byt s).take (k + 1) = (byt s).take k ++ [(s[k].toNat : Int)] := by
  rw [List.take_succ_eq_append_getElem (by rw [byt_length]; exact h)]
  have := byt_at s k h
  rw [List.getD_eq_getElem?_getD, List.getElem?_eq_getElem (by rw [byt_length]; exact h)] at this
  rw [← this]; rfl
/-- What a feeding has done: so many bytes were eaten, so many scalars came out, and why it has stopped. -/
structure Fed (b : B4) (m : M) (l : List Int) (room : Int) (k : Nat) (out : List Int) (b' : B4) (m' : M) : Prop where
  le : k ≤ l.length
  fits : (out.length : Int) ≤ room ∨ out = []
  go : k ≠ 0 → b.going = true
  way : (∃ m1, steps m (l.take k) = some (m1, out) ∧ b.going = true ∧ k < l.length ∧ (out.length : Int) < room ∧ Mach.step m1 (l.getD k 0) = none ∧ b' = { b with at_ := b.at_ + k, err := 3, pl := b.at_ + k }) ∨
    (steps m (l.take k) = some (m', out) ∧ Mach.Good m' ∧ b' = { b with at_ := b.at_ + k } ∧ (k = l.length ∨ room ≤ (out.length : Int) ∨ b.going = false))
theorem DecAt.told {w w1 : World} {g gw rb : Nat} {v : Value} {b : B4} {l : List Int} {m : M} (h : DecAt w g gw rb v b l m) (hb : Below w.heap.size w w1) (v1 : Value) : DecAt ((w1.setCell ⟨g, 4, none⟩ v1).setCell ⟨g, 4, none⟩ nilS) g gw 0 nilS b [] m := by
  have hgb : w1.heap[g]? = some (.cells (decCells b v gw m) 50 (0, 0)) := (hb.block g h.lt).trans h.blk
  refine ⟨?_, ?_, World.ownsRow_nil _ _ _ _, fun _ => rfl, Nat.zero_le _⟩
  · have h1 := heap_setCell_same w1 g 4 _ _ v1 hgb
    rw [heap_setCell_same _ g 4 _ _ nilS h1]; rfl
  · exact ((h.win.keep (hb.block gw h.win.lt)).keep (Below.heap_setCell w1 _ _ gw h.ne_gw)).keep (Below.heap_setCell _ _ _ gw h.ne_gw)
/-- An idle machine's row lies from wherever on. -/
theorem DecAt.rebase {w : World} {g gw rb : Nat} {b : B4} {m : M} (h : DecAt w g gw rb nilS b [] m) (rb' : Nat) (hr : rb' ≤ w.heap.size) : DecAt w g gw rb' nilS b [] m := ⟨h.blk, h.win, World.ownsRow_nil _ _ _ _, fun _ => rfl, hr⟩
theorem own_weaken {w : World} {base base' : Nat} {e : TypeId} {size n : Nat} {v : Value} {xs : List Value} (h : w.ownsRow base e size v n xs) (hb : base' ≤ base) : w.ownsRow base' e size v n xs := by
  refine ⟨h.1, ?_⟩
  rcases h.2 with h2 | ⟨g', cap, cur, hv, hg, r⟩
  · exact .inl h2
  · exact .inr ⟨g', cap, cur, hv, Nat.le_trans hb hg, r⟩
theorem fs_new {w w0 : World} {g gw : Nat} {v : Value} {n : Nat} {xs : List Value} {e : TypeId} {size : Nat} (h : w.ownsRow w0.heap.size e size v n xs) {i : Nat} (hi : i < w0.heap.size) (hh : FS g gw v i) : FS g gw nilS i := by
  rcases hh with hh | hh | hh
  · exact .inl hh
  · exact .inr (.inl hh)
  · have := (h.lt i hh).1; omega
def FedMid (w : World) (g gw : Nat) (b : B4) (m : M) (s : ByteArray) (room : Int) (i : Value) (wx : World) : Prop :=
  ∃ (k : Nat) (v : Value) (out : List Int) (b' : B4) (m' : M), i = .int .i64 k ∧ DecAt wx g gw w.heap.size v b' out m' ∧ Chg (FS g gw nilS) w wx ∧ out.length ≤ 100000 ∧ Fed b m (byt s) room k out b' m'
def FeedRel (w : World) (g gw : Nat) (b : B4) (m : M) (s : ByteArray) (room : Int) (i : Value) (wx : World) : Prop :=
  ∃ (k : Nat) (v : Value) (out : List Int) (m' : M), k ≤ s.size ∧ i = .int .i64 k ∧ DecAt wx g gw w.heap.size v { b with at_ := b.at_ + k } out m' ∧ Mach.Good m' ∧ Chg (FS g gw nilS) w wx ∧ steps m ((byt s).take k) = some (m', out) ∧ ((out.length : Int) ≤ room ∨ out = []) ∧ out.length ≤ k ∧ (k ≠ 0 → b.going = true)
def FeedPost (w : World) (g gw : Nat) (b : B4) (m : M) (s : ByteArray) (room : Int) (e : Ending) (w' : World) : Prop :=
  ∃ (k : Nat) (A : Option Addr) (c : Nat) (out : List Int) (b' : B4) (m' : M), e = .returned (.tuple #[.int .i64 k, .slice A out.length c]) ∧ DecAt w' g gw 0 nilS b' [] m' ∧ Chg (FS g gw nilS) w w' ∧ w'.ownsRow w.heap.size 25 1 (.slice A out.length c) out.length (u32s out) ∧ Fed b m (byt s) room k out b' m'
set_option maxRecDepth 100000 in
set_option maxHeartbeats 4000000 in
theorem feed_calls {w : World} {g gw : Nat} {b : B4} {m : M} (s : ByteArray) (room : Int) (h : DecAt w g gw 0 nilS b [] m) (hG : Mach.Good m) (hs : s.size ≤ 100000) (hb0 : 0 ≤ b.at_) (hb1 : b.at_ ≤ 1000000) :
    Calls Try.prog 22 #[.pointer (some ⟨g, 0, none⟩), .string s, .int .i64 room] w (FeedPost w g gw b m s room) := by
  have H := Lib.hid h
  have HGd := Lib.hid hG
  clear h hG
  go_enter Try.func22, Try.ntmps22
  go_upto_block 0 with fail
  go_cut [8] (fun i wx => FedMid w g gw b m s room i wx)
  case first =>
    go_wp2_with fail
    go_loopw [8] (fun i wr => FeedRel w g gw b m s room i wr) (fun i _ => s.size - (intOf i).toNat)
    case atStart =>
      exact ⟨0, nilS, [], m, Nat.zero_le _, rfl, (by have := H.out.rebase w.heap.size (Nat.le_refl _); simpa using this), HGd.out, Chg.refl _, rfl, .inr rfl, Nat.zero_le _, fun h => absurd rfl h⟩
    case round =>
      obtain ⟨k, v, out, m', hk, rfl, hd, hg, hc, hst, hroom, hol, hgo⟩ := hrel
      have HD := Lib.hid hd
      have HG' := Lib.hid hg
      have HC := Lib.hid hc
      have HST := Lib.hid hst
      have HRm := Lib.hid hroom
      have HGo := Lib.hid hgo
      obtain ⟨A, c0, hv⟩ : ∃ A c, v = .slice A out.length c := by
        rcases hd.row.2 with ⟨h1, h2⟩ | ⟨g', cap, cur, h1, _⟩
        · exact ⟨none, 0, by rw [h1, h2]⟩
        · exact ⟨_, _, h1⟩
      have h4 := hd.c4
      rw [hv] at h4
      have HV := Lib.hid hv
      have hheld := held_calls g 4 A out.length c0 wr h4
      have HH := Lib.hid hheld
      have hgoing := going_calls g _ wr hd.base
      have hge : (({ b with at_ := b.at_ + k } : B4)).going = b.going := rfl
      rw [hge] at hgoing
      clear hd hg hc hst hroom hgo hv h4 hheld hge
      by_cases hlt : k < s.size
      · by_cases hrm : (out.length : Int) < room
        · cases hbg : b.going with
          | true =>
            rw [hbg] at hgoing
            have HGg := Lib.hid hgoing
            have HBG := Lib.hid hbg
            have hnext := next_calls (s[k].toNat : Int) HD.out HG'.out (by omega) (by have := s[k].toNat_lt; omega) (by omega)
            have HN := Lib.hid hnext
            clear hgoing hbg hnext
            go_wp2_with fail
            refine HH.out.mono ?_
            rintro e w1 ⟨rfl, rfl⟩
            go_wp2_with fail
            refine HGg.out.mono ?_
            rintro e w1 ⟨rfl, rfl⟩
            go_wp2_with fail
            refine HN.out.mono ?_
            intro e w2 hp
            cases hm : Mach.step m' (s[k].toNat : Int) with
            | none =>
              rw [hm] at hp
              obtain ⟨rfl, m2, hd2, hc2⟩ := hp
              have HM := Lib.hid hm
              have hstop := stop_calls g _ 3 w2 hd2.base (show (({ b with at_ := b.at_ + k } : B4)).going = true from HBG.out) (by decide)
              have HSt := Lib.hid hstop
              have HD2 := Lib.hid hd2
              have HC2 := Lib.hid hc2
              clear hm hstop hd2 hc2
              go_wp2_with fail
              refine HSt.out.mono ?_
              rintro e w3 ⟨rfl, rfl⟩
              go_wp2_with fail
              go_meet
              refine ⟨k, v, out, { b with at_ := b.at_ + k, err := 3, pl := b.at_ + k }, m2, rfl, ?_, ?_, by omega, ?_⟩
              · exact (HD2.out.set 1 (.int .i64 3) (b' := { b with at_ := b.at_ + k, err := 3 }) (m' := m2) rfl rfl).set 2 (.int .i64 (b.at_ + k)) rfl rfl
              · exact chg_then HC.out ((HC2.out.trans (chg_g 1 _)).trans (chg_g 2 _)) (fun i hi hh => fs_new HD.out.row hi hh)
              · refine ⟨by rw [byt_length]; exact hk, HRm.out, fun h => HBG.out, .inl ⟨m', HST.out, HBG.out, by rw [byt_length]; exact hlt, hrm, ?_, rfl⟩⟩
                rw [byt_at s k hlt]
                exact HM.out
            | some r =>
              obtain ⟨m2, em⟩ := r
              rw [hm] at hp
              obtain ⟨rfl, v2, hd2, hc2⟩ := hp
              have HM := Lib.hid hm
              have heat := eat_calls g _ 1 w2 hd2.base (show (({ b with at_ := b.at_ + k } : B4)).going = true from HBG.out) (by decide) (by decide) (show 0 ≤ b.at_ + k by omega) (show b.at_ + k ≤ 1000000000 by omega)
              have HEt := Lib.hid heat
              have HD2 := Lib.hid hd2
              have HC2 := Lib.hid hc2
              clear hm heat hd2 hc2
              go_wp2_with fail
              refine HEt.out.mono ?_
              rintro e w3 ⟨rfl, rfl⟩
              go_wp2_with fail
              go_roundw
              case rel =>
                have h1 := step_one HM.out
                refine ⟨k + 1, v2, out ++ em, m2, by omega, by go_num, ?_, good_step HG'.out (by omega) (by have := s[k].toNat_lt; omega) HM.out, ?_, ?_, ?_, ?_, fun _ => HBG.out⟩
                · have := HD2.out.set 0 (.int .i64 (b.at_ + k + 1)) (b' := { b with at_ := b.at_ + k + 1 }) (m' := m2) rfl rfl
                  have e2 : b.at_ + ((k + 1 : Nat) : Int) = b.at_ + k + 1 := by omega
                  rw [e2]
                  exact this
                · exact chg_then HC.out (HC2.out.trans (chg_g 0 _)) (fun i hi hh => fs_new HD.out.row hi hh)
                · rw [byt_take s k hlt]
                  exact steps_snoc HST.out HM.out
                · left
                  rw [List.length_append]
                  omega
                · rw [List.length_append]; omega
              case measure => simp [intOf]; omega
          | false =>
            rw [hbg] at hgoing
            have HGg := Lib.hid hgoing
            have HBG := Lib.hid hbg
            clear hgoing hbg
            go_wp2_with fail
            refine HH.out.mono ?_
            rintro e w1 ⟨rfl, rfl⟩
            go_wp2_with fail
            refine HGg.out.mono ?_
            rintro e w1 ⟨rfl, rfl⟩
            go_wp2_with fail
            go_meet
            exact ⟨k, v, out, _, m', rfl, HD.out, HC.out, by omega, by rw [byt_length]; exact hk, HRm.out, HGo.out, .inr ⟨HST.out, HG'.out, rfl, .inr (.inr HBG.out)⟩⟩
        · clear hgoing
          go_wp2_with fail
          refine HH.out.mono ?_
          rintro e w1 ⟨rfl, rfl⟩
          go_wp2_with fail
          go_meet
          exact ⟨k, v, out, _, m', rfl, HD.out, HC.out, by omega, by rw [byt_length]; exact hk, HRm.out, HGo.out, .inr ⟨HST.out, HG'.out, rfl, .inr (.inl (by omega))⟩⟩
      · obtain rfl : k = s.size := by omega
        clear hgoing hlt
        go_wp2_with fail
        go_meet
        exact ⟨s.size, v, out, _, m', rfl, HD.out, HC.out, by omega, by rw [byt_length]; exact Nat.le_refl _, HRm.out, HGo.out, .inr ⟨HST.out, HG'.out, rfl, .inl (by rw [byt_length])⟩⟩
  case rest =>
    obtain ⟨k, v, out, b', m', rfl, hd, hc, hol, hf⟩ := hcut
    have HD := Lib.hid hd
    have HC := Lib.hid hc
    have HF := Lib.hid hf
    have h4 := hd.c4
    have f4 := hd.fz 4
    have hnil := hd.nil
    by_cases ho : out = []
    · have hvn := hnil ho
      rw [hvn] at h4
      have ht := tell_none g 4 room wc h4 f4
      have HT := Lib.hid ht
      have HO := Lib.hid ho
      clear hd hc hf h4 f4 hnil ho hvn ht
      go_wp2_with fail
      refine HT.out.mono ?_
      rintro e w1 ⟨rfl, rfl⟩
      go_wp2_with fail
      go_ret2
      obtain rfl := HO.out
      exact ⟨k, none, 0, [], b', m', rfl, HD.out.told (Below.refl _ _) nilS, chg_then HC.out ((chg_g (gw := gw) (v := nilS) 4 _).trans (chg_g 4 _)) (fun i _ hi => hi), World.ownsRow_nil _ _ _ _, HF.out⟩
    · have hpos : 0 < out.length := by
        rcases Nat.eq_zero_or_pos out.length with h | h
        · exact absurd (List.eq_nil_of_length_eq_zero h) ho
        · exact h
      obtain ⟨r, c, hv, _, _⟩ := hd.row.form hpos
      have hrow := hd.row
      have hrg := hd.row_g
      rw [hv] at h4 hrow hrg
      have hne : r ≠ g := fun e => hrg (by rw [e]; rfl)
      have hrm : (out.length : Int) ≤ room := by
        rcases hf.fits with h | h
        · exact h
        · exact absurd h ho
      have ht := tell_all g 4 r w.heap.size c out room wc h4 f4 hrow hne hpos (by omega) hrm
      have HT := Lib.hid ht
      clear hd hc hf h4 f4 hnil ho hv ht hrow hrg hne
      go_wp2_with fail
      refine HT.out.mono ?_
      rintro e w1 ⟨r1, c1, w2, v1, rfl, rfl, hown, hb⟩
      have HOW := Lib.hid hown
      have HB := Lib.hid hb
      clear hown hb
      go_wp2_with fail
      go_ret2
      have hlt := HOW.out.lt r1 rfl
      have hgl := HD.out.lt
      refine ⟨k, some ⟨r1, 0, none⟩, c1, out, b', m', rfl, HD.out.told HB.out v1, ?_, ?_, HF.out⟩
      · exact chg_then HC.out (((Chg.of_below HB.out).trans (chg_g (gw := gw) (v := nilS) 4 _)).trans (chg_g 4 _)) (fun i _ hi => hi)
      · have h1 := own_weaken HOW.out HC.out.size
        refine h1.kept (w' := _) (row := some g) ⟨rfl, rfl, rfl, by simp [World.setCell], fun q hq hn => ?_⟩ (.inr (by simp [Value.ownBlock]; omega))
        exact (Below.heap_setCell _ _ _ q (fun e => hn (by rw [e]))).trans (Below.heap_setCell _ _ _ q (fun e => hn (by rw [e])))
end Go.Proofs.Ytnkinbfglenddaa.Dec
