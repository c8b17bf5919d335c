/- The expander: the other bytes behind a part's first one; any byte. The expander: made, fed, ended. The expander: ended; is it done? What Decode needs of a decoder. A machine that eats bytes and tells scalars, in memory: its base, the row that waits, and whatever else it has. The Feed of uni8.Decoder, at bytes that are right. codec.Decode by *uni8.Decoder. codec.Decode by UTF-8, at ASCII. A machine that eats scalars and tells bytes, in memory: its base, what it keeps, and whatever else it has. A difference's bytes: the functions of layer 11 that the encoder calls. Arguments that are rows of rows, of strings, of structs: opened as the print's words read them; no condition beside the reading itself. Lists of numbers in memory; an append of a row; two lists compared. -/
import Derived.Test.YtooiooledeblmaaGreatF2
import Derived.Deep.CutBlock
import Derived.Deep.DeepCutAuto
import Derived.Laws.BytesArg
import Derived.Deep.RegionWith
import Derived.Deep.Slices
import Derived.ChangeSame
import Derived.ProofKit
import Derived.Laws.AppendOwnNone
import Derived.Laws.AppendOwn
section
namespace Go.Proofs.YtooiooledeblmaaGreat.Dec
open Go.RowKit Go.Proofs.YtooiooledeblmaaGreat.Win Go.Proofs.YtooiooledeblmaaGreat.Stp Go.Proofs.YtooiooledeblmaaGreat.Mach
set_option linter.unusedVariables false
set_option linter.unusedSimpArgs false
set_option maxRecDepth 100000 in
set_option maxHeartbeats 4000000 in
theorem more_3 {w : World} {g gw rb : Nat} {v : Value} {b : B4} {l : List Int} {m : M} (x : Int) (h : DecAt w g gw rb v b l m) (hbeg : m.beg = 3) :
    Calls Tryz.prog 273 #[.pointer (some ⟨g, 0, none⟩), .int .u8 x] w (NextPost w g gw rb v b l (Mach.more m x)) := by
  have h8 := h.c8
  have f8 := h.fz 8
  have h10 := h.c10
  have f10 := h.fz 10
  rw [hbeg] at h8
  have hr : Mach.more m x = some ({ m with first := x, beg := 4 }, []) := by unfold Mach.more; rw [if_neg (by rw [hbeg]; decide), if_neg (by rw [hbeg]; decide), if_pos hbeg]
  rw [hr]
  have H := Lib.hid h
  clear h hr hbeg
  go_enter Tryz.func273, Tryz.ntmps273
  go_wp2_with fail
  go_ret
  exact np_of ((H.out.set 10 (.int .u8 x) (b' := b) (m' := { m with first := x }) rfl rfl).set 8 (.int .i64 4) rfl rfl) ((chg_g 10 _).trans (chg_g 8 _))
set_option maxRecDepth 100000 in
set_option maxHeartbeats 4000000 in
theorem more_4 {w : World} {g gw rb : Nat} {v : Value} {b : B4} {l : List Int} {m : M} (x : Int) (h : DecAt w g gw rb v b l m) (hG : Mach.Good m) (x0 : 0 ≤ x) (x1 : x ≤ 255) (hbeg : m.beg = 4) :
    Calls Tryz.prog 273 #[.pointer (some ⟨g, 0, none⟩), .int .u8 x] w (NextPost w g gw rb v b l (Mach.more m x)) := by
  have h5 := h.c5
  have h8 := h.c8
  have h10 := h.c10
  rw [hbeg] at h8
  have hf := hG.first
  have hr : Mach.more m x = some (({ m with o := m.o.set (m.first / 32).toNat (65536 + 128 * (m.first % 32 * 256 + x)) } : M).activate (m.first / 32), []) := by unfold Mach.more; rw [if_neg (by rw [hbeg]; decide), if_neg (by rw [hbeg]; decide), if_neg (by rw [hbeg]; decide), if_pos hbeg]
  rw [hr]
  have hx := fun w => extended_calls m.first x w hf.1 hf.2 x0 x1
  obtain ⟨n, hn⟩ : ∃ n, n = m.first / 32 := ⟨_, rfl⟩
  obtain ⟨o, ho⟩ : ∃ o, o = 65536 + 128 * (m.first % 32 * 256 + x) := ⟨_, rfl⟩
  rw [← hn, ← ho] at hx ⊢
  have hn01 : 0 ≤ n ∧ n < 8 := by omega
  obtain ⟨n0, n1⟩ := hn01
  have HX := Lib.hid hx
  have H := Lib.hid h
  have hset : ∀ w3 : World, WinAt w3 gw m.o used0 → Calls Tryz.prog 223 #[.pointer (some ⟨gw, 0, none⟩), .int .i64 n, .int .u32 o] w3 fun e w' => e = .returned (.tuple #[]) ∧ WinAt w' gw (m.o.set n.toNat o) used0 ∧ Chg (· = gw) w3 w' := by
    intro w3 hw3
    have := set_calls gw m.o used0 n o w3 hw3
    rw [if_pos ⟨n0, n1⟩] at this
    exact this
  have HSET := Lib.hid hset
  clear h hG hf hr hx hn ho hset hbeg
  go_enter Tryz.func273, Tryz.ntmps273
  go_wp2_with fail
  refine (HX.out _).mono ?_
  rintro e w2 ⟨rfl, rfl⟩
  go_wp2_with fail
  refine (HSET.out _ H.out.win).mono ?_
  rintro e w3 ⟨rfl, hw3, hc3⟩
  have hd3 := H.out.wins hw3 hc3
  have HD3 := Lib.hid hd3
  have HC3 := Lib.hid hc3
  clear hw3 hc3 hd3
  go_wp2_with (go_at_call 276; refine (activate_calls _ HD3.out).mono ?_; rintro e w4 ⟨rfl, rfl⟩)
  go_ret
  exact np_of (at_act HD3.out n) ((chg_gw HC3.out).trans (((chg_g 7 _).trans (chg_g 6 _)).trans (chg_g 8 _)))
set_option maxRecDepth 100000 in
set_option maxHeartbeats 4000000 in
theorem more_5 {w : World} {g gw rb : Nat} {v : Value} {b : B4} {l : List Int} {m : M} (x : Int) (h : DecAt w g gw rb v b l m) (hbeg : m.beg = 5) :
    Calls Tryz.prog 273 #[.pointer (some ⟨g, 0, none⟩), .int .u8 x] w (NextPost w g gw rb v b l (Mach.more m x)) := by
  have h8 := h.c8
  have h10 := h.c10
  have f10 := h.fz 10
  rw [hbeg] at h8
  have H := Lib.hid h
  have h10' := h.set 10 (.int .u8 x) (b' := b) (m' := { m with first := x }) rfl rfl
  have hf := fits_calls x h10'
  have H10 := Lib.hid h10'
  have e : ({ m with first := x } : M).fits x = m.fits x := rfl
  rw [e] at hf
  have hr : Mach.more m x = if m.fits x = true then some (({ m with first := x } : M).begin 6 0, []) else none := by unfold Mach.more; rw [if_neg (by rw [hbeg]; decide), if_neg (by rw [hbeg]; decide), if_neg (by rw [hbeg]; decide), if_neg (by rw [hbeg]; decide), if_pos hbeg]
  rw [hr]
  clear h h10' e hr hbeg
  cases hfx : m.fits x with
  | true =>
    rw [if_pos rfl]
    rw [hfx] at hf
    clear hfx
    go_enter Tryz.func273, Tryz.ntmps273
    go_wp2_with (first | (go_at_call 278; refine hf.mono ?_; rintro e w1 ⟨rfl, rfl⟩) | (go_at_call 279; refine (begin_calls _ _ H10.out).mono ?_; rintro e w1 ⟨rfl, rfl⟩))
    go_ret
    exact np_of (at_begin H10.out 6 0) (((chg_g 10 _).trans (chg_g 8 _)).trans (chg_g 9 _))
  | false =>
    rw [if_neg (by decide)]
    rw [hfx] at hf
    clear hfx
    go_enter Tryz.func273, Tryz.ntmps273
    go_wp2_with (go_at_call 278; refine hf.mono ?_; rintro e w1 ⟨rfl, rfl⟩)
    go_ret
    exact np_nof H10.out (chg_g 10 _)
set_option maxRecDepth 100000 in
set_option maxHeartbeats 4000000 in
theorem more_6 {w : World} {g gw rb : Nat} {v : Value} {b : B4} {l : List Int} {m : M} (x : Int) (h : DecAt w g gw rb v b l m) (hG : Mach.Good m) (x0 : 0 ≤ x) (x1 : x ≤ 255) (hl : l.length ≤ 1000000) (hbeg : m.beg = 6) :
    Calls Tryz.prog 273 #[.pointer (some ⟨g, 0, none⟩), .int .u8 x] w (NextPost w g gw rb v b l (Mach.more m x)) := by
  have h8 := h.c8
  have h10 := h.c10
  rw [hbeg] at h8
  have hf := hG.first
  have hr : Mach.more m x = some (Mach.whole m (m.first * 256 + x)) := by unfold Mach.more; rw [if_neg (by rw [hbeg]; decide), if_neg (by rw [hbeg]; decide), if_neg (by rw [hbeg]; decide), if_neg (by rw [hbeg]; decide), if_neg (by rw [hbeg]; decide)]
  rw [hr]
  have hw := whole_calls (m.first * 256 + x) h hG (by omega) (by omega) hl
  have HW := Lib.hid hw
  have or1 : bits .or .u32 (m.first * 256) x = m.first * 256 + x := bits_join .u32 32 (by decide) wraps_u32 8 (m.first * 256) x (by omega) (by omega) (by omega) (by omega) (by omega) (by omega)
  have HO := Lib.hid or1
  obtain ⟨p0, p1⟩ := hf
  clear h hG hr hw or1 hbeg
  go_enter Tryz.func273, Tryz.ntmps273
  go_wp2_with fail
  rw [HO.out]
  refine HW.out.mono ?_
  rintro e w1 ⟨rfl, hd⟩
  have HD := Lib.hid hd
  clear hd
  go_wp2_with fail
  go_ret
  exact ⟨rfl, HD.out⟩
theorem more_calls {w : World} {g gw rb : Nat} {v : Value} {b : B4} {l : List Int} {m : M} (x : Int) (h : DecAt w g gw rb v b l m) (hG : Mach.Good m) (x0 : 0 ≤ x) (x1 : x ≤ 255) (hl : l.length ≤ 1000000) (hbeg : m.beg ≠ 0) :
    Calls Tryz.prog 273 #[.pointer (some ⟨g, 0, none⟩), .int .u8 x] w (NextPost w g gw rb v b l (Mach.more m x)) := by
  have hb := hG.beg
  have hcs : m.beg = 1 ∨ m.beg = 2 ∨ m.beg = 3 ∨ m.beg = 4 ∨ m.beg = 5 ∨ m.beg = 6 := by omega
  rcases hcs with e | e | e | e | e | e
  · exact more_1 x h hG x0 x1 hl e
  · exact more_2 x h hG x0 x1 hl e
  · exact more_3 x h e
  · exact more_4 x h hG x0 x1 e
  · exact more_5 x h e
  · exact more_6 x h hG x0 x1 hl e
set_option maxHeartbeats 1000000 in
theorem next_calls {w : World} {g gw rb : Nat} {v : Value} {b : B4} {l : List Int} {m : M} (x : Int) (h : DecAt w g gw rb v b l m) (hG : Mach.Good m) (x0 : 0 ≤ x) (x1 : x ≤ 255) (hl : l.length ≤ 1000000) :
    Calls Tryz.prog 272 #[.pointer (some ⟨g, 0, none⟩), .int .u8 x] w (NextPost w g gw rb v b l (Mach.step m x)) := by
  have h8 := h.c8
  have h6 := h.c6
  by_cases hbeg : m.beg = 0
  · have hb : (m.beg != 0) = false := by simp [hbeg]
    have hr : Mach.step m x = if m.uni = true then Mach.double m x else Mach.single m x := by unfold Mach.step; rw [if_neg (by simp [hbeg])]
    rw [hr]
    cases hu : m.uni with
    | true =>
      rw [if_pos rfl]
      have HD := Lib.hid (double_calls x h x0 x1)
      rw [hu] at h6
      clear h hG hbeg hr hu
      go_enter Tryz.func272, Tryz.ntmps272
      go_wp2_with fail
      refine HD.out.mono ?_
      intro e w' hp
      cases hm : Mach.double m x with
      | none =>
        rw [hm] at hp
        obtain ⟨rfl, hq⟩ := hp
        have HQ := Lib.hid hq
        have HM := Lib.hid hm
        clear hq hm
        go_wp2_with fail
        go_ret
        rw [HM.out]
        exact ⟨rfl, HQ.out⟩
      | some r =>
        obtain ⟨m', em⟩ := r
        rw [hm] at hp
        obtain ⟨rfl, hq⟩ := hp
        have HQ := Lib.hid hq
        have HM := Lib.hid hm
        clear hq hm
        go_wp2_with fail
        go_ret
        rw [HM.out]
        exact ⟨rfl, HQ.out⟩
    | false =>
      rw [if_neg (by decide)]
      have HD := Lib.hid (single_calls x h hG x0 x1 hl)
      rw [hu] at h6
      clear h hG hbeg hr hu
      go_enter Tryz.func272, Tryz.ntmps272
      go_wp2_with fail
      refine HD.out.mono ?_
      intro e w' hp
      cases hm : Mach.single m x with
      | none =>
        rw [hm] at hp
        obtain ⟨rfl, hq⟩ := hp
        have HQ := Lib.hid hq
        have HM := Lib.hid hm
        clear hq hm
        go_wp2_with fail
        go_ret
        rw [HM.out]
        exact ⟨rfl, HQ.out⟩
      | some r =>
        obtain ⟨m', em⟩ := r
        rw [hm] at hp
        obtain ⟨rfl, hq⟩ := hp
        have HQ := Lib.hid hq
        have HM := Lib.hid hm
        clear hq hm
        go_wp2_with fail
        go_ret
        rw [HM.out]
        exact ⟨rfl, HQ.out⟩
  · have hb : (m.beg != 0) = true := by simp [hbeg]
    have hr : Mach.step m x = Mach.more m x := by unfold Mach.step; rw [if_pos hbeg]
    rw [hr]
    have HD := Lib.hid (more_calls x h hG x0 x1 hl hbeg)
    clear h hG hbeg hr
    go_enter Tryz.func272, Tryz.ntmps272
    go_wp2_with fail
    refine HD.out.mono ?_
    intro e w' hp
    cases hm : Mach.more m x with
    | none =>
      rw [hm] at hp
      obtain ⟨rfl, hq⟩ := hp
      have HQ := Lib.hid hq
      have HM := Lib.hid hm
      clear hq hm
      go_wp2_with fail
      go_ret
      rw [HM.out]
      exact ⟨rfl, HQ.out⟩
    | some r =>
      obtain ⟨m', em⟩ := r
      rw [hm] at hp
      obtain ⟨rfl, hq⟩ := hp
      have HQ := Lib.hid hq
      have HM := Lib.hid hm
      clear hq hm
      go_wp2_with fail
      go_ret
      rw [HM.out]
      exact ⟨rfl, HQ.out⟩
end Go.Proofs.YtooiooledeblmaaGreat.Dec
end
section
namespace Go.Proofs.YtooiooledeblmaaGreat.Dec
open Go.RowKit Go.Proofs.YtooiooledeblmaaGreat.Win Go.Proofs.YtooiooledeblmaaGreat.Stp Go.Proofs.YtooiooledeblmaaGreat.Mach
set_option linter.unusedVariables false
set_option linter.unusedSimpArgs false
abbrev nilS : Value := .slice none 0 0
def b40 : B4 := { at_ := 0, err := 0, pl := 0, fin := false }
def m0 : M := { o := firsts, uni := false, act := 0, beg := 0, n := 0, first := 0, upper := 0 }
theorem good0 : Mach.Good m0 := ⟨rfl, by unfold m0; decide +kernel, by decide, by decide, by decide, .inl rfl, by decide⟩
theorem newDecoder_calls (w : World) : Calls Tryz.prog 76 #[] w fun e w' => e = .returned (.pointer (some ⟨w.heap.size + 1, 0, none⟩)) ∧ DecAt w' (w.heap.size + 1) w.heap.size 0 nilS b40 [] m0 ∧ Below w.heap.size w w' ∧ w'.heap.size = w.heap.size + 2 := by
  have hn : Calls Tryz.prog 107 #[] w fun e w' => e = .returned (.pointer (some ⟨w.heap.size, 0, none⟩)) ∧ w' = w.alloc (.cells (winCells firsts used0).toArray 229) := by
    go_enter Tryz.func107, Tryz.ntmps107
    go_wp2
    go_ret
    exact ⟨rfl, rfl⟩
  go_enter Tryz.func76, Tryz.ntmps76
  go_wp2_with (go_at_call 107; refine hn.mono ?_; rintro e w1 ⟨rfl, rfl⟩)
  go_ret
  have e1 : (w.alloc (.cells (winCells firsts used0).toArray 229)).heap.size = w.heap.size + 1 := by simp
  refine ⟨rfl, ⟨?_, ⟨?_, rfl, rfl⟩, World.ownsRow_nil _ _ _ _, fun _ => rfl, Nat.zero_le _⟩, ((Below.refl _ _).alloc (Nat.le_refl _) _).alloc (by simp) _, by simp⟩
  · rw [← e1]; exact heap_alloc_new _ _
  · rw [Below.heap_alloc _ _ _ (by simp)]; exact heap_alloc_new _ _
/-- Bytes, one by one. -/
def steps (m : M) : List Int → Option (M × List Int)
  | [] => some (m, [])
  | x :: xs => match Mach.step m x with
    | none => none
    | some (m1, e) => match steps m1 xs with
      | none => none
      | some (m2, e2) => some (m2, e ++ e2)
theorem steps_snoc {m m1 m2 : M} {e e2 : List Int} {x : Int} : ∀ {xs : List Int}, steps m xs = some (m1, e) → Mach.step m1 x = some (m2, e2) → steps m (xs ++ [x]) = some (m2, e ++ e2) := by
  intro xs
  induction xs generalizing m e with
  | nil =>
    intro h h2
    simp [steps] at h
    obtain ⟨rfl, rfl⟩ := h
    simp [steps, h2]
  | cons y ys ih =>
    intro h h2
    simp only [steps, List.cons_append] at h ⊢
    cases hy : Mach.step m y with
    | none => rw [hy] at h; cases h
    | some r =>
      obtain ⟨m3, e3⟩ := r
      rw [hy] at h
      simp only at h ⊢
      cases hs : steps m3 ys with
      | none => rw [hs] at h; cases h
      | some r =>
        obtain ⟨m4, e4⟩ := r
        rw [hs] at h
        simp only [Option.some.injEq, Prod.mk.injEq] at h
        obtain ⟨rfl, rfl⟩ := h
        rw [ih hs h2]
        simp
theorem step_one {m m' : M} {x : Int} {e : List Int} (h : Mach.step m x = some (m', e)) : e.length ≤ 1 := by
  unfold Mach.step at h
  split at h
  · unfold more whole at h
    repeat' split at h
    all_goals first
      | (cases h; done)
      | (simp only [Option.some.injEq, Prod.mk.injEq] at h; rw [← h.2]; simp)
  · split at h
    · unfold double at h
      repeat' split at h
      all_goals first
        | (cases h; done)
        | (simp only [Option.some.injEq, Prod.mk.injEq] at h; rw [← h.2]; simp)
    · unfold single at h
      repeat' split at h
      all_goals first
        | (cases h; done)
        | (simp only [Option.some.injEq, Prod.mk.injEq] at h; rw [← h.2]; simp)
def byt (s : ByteArray) : List Int := s.data.toList.map fun x => (x.toNat : Int)
theorem byt_length (s : ByteArray) : (byt s).length = s.size := by unfold byt; rw [List.length_map, Array.length_toList]; rfl
theorem byt_at (s : ByteArray) (k : Nat) (h : k < s.size) : (byt s).getD k 0 = (s[k].toNat : Int) := by
  unfold byt
  rw [List.getD_eq_getElem?_getD, List.getElem?_map, List.getElem?_eq_getElem (by rw [Array.length_toList]; exact h)]
  rfl
theorem byt_take (s : ByteArray) (k : Nat) (h : k < s.size) : (byt s).take (k + 1) = (byt s).take k ++ [(s[k].toNat : Int)] := by
  rw [List.take_succ_eq_append_getElem (by rw [byt_length]; exact h)]
  have := byt_at s k h
  rw [List.getD_eq_getElem?_getD, List.getElem?_eq_getElem (by rw [byt_length]; exact h)] at this
  rw [← this]; rfl
/-- What a feeding has done: so many bytes were eaten, so many scalars came out, and why it has stopped. -/
structure Fed (b : B4) (m : M) (l : List Int) (room : Int) (k : Nat) (out : List Int) (b' : B4) (m' : M) : Prop where
  le : k ≤ l.length
  fits : (out.length : Int) ≤ room ∨ out = []
  go : k ≠ 0 → b.going = true
  way : (∃ m1, steps m (l.take k) = some (m1, out) ∧ b.going = true ∧ k < l.length ∧ (out.length : Int) < room ∧ Mach.step m1 (l.getD k 0) = none ∧ b' = { b with at_ := b.at_ + k, err := 3, pl := b.at_ + k }) ∨
    (steps m (l.take k) = some (m', out) ∧ Mach.Good m' ∧ b' = { b with at_ := b.at_ + k } ∧ (k = l.length ∨ room ≤ (out.length : Int) ∨ b.going = false))
theorem DecAt.told {w w1 : World} {g gw rb : Nat} {v : Value} {b : B4} {l : List Int} {m : M} (h : DecAt w g gw rb v b l m) (hb : Below w.heap.size w w1) (v1 : Value) : DecAt ((w1.setCell ⟨g, 4, none⟩ v1).setCell ⟨g, 4, none⟩ nilS) g gw 0 nilS b [] m := by
  have hgb : w1.heap[g]? = some (.cells (decCells b v gw m) 208 (0, 0)) := (hb.block g h.lt).trans h.blk
  refine ⟨?_, ?_, World.ownsRow_nil _ _ _ _, fun _ => rfl, Nat.zero_le _⟩
  · have h1 := heap_setCell_same w1 g 4 _ _ v1 hgb
    rw [heap_setCell_same _ g 4 _ _ nilS h1]; rfl
  · exact ((h.win.keep (hb.block gw h.win.lt)).keep (Below.heap_setCell w1 _ _ gw h.ne_gw)).keep (Below.heap_setCell _ _ _ gw h.ne_gw)
/-- An idle machine's row lies from wherever on. -/
theorem DecAt.rebase {w : World} {g gw rb : Nat} {b : B4} {m : M} (h : DecAt w g gw rb nilS b [] m) (rb' : Nat) (hr : rb' ≤ w.heap.size) : DecAt w g gw rb' nilS b [] m := ⟨h.blk, h.win, World.ownsRow_nil _ _ _ _, fun _ => rfl, hr⟩
theorem own_weaken {w : World} {base base' : Nat} {e : TypeId} {size n : Nat} {v : Value} {xs : List Value} (h : w.ownsRow base e size v n xs) (hb : base' ≤ base) : w.ownsRow base' e size v n xs := by
  refine ⟨h.1, ?_⟩
  rcases h.2 with h2 | ⟨g', cap, cur, hv, hg, r⟩
  · exact .inl h2
  · exact .inr ⟨g', cap, cur, hv, Nat.le_trans hb hg, r⟩
theorem fs_new {w w0 : World} {g gw : Nat} {v : Value} {n : Nat} {xs : List Value} {e : TypeId} {size : Nat} (h : w.ownsRow w0.heap.size e size v n xs) {i : Nat} (hi : i < w0.heap.size) (hh : FS g gw v i) : FS g gw nilS i := by
  rcases hh with hh | hh | hh
  · exact .inl hh
  · exact .inr (.inl hh)
  · have := (h.lt i hh).1; omega
def FedMid (w : World) (g gw : Nat) (b : B4) (m : M) (s : ByteArray) (room : Int) (i : Value) (wx : World) : Prop :=
  ∃ (k : Nat) (v : Value) (out : List Int) (b' : B4) (m' : M), i = .int .i64 k ∧ DecAt wx g gw w.heap.size v b' out m' ∧ Chg (FS g gw nilS) w wx ∧ out.length ≤ 100000 ∧ Fed b m (byt s) room k out b' m'
def FeedRel (w : World) (g gw : Nat) (b : B4) (m : M) (s : ByteArray) (room : Int) (i : Value) (wx : World) : Prop :=
  ∃ (k : Nat) (v : Value) (out : List Int) (m' : M), k ≤ s.size ∧ i = .int .i64 k ∧ DecAt wx g gw w.heap.size v { b with at_ := b.at_ + k } out m' ∧ Mach.Good m' ∧ Chg (FS g gw nilS) w wx ∧ steps m ((byt s).take k) = some (m', out) ∧ ((out.length : Int) ≤ room ∨ out = []) ∧ out.length ≤ k ∧ (k ≠ 0 → b.going = true)
def FeedPost (w : World) (g gw : Nat) (b : B4) (m : M) (s : ByteArray) (room : Int) (e : Ending) (w' : World) : Prop :=
  ∃ (k : Nat) (A : Option Addr) (c : Nat) (out : List Int) (b' : B4) (m' : M), e = .returned (.tuple #[.int .i64 k, .slice A out.length c]) ∧ DecAt w' g gw 0 nilS b' [] m' ∧ Chg (FS g gw nilS) w w' ∧ w'.ownsRow w.heap.size 31 1 (.slice A out.length c) out.length (u32s out) ∧ Fed b m (byt s) room k out b' m'
set_option maxRecDepth 100000 in
set_option maxHeartbeats 4000000 in
theorem feed_calls {w : World} {g gw : Nat} {b : B4} {m : M} (s : ByteArray) (room : Int) (h : DecAt w g gw 0 nilS b [] m) (hG : Mach.Good m) (hs : s.size ≤ 100000) (hb0 : 0 ≤ b.at_) (hb1 : b.at_ ≤ 1000000) :
    Calls Tryz.prog 271 #[.pointer (some ⟨g, 0, none⟩), .string s, .int .i64 room] w (FeedPost w g gw b m s room) := by
  have H := Lib.hid h
  have HGd := Lib.hid hG
  clear h hG
  go_enter Tryz.func271, Tryz.ntmps271
  go_upto_block 0 with fail
  go_cut [8] (fun i wx => FedMid w g gw b m s room i wx)
  case first =>
    go_wp2_with fail
    go_loopw [8] (fun i wr => FeedRel w g gw b m s room i wr) (fun i _ => s.size - (intOf i).toNat)
    case atStart =>
      exact ⟨0, nilS, [], m, Nat.zero_le _, rfl, (by have := H.out.rebase w.heap.size (Nat.le_refl _); simpa using this), HGd.out, Chg.refl _, rfl, .inr rfl, Nat.zero_le _, fun h => absurd rfl h⟩
    case round =>
      obtain ⟨k, v, out, m', hk, rfl, hd, hg, hc, hst, hroom, hol, hgo⟩ := hrel
      have HD := Lib.hid hd
      have HG' := Lib.hid hg
      have HC := Lib.hid hc
      have HST := Lib.hid hst
      have HRm := Lib.hid hroom
      have HGo := Lib.hid hgo
      obtain ⟨A, c0, hv⟩ : ∃ A c, v = .slice A out.length c := by
        rcases hd.row.2 with ⟨h1, h2⟩ | ⟨g', cap, cur, h1, _⟩
        · exact ⟨none, 0, by rw [h1, h2]⟩
        · exact ⟨_, _, h1⟩
      have h4 := hd.c4
      rw [hv] at h4
      have HV := Lib.hid hv
      have hheld := held_calls g 4 A out.length c0 wr h4
      have HH := Lib.hid hheld
      have hgoing := going_calls g _ wr hd.base
      have hge : (({ b with at_ := b.at_ + k } : B4)).going = b.going := rfl
      rw [hge] at hgoing
      clear hd hg hc hst hroom hgo hv h4 hheld hge
      by_cases hlt : k < s.size
      · by_cases hrm : (out.length : Int) < room
        · cases hbg : b.going with
          | true =>
            rw [hbg] at hgoing
            have HGg := Lib.hid hgoing
            have HBG := Lib.hid hbg
            have hnext := next_calls (s[k].toNat : Int) HD.out HG'.out (by omega) (by have := s[k].toNat_lt; omega) (by omega)
            have HN := Lib.hid hnext
            clear hgoing hbg hnext
            go_wp2_with fail
            refine HH.out.mono ?_
            rintro e w1 ⟨rfl, rfl⟩
            go_wp2_with fail
            refine HGg.out.mono ?_
            rintro e w1 ⟨rfl, rfl⟩
            go_wp2_with fail
            refine HN.out.mono ?_
            intro e w2 hp
            cases hm : Mach.step m' (s[k].toNat : Int) with
            | none =>
              rw [hm] at hp
              obtain ⟨rfl, m2, hd2, hc2⟩ := hp
              have HM := Lib.hid hm
              have hstop := stop_calls g _ 3 w2 hd2.base (show (({ b with at_ := b.at_ + k } : B4)).going = true from HBG.out) (by decide)
              have HSt := Lib.hid hstop
              have HD2 := Lib.hid hd2
              have HC2 := Lib.hid hc2
              clear hm hstop hd2 hc2
              go_wp2_with fail
              refine HSt.out.mono ?_
              rintro e w3 ⟨rfl, rfl⟩
              go_wp2_with fail
              go_meet
              refine ⟨k, v, out, { b with at_ := b.at_ + k, err := 3, pl := b.at_ + k }, m2, rfl, ?_, ?_, by omega, ?_⟩
              · exact (HD2.out.set 1 (.int .i64 3) (b' := { b with at_ := b.at_ + k, err := 3 }) (m' := m2) rfl rfl).set 2 (.int .i64 (b.at_ + k)) rfl rfl
              · exact chg_then HC.out ((HC2.out.trans (chg_g 1 _)).trans (chg_g 2 _)) (fun i hi hh => fs_new HD.out.row hi hh)
              · refine ⟨by rw [byt_length]; exact hk, HRm.out, fun h => HBG.out, .inl ⟨m', HST.out, HBG.out, by rw [byt_length]; exact hlt, hrm, ?_, rfl⟩⟩
                rw [byt_at s k hlt]
                exact HM.out
            | some r =>
              obtain ⟨m2, em⟩ := r
              rw [hm] at hp
              obtain ⟨rfl, v2, hd2, hc2⟩ := hp
              have HM := Lib.hid hm
              have heat := eat_calls g _ 1 w2 hd2.base (show (({ b with at_ := b.at_ + k } : B4)).going = true from HBG.out) (by decide) (by decide) (show 0 ≤ b.at_ + k by omega) (show b.at_ + k ≤ 1000000000 by omega)
              have HEt := Lib.hid heat
              have HD2 := Lib.hid hd2
              have HC2 := Lib.hid hc2
              clear hm heat hd2 hc2
              go_wp2_with fail
              refine HEt.out.mono ?_
              rintro e w3 ⟨rfl, rfl⟩
              go_wp2_with fail
              go_roundw
              case rel =>
                have h1 := step_one HM.out
                refine ⟨k + 1, v2, out ++ em, m2, by omega, by go_num, ?_, good_step HG'.out (by omega) (by have := s[k].toNat_lt; omega) HM.out, ?_, ?_, ?_, ?_, fun _ => HBG.out⟩
                · have := HD2.out.set 0 (.int .i64 (b.at_ + k + 1)) (b' := { b with at_ := b.at_ + k + 1 }) (m' := m2) rfl rfl
                  have e2 : b.at_ + ((k + 1 : Nat) : Int) = b.at_ + k + 1 := by omega
                  rw [e2]
                  exact this
                · exact chg_then HC.out (HC2.out.trans (chg_g 0 _)) (fun i hi hh => fs_new HD.out.row hi hh)
                · rw [byt_take s k hlt]
                  exact steps_snoc HST.out HM.out
                · left
                  rw [List.length_append]
                  omega
                · rw [List.length_append]; omega
              case measure => simp [intOf]; omega
          | false =>
            rw [hbg] at hgoing
            have HGg := Lib.hid hgoing
            have HBG := Lib.hid hbg
            clear hgoing hbg
            go_wp2_with fail
            refine HH.out.mono ?_
            rintro e w1 ⟨rfl, rfl⟩
            go_wp2_with fail
            refine HGg.out.mono ?_
            rintro e w1 ⟨rfl, rfl⟩
            go_wp2_with fail
            go_meet
            exact ⟨k, v, out, _, m', rfl, HD.out, HC.out, by omega, by rw [byt_length]; exact hk, HRm.out, HGo.out, .inr ⟨HST.out, HG'.out, rfl, .inr (.inr HBG.out)⟩⟩
        · clear hgoing
          go_wp2_with fail
          refine HH.out.mono ?_
          rintro e w1 ⟨rfl, rfl⟩
          go_wp2_with fail
          go_meet
          exact ⟨k, v, out, _, m', rfl, HD.out, HC.out, by omega, by rw [byt_length]; exact hk, HRm.out, HGo.out, .inr ⟨HST.out, HG'.out, rfl, .inr (.inl (by omega))⟩⟩
      · obtain rfl : k = s.size := by omega
        clear hgoing hlt
        go_wp2_with fail
        go_meet
        exact ⟨s.size, v, out, _, m', rfl, HD.out, HC.out, by omega, by rw [byt_length]; exact Nat.le_refl _, HRm.out, HGo.out, .inr ⟨HST.out, HG'.out, rfl, .inl (by rw [byt_length])⟩⟩
  case rest =>
    obtain ⟨k, v, out, b', m', rfl, hd, hc, hol, hf⟩ := hcut
    have HD := Lib.hid hd
    have HC := Lib.hid hc
    have HF := Lib.hid hf
    have h4 := hd.c4
    have f4 := hd.fz 4
    have hnil := hd.nil
    by_cases ho : out = []
    · have hvn := hnil ho
      rw [hvn] at h4
      have ht := tell_none g 4 room wc h4 f4
      have HT := Lib.hid ht
      have HO := Lib.hid ho
      clear hd hc hf h4 f4 hnil ho hvn ht
      go_wp2_with fail
      refine HT.out.mono ?_
      rintro e w1 ⟨rfl, rfl⟩
      go_wp2_with fail
      go_ret2
      obtain rfl := HO.out
      exact ⟨k, none, 0, [], b', m', rfl, HD.out.told (Below.refl _ _) nilS, chg_then HC.out ((chg_g (gw := gw) (v := nilS) 4 _).trans (chg_g 4 _)) (fun i _ hi => hi), World.ownsRow_nil _ _ _ _, HF.out⟩
    · have hpos : 0 < out.length := by
        rcases Nat.eq_zero_or_pos out.length with h | h
        · exact absurd (List.eq_nil_of_length_eq_zero h) ho
        · exact h
      obtain ⟨r, c, hv, _, _⟩ := hd.row.form hpos
      have hrow := hd.row
      have hrg := hd.row_g
      rw [hv] at h4 hrow hrg
      have hne : r ≠ g := fun e => hrg (by rw [e]; rfl)
      have hrm : (out.length : Int) ≤ room := by
        rcases hf.fits with h | h
        · exact h
        · exact absurd h ho
      have ht := tell_all g 4 r w.heap.size c out room wc h4 f4 hrow hne hpos (by omega) hrm
      have HT := Lib.hid ht
      clear hd hc hf h4 f4 hnil ho hv ht hrow hrg hne
      go_wp2_with fail
      refine HT.out.mono ?_
      rintro e w1 ⟨r1, c1, w2, v1, rfl, rfl, hown, hb⟩
      have HOW := Lib.hid hown
      have HB := Lib.hid hb
      clear hown hb
      go_wp2_with fail
      go_ret2
      have hlt := HOW.out.lt r1 rfl
      have hgl := HD.out.lt
      refine ⟨k, some ⟨r1, 0, none⟩, c1, out, b', m', rfl, HD.out.told HB.out v1, ?_, ?_, HF.out⟩
      · exact chg_then HC.out (((Chg.of_below HB.out).trans (chg_g (gw := gw) (v := nilS) 4 _)).trans (chg_g 4 _)) (fun i _ hi => hi)
      · have h1 := own_weaken HOW.out HC.out.size
        refine h1.kept (w' := _) (row := some g) ⟨rfl, rfl, rfl, by simp [World.setCell], fun q hq hn => ?_⟩ (.inr (by simp [Value.ownBlock]; omega))
        exact (Below.heap_setCell _ _ _ q (fun e => hn (by rw [e]))).trans (Below.heap_setCell _ _ _ q (fun e => hn (by rw [e])))
end Go.Proofs.YtooiooledeblmaaGreat.Dec
end
section
namespace Go.Proofs.YtooiooledeblmaaGreat.Dec
open Go.RowKit Go.Proofs.YtooiooledeblmaaGreat.Win Go.Proofs.YtooiooledeblmaaGreat.Stp Go.Proofs.YtooiooledeblmaaGreat.Mach
set_option linter.unusedVariables false
set_option linter.unusedSimpArgs false
def cutB (b : B4) (m : M) : B4 := if (m.beg ≠ 0 ∨ m.upper ≠ 0) ∧ b.going = true then { b with err := 4, pl := b.at_ } else b
def finB (b : B4) : B4 := if b.going = true then { b with fin := true } else b
def endB (b : B4) (m : M) : B4 := finB (cutB b m)
theorem bend_dec {w : World} {g gw rb : Nat} {v : Value} {b : B4} {l : List Int} {m : M} (h : DecAt w g gw rb v b l m) :
    Calls Tryz.prog 139 #[.pointer (some ⟨g, 0, none⟩)] w fun e w' => e = .returned (.tuple #[]) ∧ DecAt w' g gw rb v (finB b) l m ∧ Chg (FS g gw v) w w' := by
  refine (bend_calls g b w h.base).mono ?_
  rintro e w' ⟨rfl, rfl⟩
  unfold finB
  cases hg : b.going with
  | true => rw [if_pos rfl, if_pos rfl]; exact ⟨rfl, h.set 3 (.bool true) rfl rfl, chg_g 3 _⟩
  | false => rw [if_neg (by decide), if_neg (by decide)]; exact ⟨rfl, h, Chg.refl _⟩
theorem end_calls {w : World} {g gw : Nat} {b : B4} {m : M} (h : DecAt w g gw 0 nilS b [] m) :
    Calls Tryz.prog 270 #[.pointer (some ⟨g, 0, none⟩)] w fun e w' => e = .returned (.tuple #[]) ∧ DecAt w' g gw 0 nilS (endB b m) [] m ∧ Chg (FS g gw nilS) w w' := by
  have h8 := h.c8
  have h11 := h.c11
  have H := Lib.hid h
  have hcs : (∃ x : Bool, (m.beg != 0) = x ∧ (m.upper != 0) = true ∧ (m.beg ≠ 0 ∨ m.upper ≠ 0)) ∨ ((m.beg != 0) = true ∧ (m.upper != 0) = false ∧ (m.beg ≠ 0 ∨ m.upper ≠ 0)) ∨ ((m.beg != 0) = false ∧ (m.upper != 0) = false ∧ ¬ (m.beg ≠ 0 ∨ m.upper ≠ 0)) := by
    by_cases h1 : m.beg = 0 <;> by_cases h2 : m.upper = 0
    · exact .inr (.inr ⟨by simp [h1], by simp [h2], by simp [h1, h2]⟩)
    · exact .inl ⟨false, by simp [h1], by simp [h2], .inr h2⟩
    · exact .inr (.inl ⟨by simp [h1], by simp [h2], .inl h1⟩)
    · exact .inl ⟨true, by simp [h1], by simp [h2], .inl h1⟩
  have hst : (m.beg ≠ 0 ∨ m.upper ≠ 0) → Calls Tryz.prog 145 #[.pointer (some ⟨g, 0, none⟩), .int .i64 4] w fun x w' => x = .returned (.tuple #[]) ∧ DecAt w' g gw 0 nilS (cutB b m) [] m ∧ Chg (FS g gw nilS) w w' := by
    intro hc
    cases hg : b.going with
    | true =>
      refine (stop_calls g b 4 w h.base hg (by decide)).mono ?_
      rintro e w' ⟨rfl, rfl⟩
      unfold cutB
      rw [if_pos ⟨hc, hg⟩]
      exact ⟨rfl, (h.set 1 (.int .i64 4) (b' := { b with err := 4 }) (m' := m) rfl rfl).set 2 (.int .i64 b.at_) rfl rfl, (chg_g 1 _).trans (chg_g 2 _)⟩
    | false =>
      refine (stop_not g b 4 w h.base hg).mono ?_
      rintro e w' ⟨rfl, rfl⟩
      unfold cutB
      rw [if_neg (by rw [hg]; simp)]
      exact ⟨rfl, h, Chg.refl _⟩
  clear h
  rcases hcs with ⟨x, e1, e2, hc⟩ | ⟨e1, e2, hc⟩ | ⟨e1, e2, hc⟩
  · have HS := Lib.hid (hst hc)
    clear hst hc
    cases x
    all_goals
      go_enter Tryz.func270, Tryz.ntmps270
      go_wp2_with fail
      refine HS.out.mono ?_
      rintro e w1 ⟨rfl, hd, hcg⟩
      have HD := Lib.hid hd
      have HC := Lib.hid hcg
      clear hd hcg
      go_wp2_with fail
      refine (bend_dec HD.out).mono ?_
      rintro e w2 ⟨rfl, hd, hcg⟩
      have HD2 := Lib.hid hd
      have HC2 := Lib.hid hcg
      clear hd hcg
      go_wp2_with fail
      go_end0
      exact ⟨rfl, HD2.out, HC.out.trans HC2.out⟩
  · have HS := Lib.hid (hst hc)
    clear hst hc
    go_enter Tryz.func270, Tryz.ntmps270
    go_wp2_with fail
    refine HS.out.mono ?_
    rintro e w1 ⟨rfl, hd, hcg⟩
    have HD := Lib.hid hd
    have HC := Lib.hid hcg
    clear hd hcg
    go_wp2_with fail
    refine (bend_dec HD.out).mono ?_
    rintro e w2 ⟨rfl, hd, hcg⟩
    have HD2 := Lib.hid hd
    have HC2 := Lib.hid hcg
    clear hd hcg
    go_wp2_with fail
    go_end0
    exact ⟨rfl, HD2.out, HC.out.trans HC2.out⟩
  · have he : endB b m = finB b := by
      unfold endB cutB
      rw [if_neg (fun h => hc h.1)]
    rw [he]
    clear hst hc he
    go_enter Tryz.func270, Tryz.ntmps270
    go_wp2_with fail
    refine (bend_dec H.out).mono ?_
    rintro e w2 ⟨rfl, hd, hcg⟩
    have HD2 := Lib.hid hd
    have HC2 := Lib.hid hcg
    clear hd hcg
    go_wp2_with fail
    go_end0
    exact ⟨rfl, HD2.out, HC2.out⟩
theorem done_calls {w : World} {g gw : Nat} {b : B4} {m : M} (h : DecAt w g gw 0 nilS b [] m) :
    Calls Tryz.prog 228 #[.pointer (some ⟨g, 0, none⟩)] w fun e w' => e = .returned (.bool (!b.going)) ∧ w = w' := by
  have hg := going_calls g b w h.base
  have hh := held_calls g 4 none 0 0 w h.c4
  cases hb : b.going with
  | true =>
    rw [hb] at hg
    clear h hb
    go_enter Tryz.func228, Tryz.ntmps228
    go_wp2_with (go_at_call 143; refine hg.mono ?_; rintro e w1 ⟨rfl, rfl⟩)
    go_ret
    exact ⟨rfl, rfl⟩
  | false =>
    rw [hb] at hg
    clear h hb
    go_enter Tryz.func228, Tryz.ntmps228
    go_wp2_with (first | (go_at_call 143; refine hg.mono ?_; rintro e w1 ⟨rfl, rfl⟩) | (go_at_call 231; refine hh.mono ?_; rintro e w1 ⟨rfl, rfl⟩))
    go_ret
    exact ⟨rfl, rfl⟩
end Go.Proofs.YtooiooledeblmaaGreat.Dec
end
section
namespace Go.Proofs.YtooiooledeblmaaGreat.Dcd
open Go.RowKit Go.Proofs.YtooiooledeblmaaGreat.Win Go.Proofs.YtooiooledeblmaaGreat.Stp Go.Proofs.YtooiooledeblmaaGreat.Mach Go.Proofs.YtooiooledeblmaaGreat.Dec Go.Proofs.YtooiooledeblmaaGreatW.PrintMore
set_option linter.unusedVariables false
set_option linter.unusedSimpArgs false
def DoneD (g : Nat) (w : World) : Prop := Calls Tryz.prog 228 #[.pointer (some ⟨g, 0, none⟩)] w (fun e w' => e = .returned (.bool true) ∧ w = w') ∧ ∃ b, BaseAt w g b ∧ b.err = 0 ∧ b.pl = 0
def FedD (E : Nat) (own : Nat → Prop) (g : Nat) (w2 : World) : Prop := ∀ w3, Below w2.heap.size w2 w3 → Calls Tryz.prog E #[.pointer (some ⟨g, 0, none⟩)] w3 (fun e w4 => e = .returned (.tuple #[]) ∧ Chg own w3 w4 ∧ DoneD g w4)
def RdyD (F E : Nat) (own : Nat → Prop) (g : Nat) (s : ByteArray) (out : List Int) (w1 : World) : Prop := ∀ wy, Below w1.heap.size w1 wy → Calls Tryz.prog F #[.pointer (some ⟨g, 0, none⟩), .string s, .int .i64 4096] wy
  (fun e w2 => ∃ A c, e = .returned (.tuple #[.int .i64 s.size, .slice A out.length c]) ∧ Chg own wy w2 ∧ w2.ownsRow wy.heap.size 31 1 (.slice A out.length c) out.length (u32s out) ∧ FedD E own g w2)
def NewDPost (PT : TypeId) (F E : Nat) (s : ByteArray) (out : List Int) (w : World) (e : Ending) (w' : World) : Prop :=
  ∃ g own, (∀ i, own i → w.heap.size ≤ i ∧ i < w'.heap.size) ∧ w.heap.size ≤ g ∧ e = .returned (.tuple #[.iface PT (.pointer (some ⟨g, 0, none⟩)), .int .i64 0]) ∧ Below w.heap.size w w' ∧ RdyD F E own g s out w'
def DecPost (w : World) (out : List Int) (e : Ending) (w' : World) : Prop :=
  ∃ r c, e = .returned (.tuple #[.slice (some ⟨r, 0, none⟩) out.length c, .agg #[.int .i64 0, .int .i64 0]]) ∧ w'.ownsRow w.heap.size 31 1 (.slice (some ⟨r, 0, none⟩) out.length c) out.length (u32s out) ∧ Below w.heap.size w w'
theorem own_chg {S : Nat → Prop} {w w' : World} {base : Nat} {e : TypeId} {size n : Nat} {v : Value} {xs : List Value} (h : w.ownsRow base e size v n xs) (hc : Chg S w w') (hs : ∀ i, S i → i < base) : w'.ownsRow base e size v n xs := by
  refine ⟨h.1, ?_⟩
  rcases h.2 with h2 | ⟨g', cap, cur, hv, hg, hb, r⟩
  · exact .inl h2
  · exact .inr ⟨g', cap, cur, hv, hg, (hc.block g' (Array.getElem?_eq_some_iff.1 hb).1 (fun hh => by have := hs _ hh; omega)).trans hb, r⟩
end Go.Proofs.YtooiooledeblmaaGreat.Dcd
end
section
namespace Go.Proofs.YtooiooledeblmaaGreat.Dcd
open Go.RowKit Go.Proofs.YtooiooledeblmaaGreat.Win Go.Proofs.YtooiooledeblmaaGreat.Stp Go.Proofs.YtooiooledeblmaaGreat.Mach Go.Proofs.YtooiooledeblmaaGreat.Dec Go.Proofs.YtooiooledeblmaaGreatW.PrintMore
set_option linter.unusedVariables false
set_option linter.unusedSimpArgs false
def inCells (b : B4) (v : Value) (rs : List Value) : Array Value := (.int .i64 b.at_ :: .int .i64 b.err :: .int .i64 b.pl :: .bool b.fin :: v :: rs).toArray
structure InAt (T : TypeId) (w : World) (g rb : Nat) (v : Value) (b : B4) (l : List Int) (rs : List Value) : Prop where
  blk : w.heap[g]? = some (.cells (inCells b v rs) T (0, 0))
  row : w.ownsRow rb 31 1 v l.length (u32s l)
  nil : l = [] → v = .slice none 0 0
  rbl : rb ≤ w.heap.size
  ne : 31 ≠ T
section
variable {T : TypeId} {w : World} {g rb : Nat} {v : Value} {b : B4} {l : List Int} {rs : List Value}
theorem InAt.base (h : InAt T w g rb v b l rs) : BaseAt w g b := ⟨by rw [cell_of h.blk]; rfl, by rw [cell_of h.blk]; rfl, by rw [cell_of h.blk]; rfl, by rw [cell_of h.blk]; rfl, frozen_of h.blk⟩
theorem InAt.fz (h : InAt T w g rb v b l rs) : ∀ j, w.frozen? ⟨g, j, none⟩ = false := frozen_of h.blk
theorem InAt.c4 (h : InAt T w g rb v b l rs) : w.cell? ⟨g, 4, none⟩ = some v := by rw [cell_of h.blk]; rfl
theorem InAt.cell (h : InAt T w g rb v b l rs) (j : Nat) : w.cell? ⟨g, 5 + j, none⟩ = rs[j]? := by
  rw [cell_of h.blk]
  simp only [inCells]
  rw [show 5 + j = j + 5 by omega]
  simp
theorem InAt.lt (h : InAt T w g rb v b l rs) : g < w.heap.size := (Array.getElem?_eq_some_iff.1 h.blk).1
theorem InAt.row_g (h : InAt T w g rb v b l rs) : v.ownBlock ≠ some g := own_ne_blk h.row h.blk h.ne
theorem InAt.set (h : InAt T w g rb v b l rs) (j : Nat) (u : Value) {b' : B4} {rs' : List Value} (he : (inCells b v rs).setIfInBounds j u = inCells b' v rs') : InAt T (w.setCell ⟨g, j, none⟩ u) g rb v b' l rs' := by
  refine ⟨?_, ?_, h.nil, ?_, h.ne⟩
  · rw [heap_setCell_same w g j _ _ _ h.blk, he]
  · refine h.row.kept (w' := w.setCell ⟨g, j, none⟩ u) (row := some g) ⟨rfl, rfl, rfl, by simp [World.setCell], fun k hk hn => Below.heap_setCell w _ _ k (fun e => hn (by rw [e]))⟩ (.inr h.row_g)
  · have := h.rbl; simpa [World.setCell] using this
theorem InAt.keep {w' : World} (h : InAt T w g rb v b l rs) (hs : w.heap.size ≤ w'.heap.size) (h0 : w'.heap[g]? = w.heap[g]?) (h2 : ∀ k, v.ownBlock = some k → w'.heap[k]? = w.heap[k]?) : InAt T w' g rb v b l rs := by
  refine ⟨h0.trans h.blk, ?_, h.nil, Nat.le_trans h.rbl hs, h.ne⟩
  obtain ⟨a1, a2⟩ := h.row
  refine ⟨a1, ?_⟩
  rcases a2 with a2 | ⟨g', cap, cur, hv, hb, hh, r⟩
  · exact .inl a2
  · exact .inr ⟨g', cap, cur, hv, hb, (h2 g' (by rw [hv]; rfl)).trans hh, r⟩
theorem InAt.alloc (h : InAt T w g rb v b l rs) (o : Obj) : InAt T (w.alloc o) g rb v b l rs :=
  h.keep (by simp) (Below.heap_alloc w o g h.lt) (fun k hk => Below.heap_alloc w o k (h.row.lt k hk).2)
theorem InAt.drewN (h : InAt T w g rb v b l rs) (n : Nat) : InAt T (w.drewN n) g rb v b l rs := h.keep (Nat.le_refl _) rfl (fun _ _ => rfl)
theorem InAt.rebase (h : InAt T w g rb nilS b [] rs) (rb' : Nat) (hr : rb' ≤ w.heap.size) : InAt T w g rb' nilS b [] rs := ⟨h.blk, World.ownsRow_nil _ _ _ _, fun _ => rfl, hr, h.ne⟩
theorem InAt.told {w1 : World} (h : InAt T w g rb v b l rs) (hb : Below w.heap.size w w1) (v1 : Value) : InAt T ((w1.setCell ⟨g, 4, none⟩ v1).setCell ⟨g, 4, none⟩ nilS) g 0 nilS b [] rs := by
  have hgb : w1.heap[g]? = some (.cells (inCells b v rs) T (0, 0)) := (hb.block g h.lt).trans h.blk
  refine ⟨?_, World.ownsRow_nil _ _ _ _, fun _ => rfl, Nat.zero_le _, h.ne⟩
  have h1 := heap_setCell_same w1 g 4 _ _ v1 hgb
  rw [heap_setCell_same _ g 4 _ _ nilS h1]; rfl
end
def IS (g : Nat) (v : Value) : Nat → Prop := fun i => i = g ∨ v.ownBlock = some i
theorem is_g {g : Nat} {v : Value} {w : World} (j : Nat) (u : Value) : Chg (IS g v) w (w.setCell ⟨g, j, none⟩ u) := Chg.set (S := IS g v) w (.inl rfl) j u
theorem is_new {w w0 : World} {g : Nat} {v : Value} {n : Nat} {xs : List Value} {e : TypeId} {size : Nat} (h : w.ownsRow w0.heap.size e size v n xs) {i : Nat} (hi : i < w0.heap.size) (hh : IS g v i) : IS g nilS i := by
  rcases hh with hh | hh
  · exact .inl hh
  · have := (h.lt i hh).1; omega
theorem InAt.hold {T : TypeId} {w w1 : World} {g rb : Nat} {v : Value} {b : B4} {l : List Int} {rs : List Value} (h : InAt T w g rb v b l rs) (x : Int) {r c : Nat} (hown : w1.ownsRow rb 31 1 (.slice (some ⟨r, 0, none⟩) (l.length + 1) c) (l ++ [x]).length (u32s (l ++ [x]))) (hg : w.grownBy w1 v.ownBlock) (hr : r ≠ g) :
    InAt T (w1.setCell ⟨g, 4, none⟩ (.slice (some ⟨r, 0, none⟩) (l.length + 1) c)) g rb (.slice (some ⟨r, 0, none⟩) (l.length + 1) c) b (l ++ [x]) rs ∧ Chg (IS g v) w (w1.setCell ⟨g, 4, none⟩ (.slice (some ⟨r, 0, none⟩) (l.length + 1) c)) := by
  have hgb : w1.heap[g]? = some (.cells (inCells b v rs) T (0, 0)) := (hg.block g h.lt (fun e => h.row_g e.symm)).trans h.blk
  refine ⟨⟨?_, ?_, fun e => by simp at e, ?_, h.ne⟩, ?_⟩
  · rw [heap_setCell_same w1 g 4 _ _ _ hgb]; rfl
  · exact hown.kept (w' := w1.setCell ⟨g, 4, none⟩ _) (row := some g) ⟨rfl, rfl, rfl, by simp [World.setCell], fun k hk hn => Below.heap_setCell w1 _ _ k (fun e => hn (by rw [e]))⟩ (.inr (by simp [Value.ownBlock]; exact hr))
  · have := Nat.le_trans h.rbl hg.size; simpa [World.setCell] using this
  · exact chg_then (Chg.mono (chg_grown hg) (fun i hi => .inr hi)) (Chg.set (S := IS g v) w1 (.inl rfl) 4 _) (fun i _ hi => hi)
def stepsR {R : Type} (N : R → Int → Option (R × List Int)) (r : R) : List Int → Option (R × List Int)
  | [] => some (r, [])
  | x :: xs => match N r x with
    | none => none
    | some (r1, e) => match stepsR N r1 xs with
      | none => none
      | some (r2, e2) => some (r2, e ++ e2)
theorem stepsR_cons {R : Type} {N : R → Int → Option (R × List Int)} {r rE : R} {x : Int} {xs oE : List Int} (h : stepsR N r (x :: xs) = some (rE, oE)) : ∃ r1 e e2, N r x = some (r1, e) ∧ stepsR N r1 xs = some (rE, e2) ∧ oE = e ++ e2 := by
  simp only [stepsR] at h
  cases hs : N r x with
  | none => rw [hs] at h; cases h
  | some q =>
    obtain ⟨r1, e⟩ := q
    rw [hs] at h
    simp only at h
    cases ht : stepsR N r1 xs with
    | none => rw [ht] at h; cases h
    | some q =>
      obtain ⟨r2, e2⟩ := q
      rw [ht] at h
      simp only [Option.some.injEq, Prod.mk.injEq] at h
      obtain ⟨rfl, rfl⟩ := h
      exact ⟨r1, e, e2, rfl, ht, rfl⟩
theorem bend_in {T : TypeId} {w : World} {g rb : Nat} {v : Value} {b : B4} {l : List Int} {rs : List Value} (h : InAt T w g rb v b l rs) (hg : b.going = true) :
    Calls Tryz.prog 139 #[.pointer (some ⟨g, 0, none⟩)] w fun e w' => e = .returned (.tuple #[]) ∧ InAt T w' g rb v { b with fin := true } l rs ∧ Chg (IS g v) w w' := by
  refine (bend_calls g b w h.base).mono ?_
  rintro e w' ⟨rfl, rfl⟩
  rw [if_pos hg]
  exact ⟨rfl, h.set 3 (.bool true) rfl, is_g 3 _⟩
theorem done_in {T : TypeId} {w : World} {g : Nat} {b : B4} {rs : List Value} (h : InAt T w g 0 nilS b [] rs) (hb : b.going = false) :
    Calls Tryz.prog 228 #[.pointer (some ⟨g, 0, none⟩)] w fun e w' => e = .returned (.bool true) ∧ w = w' := by
  have hg := going_calls g b w h.base
  have hh := held_calls g 4 none 0 0 w h.c4
  rw [hb] at hg
  clear h hb
  go_enter Tryz.func228, Tryz.ntmps228
  go_wp2_with (first | (go_at_call 143; refine hg.mono ?_; rintro e w1 ⟨rfl, rfl⟩) | (go_at_call 231; refine hh.mono ?_; rintro e w1 ⟨rfl, rfl⟩))
  go_ret
  exact ⟨rfl, rfl⟩
/-- One byte is right. -/
def NextPost {R : Type} (T : TypeId) (rest : R → List Value) (g rb : Nat) (v : Value) (b : B4) (l : List Int) (w : World) (r2 : R) (em : List Int) (e : Ending) (w2 : World) : Prop :=
  e = .returned (.bool true) ∧ ∃ v2, InAt T w2 g rb v2 b (l ++ em) (rest r2) ∧ Chg (IS g v) w w2
def InFed {R : Type} (T : TypeId) (rest : R → List Value) (g : Nat) (n : Nat) (rE : R) (oE : List Int) (w : World) (e : Ending) (w' : World) : Prop :=
  ∃ A c, e = .returned (.tuple #[.int .i64 n, .slice A oE.length c]) ∧ InAt T w' g 0 nilS { b40 with at_ := (n : Int) } [] (rest rE) ∧ Chg (IS g nilS) w w' ∧ w'.ownsRow w.heap.size 31 1 (.slice A oE.length c) oE.length (u32s oE)
def InRel {R : Type} (T : TypeId) (rest : R → List Value) (N : R → Int → Option (R × List Int)) (I : R → Prop) (g : Nat) (s : ByteArray) (rE : R) (oE : List Int) (w : World) (i : Value) (wx : World) : Prop :=
  ∃ (k : Nat) (v : Value) (r : R) (o o2 : List Int), k ≤ s.size ∧ i = .int .i64 k ∧ InAt T wx g w.heap.size v { b40 with at_ := (k : Int) } o (rest r) ∧ I r ∧ Chg (IS g nilS) w wx ∧ stepsR N r ((byt s).drop k) = some (rE, o2) ∧ oE = o ++ o2 ∧ o.length ≤ k
def InMid {R : Type} (T : TypeId) (rest : R → List Value) (g : Nat) (n : Nat) (rE : R) (oE : List Int) (w : World) (i : Value) (wx : World) : Prop :=
  ∃ v, i = .int .i64 n ∧ InAt T wx g w.heap.size v { b40 with at_ := (n : Int) } oE (rest rE) ∧ Chg (IS g nilS) w wx
end Go.Proofs.YtooiooledeblmaaGreat.Dcd
end
section
namespace Go.Proofs.YtooiooledeblmaaGreat.Dcd
open Go.RowKit Go.Proofs.YtooiooledeblmaaGreat.Win Go.Proofs.YtooiooledeblmaaGreat.Stp Go.Proofs.YtooiooledeblmaaGreat.Mach Go.Proofs.YtooiooledeblmaaGreat.Dec Go.Proofs.YtooiooledeblmaaGreatW.PrintMore
set_option linter.unusedVariables false
set_option linter.unusedSimpArgs false
set_option maxRecDepth 100000 in
set_option maxHeartbeats 8000000 in
theorem dfeed_uni8 {T : TypeId} {R : Type} {rest : R → List Value} {N : R → Int → Option (R × List Int)} {I : R → Prop} {r0 rE : R} {oE : List Int} {w : World} {g : Nat} (s : ByteArray) (room : Int) (h : InAt T w g 0 nilS b40 [] (rest r0)) (hI : I r0)
    (hnx : ∀ (r r2 : R) (x : Int) (em : List Int) (w : World) (rb : Nat) (v : Value) (b : B4) (l : List Int), I r → InAt T w g rb v b l (rest r) → 0 ≤ x → x ≤ 255 → l.length ≤ 100000 → N r x = some (r2, em) →
      Calls Tryz.prog 232 #[.pointer (some ⟨g, 0, none⟩), .int .u8 x] w (NextPost T rest g rb v b l w r2 em))
    (hIN : ∀ (r r2 : R) (x : Int) (em : List Int), I r → 0 ≤ x → x ≤ 255 → N r x = some (r2, em) → I r2 ∧ em.length ≤ 1)
    (hst : stepsR N r0 (byt s) = some (rE, oE)) (hs : s.size ≤ 4000) (hr : room = 4096) :
    Calls Tryz.prog 230 #[.pointer (some ⟨g, 0, none⟩), .string s, .int .i64 room] w (InFed T rest g s.size rE oE w) := by
  have hrm : 4096 ≤ room := by omega
  clear hr
  have H := Lib.hid h
  have HI := Lib.hid hI
  have HNx := Lib.hid hnx
  have HIN := Lib.hid hIN
  have HST := Lib.hid hst
  clear h hI hnx hIN hst
  go_enter Tryz.func230, Tryz.ntmps230
  go_upto_block 0 with fail
  go_cut [8] (fun i wx => InMid T rest g s.size rE oE w i wx ∧ oE.length ≤ 4000)
  case first =>
    go_wp2_with fail
    go_loopw [8] (fun i wr => InRel T rest N I g s rE oE w i wr) (fun i _ => s.size - (intOf i).toNat)
    case atStart =>
      exact ⟨0, nilS, r0, [], oE, Nat.zero_le _, rfl, H.out.rebase w.heap.size (Nat.le_refl _), HI.out, Chg.refl _, HST.out, rfl, Nat.zero_le _⟩
    case round =>
      obtain ⟨k, v, r, o, o2, hk, rfl, hd, hi, hc, hst, hoe, hol⟩ := hrel
      have HD := Lib.hid hd
      have HI' := Lib.hid hi
      have HC := Lib.hid hc
      have HST' := Lib.hid hst
      have HOe := Lib.hid hoe
      obtain ⟨A, c0, hv⟩ : ∃ A c, v = .slice A o.length c := by
        rcases hd.row.2 with ⟨h1, h2⟩ | ⟨g', cap, cur, h1, _⟩
        · exact ⟨none, 0, by rw [h1, h2]⟩
        · exact ⟨_, _, h1⟩
      have h4 := hd.c4
      rw [hv] at h4
      have HV := Lib.hid hv
      have hheld := held_calls g 4 A o.length c0 wr h4
      have HH := Lib.hid hheld
      have hgoing := going_calls g _ wr hd.base
      have hge : ({ b40 with at_ := (k : Int) } : B4).going = true := rfl
      rw [hge] at hgoing
      have HGg := Lib.hid hgoing
      clear hd hi hc hst hoe hv h4 hheld hge hgoing
      by_cases hlt : k < s.size
      · have hdc : (byt s).drop k = (s[k].toNat : Int) :: (byt s).drop (k + 1) := by
          rw [List.drop_eq_getElem_cons (by rw [byt_length]; exact hlt)]
          have := byt_at s k hlt
          rw [List.getD_eq_getElem?_getD, List.getElem?_eq_getElem (by rw [byt_length]; exact hlt)] at this
          rw [← this]; rfl
        have hst2 := HST'.out
        rw [hdc] at hst2
        obtain ⟨r2, em, e2, q1, q2, q3⟩ := stepsR_cons hst2
        obtain ⟨hi2, hem⟩ := HIN.out r r2 _ em HI'.out (by omega) (by have := s[k].toNat_lt; omega) q1
        have HN := Lib.hid (HNx.out r r2 (s[k].toNat : Int) em wr w.heap.size v _ o HI'.out HD.out (by omega) (by have := s[k].toNat_lt; omega) (by omega) q1)
        have HQ := Lib.hid (And.intro q2 q3)
        have HI2 := Lib.hid hi2
        clear hdc hst2 q1 q2 q3 hi2
        have hrm2 : (o.length : Int) < room := by omega
        go_wp2_with fail
        refine HH.out.mono ?_
        rintro e w1 ⟨rfl, rfl⟩
        go_wp2_with fail
        refine HGg.out.mono ?_
        rintro e w1 ⟨rfl, rfl⟩
        go_wp2_with fail
        refine HN.out.mono ?_
        rintro e w2 ⟨rfl, v2, hd2, hc2⟩
        have heat := eat_calls g _ 1 w2 hd2.base rfl (by decide) (by decide) (show (0 : Int) ≤ (k : Int) by omega) (show (k : Int) ≤ 1000000000 by omega)
        have HEt := Lib.hid heat
        have HD2 := Lib.hid hd2
        have HC2 := Lib.hid hc2
        clear heat hd2 hc2
        go_wp2_with fail
        refine HEt.out.mono ?_
        rintro e w3 ⟨rfl, rfl⟩
        go_wp2_with fail
        go_roundw
        case rel =>
          refine ⟨k + 1, v2, r2, o ++ em, e2, by omega, by go_num, ?_, HI2.out, ?_, HQ.out.1, ?_, ?_⟩
          · have := HD2.out.set 0 (.int .i64 ((k : Int) + 1)) (b' := { b40 with at_ := ((k + 1 : Nat) : Int) }) (rs' := rest r2) (by simp [inCells])
            exact this
          · exact chg_then HC.out (HC2.out.trans (is_g 0 _)) (fun i hi hh => is_new HD.out.row hi hh)
          · rw [HOe.out, HQ.out.2, List.append_assoc]
          · rw [List.length_append]; omega
        case measure => simp [intOf]; omega
      · obtain rfl : k = s.size := by omega
        clear hlt
        have hdn : (byt s).drop s.size = [] := by rw [← byt_length, List.drop_length]
        have hst2 := HST'.out
        rw [hdn] at hst2
        simp only [stepsR, Option.some.injEq, Prod.mk.injEq] at hst2
        obtain ⟨rfl, rfl⟩ := hst2
        have ho := HOe.out
        rw [List.append_nil] at ho
        subst ho
        clear hdn
        go_wp2_with fail
        go_meet
        exact ⟨⟨v, rfl, HD.out, HC.out⟩, by omega⟩
  case rest =>
    obtain ⟨⟨v, rfl, hd, hc⟩, hol⟩ := hcut
    have HD := Lib.hid hd
    have HC := Lib.hid hc
    have h4 := hd.c4
    have f4 := hd.fz 4
    have hnil := hd.nil
    by_cases ho : oE = []
    · have hvn := hnil ho
      rw [hvn] at h4
      have ht := tell_none g 4 room wc h4 f4
      have HT := Lib.hid ht
      have HO := Lib.hid ho
      clear hd hc h4 f4 hnil ho hvn ht
      go_wp2_with fail
      refine HT.out.mono ?_
      rintro e w1 ⟨rfl, rfl⟩
      go_wp2_with fail
      go_ret2
      obtain rfl := HO.out
      exact ⟨none, 0, rfl, HD.out.told (Below.refl _ _) nilS, chg_then HC.out ((is_g (v := nilS) 4 _).trans (is_g 4 _)) (fun i _ hi => hi), World.ownsRow_nil _ _ _ _⟩
    · have hpos : 0 < oE.length := by
        rcases Nat.eq_zero_or_pos oE.length with h | h
        · exact absurd (List.eq_nil_of_length_eq_zero h) ho
        · exact h
      obtain ⟨r, c, hv, _, _⟩ := hd.row.form hpos
      have hrow := hd.row
      have hrg := hd.row_g
      rw [hv] at h4 hrow hrg
      have hne : r ≠ g := fun e => hrg (by rw [e]; rfl)
      have ht := tell_all g 4 r w.heap.size c oE room wc h4 f4 hrow hne hpos (by omega) (by omega)
      have HT := Lib.hid ht
      clear hd hc h4 f4 hnil ho hv ht hrow hrg hne
      go_wp2_with fail
      refine HT.out.mono ?_
      rintro e w1 ⟨r1, c1, w2, v1, rfl, rfl, hown, hb⟩
      have HOW := Lib.hid hown
      have HB := Lib.hid hb
      clear hown hb
      go_wp2_with fail
      go_ret2
      have hlt := HOW.out.lt r1 rfl
      have hgl := HD.out.lt
      refine ⟨some ⟨r1, 0, none⟩, c1, rfl, HD.out.told HB.out v1, ?_, ?_⟩
      · exact chg_then HC.out (((Chg.of_below HB.out).trans (is_g (v := nilS) 4 _)).trans (is_g 4 _)) (fun i _ hi => hi)
      · have h1 := own_weaken HOW.out HC.out.size
        refine h1.kept (w' := _) (row := some g) ⟨rfl, rfl, rfl, by simp [World.setCell], fun q hq hn => ?_⟩ (.inr (by simp [Value.ownBlock]; omega))
        exact (Below.heap_setCell _ _ _ q (fun e => hn (by rw [e]))).trans (Below.heap_setCell _ _ _ q (fun e => hn (by rw [e])))
end Go.Proofs.YtooiooledeblmaaGreat.Dcd
end
section
namespace Go.Proofs.YtooiooledeblmaaGreat.Dcd
open Go.RowKit Go.Proofs.YtooiooledeblmaaGreat.Win Go.Proofs.YtooiooledeblmaaGreat.Stp Go.Proofs.YtooiooledeblmaaGreat.Mach Go.Proofs.YtooiooledeblmaaGreat.Dec Go.Proofs.YtooiooledeblmaaGreatW.PrintMore
set_option linter.unusedVariables false
set_option linter.unusedSimpArgs false
theorem mkd_uni8 (v : Value) (w : World) : (Instr.makeInterface 126 v).run Tryz.prog w = .ok (.iface 126 v) w := run_makeInterface w 126 v (by kernel_rfl)
theorem feedd_uni8 (g : Nat) (w : World) : (method 407 126 (.pointer (some ⟨g, 0, none⟩)) "Feed").run Tryz.prog w = .ok (230, .pointer (some ⟨g, 0, none⟩)) w := by kernel_rfl
theorem endd_uni8 (g : Nat) (w : World) : (method 407 126 (.pointer (some ⟨g, 0, none⟩)) "End").run Tryz.prog w = .ok (229, .pointer (some ⟨g, 0, none⟩)) w := by kernel_rfl
theorem doned_uni8 (g : Nat) (w : World) : (method 407 126 (.pointer (some ⟨g, 0, none⟩)) "Done").run Tryz.prog w = .ok (228, .pointer (some ⟨g, 0, none⟩)) w := by kernel_rfl
theorem faild_uni8 (g : Nat) (w : World) : (method 407 126 (.pointer (some ⟨g, 0, none⟩)) "Fail").run Tryz.prog w = .ok (140, .pointer (some ⟨g, 0, none⟩)) w := by kernel_rfl
attribute [local go_sem] mkd_uni8 feedd_uni8 endd_uni8 doned_uni8 faild_uni8
set_option maxRecDepth 100000 in
set_option maxHeartbeats 8000000 in
theorem decode_uni8 {c : Int} {s : ByteArray} {out : List Int} {w : World} (hnew : ∀ wx, Calls Tryz.prog 37 #[.int .i64 c] wx (NewDPost 126 230 229 s out wx)) (h0 : 0 < out.length) (hl : out.length ≤ 100000) (hs : s.size ≤ 100000) :
    Calls Tryz.prog 18 #[.int .i64 c, .string s] w (DecPost w out) := by
  have HNew := Lib.hid hnew
  clear hnew
  obtain ⟨i0, hi, hz0, hz1, hz2⟩ := info_parts info_u32
  have HN : Hid (i0.zero = some (.int .u32 0) ∧ i0.size = 1 ∧ i0.bytes = 4 ∧ Tryz.prog.info? 31 = some i0) := ⟨hz0, hz1, hz2, hi⟩
  clear hz0 hz1 hz2 hi
  go_enter Tryz.func18, Tryz.ntmps18
  go_wp2_with fail
  refine (HNew.out _).mono ?_
  rintro e w1 ⟨g, own, hown, hg, rfl, hb, hrd⟩
  obtain ⟨w0, hw0⟩ : ∃ w0, w0 = w.alloc (.cells #[.int .i64 0, .int .i64 0] 39) := ⟨_, rfl⟩
  rw [← hw0] at hown hg hb
  have hz0 : w0.heap.size = w.heap.size + 1 := by rw [hw0]; simp
  have hr0 : w0.heap[w.heap.size]? = some (.cells #[.int .i64 0, .int .i64 0] 39 (0, 0)) := by rw [hw0]; exact heap_alloc_new _ _
  have hb0 : Below w.heap.size w w0 := by rw [hw0]; exact (Below.refl _ _).alloc (Nat.le_refl _) _
  have HR1 := Lib.hid ((hb.block w.heap.size (by omega)).trans hr0)
  have HB1 := Lib.hid (hb0.trans (Below.mono hb (by omega)))
  have HOw := Lib.hid (show ∀ i, own i → w.heap.size < i ∧ i < w1.heap.size from fun i hi => by have := hown i hi; omega)
  have HRd := Lib.hid hrd
  have HG := Lib.hid (show w.heap.size < g by omega)
  clear hrd hb hw0 hz0 hr0 hb0 hown hg
  go_wp2_with fail
  go_loopw [1, 8] (fun v o wr => v = .string s ∧ o = .slice none 0 0 ∧ w1 = wr) (fun _ _ _ => 0)
  case atStart => exact ⟨rfl, rfl, rfl⟩
  case round =>
    obtain ⟨rfl, rfl, rfl⟩ := hrel
    have HFd := Lib.hid (HRd.out w1 (Below.refl _ _))
    go_wp2_with fail
    refine HFd.out.mono ?_
    rintro e w2 ⟨A, c2, rfl, hc2, ho2, hfd⟩
    obtain ⟨r, rfl⟩ : ∃ r, A = some ⟨r, 0, none⟩ := by
      rcases ho2.2 with ⟨h1, h2⟩ | ⟨g', cap, cur, h1, _⟩
      · omega
      · injection h1 with h1
        exact ⟨_, h1⟩
    have hle : out.length ≤ c2 := by
      rcases ho2.2 with ⟨h1, _⟩ | ⟨g', cap, cur, h1, _, _, h4, _⟩
      · cases h1
      · injection h1 with _ _ h1; omega
    have hm : c2 ≤ 9223372036854775807 := by
      rcases ho2.2 with ⟨h1, _⟩ | ⟨g', cap, cur, h1, _, _, h4, h5, _⟩
      · cases h1
      · injection h1 with _ _ h1; unfold maxLen at h5; omega
    have HR2 := Lib.hid ((hc2.block w.heap.size (Array.getElem?_eq_some_iff.1 HR1.out).1 (fun h => by have := HOw.out _ h; omega)).trans HR1.out)
    have HB2 := Lib.hid (Chg.below HB1.out hc2 (fun i hi => by have := HOw.out i hi; omega))
    have HC2 := Lib.hid hc2.size
    have HCE := Lib.hid (ho2.cells (g := r) rfl)
    have HFe := Lib.hid hfd
    clear hc2 ho2 hfd
    go_wp2_with (at_builtin; (refine wpList_append_lies _ rfl (.tmp 28) (.tmp 29) 24 rfl w2.heap.size 31 i0 (.int .u32 0) 1 4 Tryz.underlying24 HN.out.2.2.2 HN.out.1 HN.out.2.1 HN.out.2.2.1 rfl (by decide) (.slice none 0 0) 0 [] rfl (World.ownsRow_nil _ _ _ _) ⟨r, 0, none⟩ _ _ (u32s out) rfl ?c1 ?c2 ?c3 ?c4 ?c5 ?c6 (Nat.le_refl _) _ rfl ?_; (case c1 => rw [u32s_length]; omega); (case c2 => exact HCE.out); (case c3 => intro u hu; unfold u32s at hu; rw [List.mem_map] at hu; obtain ⟨y, _, rfl⟩ := hu; rfl); (case c4 => omega); (case c5 => unfold maxLen; omega); (case c6 => omega); intro r1 c1 w3 hown3 hgrow3 hat3 hlt3; have HO3 := Lib.hid hown3; have HB23 := Lib.hid ((Below.refl _ w2).grown hgrow3 (Nat.le_refl _) (fun k hk => by simp [Value.ownBlock] at hk)); have HE := Lib.hid (HFe.out w3 HB23.out); clear hown3 hgrow3 hat3 hlt3))
    refine HE.out.mono ?_
    rintro e w4 ⟨rfl, hc4, hdn, b, hbs, hb1, hb2⟩
    have HR4 := Lib.hid ((hc4.block w.heap.size (by have := HC2.out; have := HB23.out.size; have := (Array.getElem?_eq_some_iff.1 HR2.out).1; omega) (fun h => by have := HOw.out _ h; omega)).trans ((HB23.out.block _ (Array.getElem?_eq_some_iff.1 HR2.out).1).trans HR2.out))
    have HB4 := Lib.hid (Chg.below (HB2.out.trans (Below.mono HB23.out HB2.out.size)) hc4 (fun i hi => by have := HOw.out i hi; omega))
    have HO4 := Lib.hid (own_chg HO3.out hc4 (fun i hi => by have := HOw.out i hi; have := HC2.out; omega))
    have HLt := Lib.hid (show w.heap.size < w2.heap.size from (Array.getElem?_eq_some_iff.1 HR2.out).1)
    have HDn := Lib.hid hdn
    have HFl := Lib.hid (fail_calls g b w4 hbs)
    have HBb := Lib.hid (And.intro hb1 hb2)
    clear hc4 hdn hbs hb1 hb2
    go_wp2_with fail
    go_loopw [8] (fun o wr => o = .slice (some ⟨r1, 0, none⟩) out.length c1 ∧ w4 = wr) (fun _ _ => 0)
    case atStart => exact ⟨rfl, rfl⟩
    case round =>
      obtain ⟨rfl, rfl⟩ := hrel
      go_wp2_with fail
      refine HDn.out.mono ?_
      rintro e w6 ⟨rfl, rfl⟩
      go_wp2_with fail
      refine HFl.out.mono ?_
      rintro e w7 ⟨rfl, rfl⟩
      obtain ⟨w7, hw7⟩ : ∃ w7, w7 = w4.alloc (.cells #[.int .i64 b.err, .int .i64 b.pl] 39) := ⟨_, rfl⟩
      have hw7' : w4.alloc (.cells #[.int .i64 b.err, .int .i64 b.pl] 39) = w7 := hw7.symm
      have hr7 : w7.heap[w.heap.size]? = some (.cells #[.int .i64 0, .int .i64 0] 39 (0, 0)) := by rw [hw7, Below.heap_alloc _ _ _ (Array.getElem?_eq_some_iff.1 HR4.out).1]; exact HR4.out
      have hb7 : Below w.heap.size w w7 := by rw [hw7]; exact HB4.out.alloc HB4.out.size _
      have ho7 := HO4.out.alloc (.cells #[.int .i64 b.err, .int .i64 b.pl] 39)
      rw [← hw7] at ho7
      rw [hw7']
      have c0 : w7.cell? ⟨w.heap.size, 0, none⟩ = some (.int .i64 0) := by rw [cell_of hr7]; rfl
      have c1' : w7.cell? ⟨w.heap.size, 1, none⟩ = some (.int .i64 0) := by rw [cell_of hr7]; rfl
      have f0 := frozen_of hr7 0
      have f1 := frozen_of hr7 1
      have HB7 := Lib.hid hb7
      have HO7 := Lib.hid ho7
      clear hw7 hw7' hr7 hb7 ho7
      go_wp2_with fail
      have e0 : ((w7.setCell ⟨w.heap.size, 0, none⟩ (.int .i64 b.err)).setCell ⟨w.heap.size, 1, none⟩ (.int .i64 b.pl)).cell? ⟨w.heap.size, 0, none⟩ = some (.int .i64 0) := by
        rw [World.cell?_setCell_other _ _ _ _ (by simp), World.cell?_setCell_same _ _ _ c0, HBb.out.1]
      have e1 : ((w7.setCell ⟨w.heap.size, 0, none⟩ (.int .i64 b.err)).setCell ⟨w.heap.size, 1, none⟩ (.int .i64 b.pl)).cell? ⟨w.heap.size, 1, none⟩ = some (.int .i64 0) := by
        rw [World.cell?_setCell_same (u := .int .i64 0) _ _ _ (by rw [World.cell?_setCell_other _ _ _ _ (by simp)]; exact c1'), HBb.out.2]
      refine bodyPost_ret (v := .tuple #[.slice (some ⟨r1, 0, none⟩) out.length c1, .agg #[.int .i64 0, .int .i64 0]]) (by simp [results, Tryz.results18, go_sem, e0, e1]) rfl ⟨r1, c1, rfl, ?_, (HB7.out.setCell (p := ⟨w.heap.size, 0, none⟩) (Nat.le_refl _) _).setCell (p := ⟨w.heap.size, 1, none⟩) (Nat.le_refl _) _⟩
      have ho := ownsRow_setCell_below (ownsRow_setCell_below HO7.out (a := ⟨w.heap.size, 0, none⟩) HLt.out (.int .i64 b.err)) (a := ⟨w.heap.size, 1, none⟩) HLt.out (.int .i64 b.pl)
      simp only [Nat.zero_add, List.nil_append] at ho
      exact own_weaken ho (Nat.le_of_lt HLt.out)
end Go.Proofs.YtooiooledeblmaaGreat.Dcd
end
section
namespace Go.Proofs.YtooiooledeblmaaGreat.Dcd
open Go.RowKit Go.Proofs.YtooiooledeblmaaGreat.Win Go.Proofs.YtooiooledeblmaaGreat.Stp Go.Proofs.YtooiooledeblmaaGreat.Mach Go.Proofs.YtooiooledeblmaaGreat.Dec Go.Proofs.YtooiooledeblmaaGreatW.PrintMore
set_option linter.unusedVariables false
set_option linter.unusedSimpArgs false
def asR : Unit → List Value := fun _ => [.int .i64 0, .int .u8 0, .int .u8 0, .int .u32 0]
def asN : Unit → Int → Option (Unit × List Int) := fun _ x => if x < 128 then some ((), [x]) else none
set_option maxHeartbeats 2000000 in
theorem next_ascii {w : World} {g rb : Nat} {v : Value} {b : B4} {l : List Int} (x : Int) (h : InAt 194 w g rb v b l (asR ())) (h0 : 0 ≤ x) (h1 : x < 128) (hl : l.length ≤ 100000) :
    Calls Tryz.prog 232 #[.pointer (some ⟨g, 0, none⟩), .int .u8 x] w (NextPost 194 asR g rb v b l w () [x]) := by
  have h5 : w.cell? ⟨g, 5, none⟩ = some (.int .i64 0) := h.cell 0
  have w1 : IntKind.u32.wrap x = x := by rw [IntKind.wrap_u32]; omega
  have ha := h.alloc (.cells #[.int .u32 x] 31)
  have hh := hold_calls g 4 rb v l x w.heap.size (w.alloc (.cells #[.int .u32 x] 31)) ha.c4 (ha.fz 4) ha.row ha.rbl ha.row_g (by rw [cell_of (heap_alloc_new _ _)]; rfl) (by omega)
  have HA := Lib.hid ha
  have HH := Lib.hid hh
  clear h ha hh
  go_enter Tryz.func232, Tryz.ntmps232
  go_wp2_with fail
  refine HH.out.mono ?_
  rintro e w' ⟨rfl, r, c, w2, rfl, hown, hg, hat, hr⟩
  obtain ⟨hd, hc⟩ := HA.out.hold x hown hg hr
  have HD := Lib.hid hd
  have HC := Lib.hid hc
  clear hd hc hown hg hat hr
  go_wp2_with fail
  go_ret
  exact ⟨rfl, _, HD.out, (Chg.alloc _ _).trans HC.out⟩
theorem mkd_u (v : Value) (w : World) : (Instr.makeInterface 126 v).run Tryz.prog w = .ok (.iface 126 v) w := run_makeInterface w 126 v (by kernel_rfl)
theorem dnew_u8 (w : World) : Calls Tryz.prog 70 #[] w fun e w' => e = .returned (.pointer (some ⟨w.heap.size, 0, none⟩)) ∧ InAt 194 w' w.heap.size 0 nilS b40 [] (asR ()) ∧ Below w.heap.size w w' := by
  go_enter Tryz.func70, Tryz.ntmps70
  go_wp2
  go_ret
  exact ⟨rfl, ⟨heap_alloc_new _ _, World.ownsRow_nil _ _ _ _, fun _ => rfl, Nat.zero_le _, by decide⟩, (Below.refl _ _).alloc (Nat.le_refl _) _⟩
theorem dend_ascii {w : World} {g : Nat} {b : B4} (h : InAt 194 w g 0 nilS b [] (asR ())) (hb : b.going = true) :
    Calls Tryz.prog 229 #[.pointer (some ⟨g, 0, none⟩)] w fun e w' => e = .returned (.tuple #[]) ∧ InAt 194 w' g 0 nilS { b with fin := true } [] (asR ()) ∧ Chg (IS g nilS) w w' := by
  have h5 : w.cell? ⟨g, 5, none⟩ = some (.int .i64 0) := h.cell 0
  have HE := Lib.hid (bend_in h hb)
  clear h hb
  go_enter Tryz.func229, Tryz.ntmps229
  go_wp2_with fail
  refine HE.out.mono ?_
  rintro e w1 ⟨rfl, hd, hc⟩
  have HD := Lib.hid hd
  have HC := Lib.hid hc
  clear hd hc
  go_wp2_with fail
  go_end0
  exact ⟨rfl, HD.out, HC.out⟩
section
attribute [local go_sem] mkd_u
theorem dnew_1 {s : ByteArray} {out : List Int} (hs : s.size ≤ 4000) (hst : stepsR asN () (byt s) = some ((), out)) (w : World) :
    Calls Tryz.prog 37 #[.int .i64 1] w (NewDPost 126 230 229 s out w) := by
  go_enter Tryz.func37, Tryz.ntmps37
  go_wp2_with fail
  refine (dnew_u8 _).mono ?_
  rintro e w1 ⟨rfl, hd, hb⟩
  go_wp2_with fail
  go_ret2
  refine ⟨w.heap.size, IS w.heap.size nilS, ?_, Nat.le_refl _, rfl, hb, ?_⟩
  · intro i hi
    have := hd.lt
    rcases hi with hi | hi
    · omega
    · simp [Value.ownBlock] at hi
  · intro wy hy
    have hdy := hd.keep hy.size (hy.block _ hd.lt) (fun k hk => by simp [Value.ownBlock] at hk)
    refine (dfeed_uni8 (rest := asR) (N := asN) (I := fun _ => True) s 4096 hdy trivial ?_ ?_ hst hs rfl).mono ?_
    · intro r r2 x em w rb v b l _ hh x0 x1 hl hn
      unfold asN at hn
      split at hn
      · simp only [Option.some.injEq, Prod.mk.injEq] at hn
        obtain ⟨_, rfl⟩ := hn
        exact next_ascii x hh x0 (by assumption) hl
      · cases hn
    · intro r r2 x em _ x0 x1 hn
      unfold asN at hn
      split at hn
      · simp only [Option.some.injEq, Prod.mk.injEq] at hn
        obtain ⟨_, rfl⟩ := hn
        exact ⟨trivial, by simp⟩
      · cases hn
    rintro e w2 ⟨A, c, rfl, hd2, hc2, ho2⟩
    refine ⟨A, c, rfl, hc2, ho2, ?_⟩
    intro w3 h3
    have hd3 := hd2.keep h3.size (h3.block _ hd2.lt) (fun k hk => by simp [Value.ownBlock] at hk)
    refine (dend_ascii hd3 rfl).mono ?_
    rintro e w4 ⟨rfl, hd4, hc4⟩
    exact ⟨rfl, hc4, done_in hd4 rfl, _, hd4.base, rfl, rfl⟩
end
theorem decode_A (w : World) : Calls Tryz.prog 18 #[.int .i64 1, .string (strOfNums [65])] w (DecPost w [65]) :=
  decode_uni8 (dnew_1 (by decide) (by decide +kernel)) (by decide) (by decide) (by decide)
end Go.Proofs.YtooiooledeblmaaGreat.Dcd
end
section
namespace Go.Proofs.YtooiooledeblmaaGreat.Out
open Go.RowKit Go.Proofs.YtooiooledeblmaaGreat.Win Go.Proofs.YtooiooledeblmaaGreat.Stp Go.Proofs.YtooiooledeblmaaGreatW.PrintMore
set_option linter.unusedVariables false
set_option linter.unusedSimpArgs false
attribute [local go_sem] max2_int min2_int max_two min_two
def outCells (b : B4) (l : List Int) (rs : List Value) : Array Value := (.int .i64 b.at_ :: .int .i64 b.err :: .int .i64 b.pl :: .bool b.fin :: .string (strOfNums l) :: rs).toArray
structure OutAt (T : TypeId) (w : World) (g : Nat) (b : B4) (l : List Int) (rs : List Value) : Prop where
  blk : w.heap[g]? = some (.cells (outCells b l rs) T (0, 0))
section
variable {T : TypeId} {w : World} {g : Nat} {b : B4} {l : List Int} {rs : List Value}
theorem OutAt.base (h : OutAt T w g b l rs) : BaseAt w g b := ⟨by rw [cell_of h.blk]; rfl, by rw [cell_of h.blk]; rfl, by rw [cell_of h.blk]; rfl, by rw [cell_of h.blk]; rfl, frozen_of h.blk⟩
theorem OutAt.fz (h : OutAt T w g b l rs) : ∀ j, w.frozen? ⟨g, j, none⟩ = false := frozen_of h.blk
theorem OutAt.c4 (h : OutAt T w g b l rs) : w.cell? ⟨g, 4, none⟩ = some (.string (strOfNums l)) := by rw [cell_of h.blk]; rfl
theorem OutAt.c5 {v : Value} (h : OutAt T w g b l (v :: rs)) : w.cell? ⟨g, 5, none⟩ = some v := by rw [cell_of h.blk]; rfl
theorem OutAt.lt (h : OutAt T w g b l rs) : g < w.heap.size := (Array.getElem?_eq_some_iff.1 h.blk).1
theorem OutAt.keep {w' : World} (h : OutAt T w g b l rs) (h0 : w'.heap[g]? = w.heap[g]?) : OutAt T w' g b l rs := ⟨h0.trans h.blk⟩
theorem OutAt.alloc (h : OutAt T w g b l rs) (o : Obj) : OutAt T (w.alloc o) g b l rs := h.keep (Below.heap_alloc w o g h.lt)
theorem OutAt.below {w' : World} (h : OutAt T w g b l rs) (hb : Below w.heap.size w w') : OutAt T w' g b l rs := h.keep (hb.block g h.lt)
theorem OutAt.drewN (h : OutAt T w g b l rs) (n : Nat) : OutAt T (w.drewN n) g b l rs := h.keep rfl
theorem OutAt.set (h : OutAt T w g b l rs) (j : Nat) (v : Value) {b' : B4} {l' : List Int} {rs' : List Value} (he : (outCells b l rs).setIfInBounds j v = outCells b' l' rs') : OutAt T (w.setCell ⟨g, j, none⟩ v) g b' l' rs' := by
  refine ⟨?_⟩
  rw [heap_setCell_same w g j _ _ _ h.blk, he]
theorem OutAt.setAt (h : OutAt T w g b l rs) (n : Int) : OutAt T (w.setCell ⟨g, 0, none⟩ (.int .i64 n)) g { b with at_ := n } l rs := h.set 0 _ (by simp [outCells])
theorem OutAt.setFin (h : OutAt T w g b l rs) (f : Bool) : OutAt T (w.setCell ⟨g, 3, none⟩ (.bool f)) g { b with fin := f } l rs := h.set 3 _ (by simp [outCells])
theorem OutAt.setStr (h : OutAt T w g b l rs) (l' : List Int) : OutAt T (w.setCell ⟨g, 4, none⟩ (.string (strOfNums l'))) g b l' rs := h.set 4 _ (by simp [outCells])
theorem OutAt.set5 {v : Value} (h : OutAt T w g b l (v :: rs)) (v' : Value) : OutAt T (w.setCell ⟨g, 5, none⟩ v') g b l (v' :: rs) := h.set 5 _ (by simp [outCells])
end
/-- One block alone may turn. -/
def ES (g : Nat) : Nat → Prop := fun i => i = g
theorem es_g {g : Nat} {w : World} (j : Nat) (v : Value) : Chg (ES g) w (w.setCell ⟨g, j, none⟩ v) := Chg.set (S := ES g) w rfl j v
theorem str_append (a b : List Int) : strOfNums a ++ strOfNums b = strOfNums (a ++ b) := by
  have : (strOfNums a ++ strOfNums b).data = (strOfNums (a ++ b)).data := by
    rw [ByteArray.data_append]
    simp [strOfNums]
  cases h1 : (strOfNums a ++ strOfNums b)
  cases h2 : strOfNums (a ++ b)
  rw [h1, h2] at this
  simp only at this
  rw [this]
theorem str_size (a : List Int) : (strOfNums a).size = a.length := by simp [strOfNums, ByteArray.size]
theorem str_extract (l : List Int) (a b : Nat) : (strOfNums l).extract a b = strOfNums ((l.drop a).take (b - a)) := by
  have : ((strOfNums l).extract a b).data = (strOfNums ((l.drop a).take (b - a))).data := by
    rw [ByteArray.data_extract]
    simp [strOfNums, List.extract_eq_take_drop]
  cases h1 : (strOfNums l).extract a b
  cases h2 : strOfNums ((l.drop a).take (b - a))
  rw [h1, h2] at this
  simp only at this
  rw [this]
def isB (c : Int) : Bool := decide (c ≤ 1114111) && (decide (c < 55296) || decide (57343 < c))
theorem isB_iff {c : Int} : isB c = true ↔ c ≤ 1114111 ∧ (c < 55296 ∨ 57343 < c) := by unfold isB; simp
theorem sis_calls (c : Int) (w : World) : Calls Tryz.prog 77 #[.int .u32 c] w fun e w' => e = .returned (.bool (isB c)) ∧ w = w' := by
  unfold isB
  by_cases h1 : c ≤ 1114111
  · by_cases h2 : c < 55296
    · rw [decide_eq_true h1, decide_eq_true h2]
      go_enter Tryz.func77, Tryz.ntmps77
      go_wp2
      go_ret
      exact ⟨rfl, rfl⟩
    · rw [decide_eq_true h1, decide_eq_false h2]
      go_enter Tryz.func77, Tryz.ntmps77
      go_wp2
      go_ret
      exact ⟨rfl, rfl⟩
  · rw [decide_eq_false h1]
    go_enter Tryz.func77, Tryz.ntmps77
    go_wp2
    go_ret
    exact ⟨rfl, rfl⟩
section
variable {T : TypeId} {w : World} {g : Nat} {b : B4} {l : List Int} {rs : List Value}
/-- What waits fits: all of it is given. -/
theorem give_calls (room : Int) (h : OutAt T w g b l rs) (hl : l.length ≤ 1000000) (hr : (l.length : Int) ≤ room) : Calls Tryz.prog 144 #[.pointer (some ⟨g, 4, none⟩), .int .i64 room] w fun e w' => e = .returned (.string (strOfNums l)) ∧ OutAt T w' g b [] rs ∧ Chg (ES g) w w' := by
  have h4 := h.c4
  have f4 := h.fz 4
  have hst := h.setStr []
  have s1 := str_size l
  have e1 := str_extract l 0 l.length
  have e2 := str_extract l l.length l.length
  rw [← s1] at e1 e2
  have t1 : (l.drop 0).take ((strOfNums l).size - 0) = l := by rw [s1]; simp
  have t2 : (l.drop (strOfNums l).size).take ((strOfNums l).size - (strOfNums l).size) = [] := by simp
  rw [t1] at e1
  rw [t2] at e2
  have hsz : (strOfNums l).size ≤ 1000000 := by omega
  have hrm : ((strOfNums l).size : Int) ≤ room := by omega
  have HS := Lib.hid hst
  obtain ⟨Z, hZ⟩ : ∃ Z, Z = strOfNums [] := ⟨_, rfl⟩
  rw [← hZ] at e2
  have HZ := Lib.hid hZ
  clear h hst t1 t2 s1 hl hr hZ
  generalize strOfNums l = A at *
  have hnn : (if (if room < 0 then 0 else room) < (A.size : Int) then (if room < 0 then 0 else room) else (A.size : Int)) = A.size := by repeat' (first | omega | split)
  have HN := Lib.hid hnn
  clear hnn
  go_enter Tryz.func144, Tryz.ntmps144
  go_upto_region 1 with fail
  go_cut [5] (fun v wx => v = .int .i64 (A.size : Int) ∧ w = wx)
  case first =>
    go_wp2_with fail
    all_goals
      go_meet
      refine ⟨?_, rfl⟩
      congr 1
      repeat' (first | omega | split)
  case rest =>
    obtain ⟨rfl, rfl⟩ := hcut
    go_wp2_with fail
    go_ret
    refine ⟨rfl, ?_, es_g 4 _⟩
    have := HS.out
    rw [show strOfNums [] = ByteArray.empty from rfl] at this
    exact this
theorem kept_calls (h : OutAt T w g b l rs) (hl : l.length ≤ 1000000) : Calls Tryz.prog 142 #[.pointer (some ⟨g, 4, none⟩)] w fun e w' => e = .returned (.int .i64 l.length) ∧ w = w' := by
  have h4 := h.c4
  have s1 := str_size l
  generalize strOfNums l = A at *
  clear h
  rw [← s1] at hl ⊢
  clear s1
  go_enter Tryz.func142, Tryz.ntmps142
  go_wp2
  go_ret
  exact ⟨rfl, rfl⟩
theorem keep_calls (xs : List Int) (h : OutAt T w g b l rs) (hl : l.length ≤ 1000000) (hx : xs.length ≤ 1000000) : Calls Tryz.prog 146 #[.pointer (some ⟨g, 4, none⟩), .string (strOfNums xs)] w fun e w' => e = .returned (.tuple #[]) ∧ OutAt T w' g b (l ++ xs) rs ∧ Chg (ES g) w w' := by
  have h4 := h.c4
  have f4 := h.fz 4
  have HS := Lib.hid (h.setStr (l ++ xs))
  have HA := Lib.hid (str_append l xs)
  have s1 := str_size l
  have s2 := str_size xs
  rw [← s1] at hl
  rw [← s2] at hx
  clear h s1 s2
  generalize strOfNums l = A at *
  generalize strOfNums xs = X at *
  go_enter Tryz.func146, Tryz.ntmps146
  go_wp2
  go_end0
  refine ⟨rfl, ?_, es_g 4 _⟩
  rw [HA.out]
  exact HS.out
theorem oend_calls (h : OutAt T w g b l rs) (hg : b.going = true) : Calls Tryz.prog 139 #[.pointer (some ⟨g, 0, none⟩)] w fun e w' => e = .returned (.tuple #[]) ∧ OutAt T w' g { b with fin := true } l rs ∧ Chg (ES g) w w' := by
  refine (bend_calls g b w h.base).mono ?_
  rintro e w' ⟨rfl, rfl⟩
  rw [if_pos hg]
  exact ⟨rfl, h.setFin true, es_g 3 _⟩
theorem odone_calls (h : OutAt T w g b l rs) (hl : l.length ≤ 1000000) : Calls Tryz.prog 138 #[.pointer (some ⟨g, 0, none⟩)] w fun e w' => e = .returned (.bool (!b.going && (l.length == 0))) ∧ w = w' := by
  have hgo := Lib.hid (going_calls g b w h.base)
  have hke := Lib.hid (kept_calls h hl)
  clear h
  cases hg : b.going with
  | true =>
    rw [hg] at hgo
    clear hg
    go_enter Tryz.func138, Tryz.ntmps138
    go_wp2_with fail
    refine hgo.out.mono ?_
    rintro e w1 ⟨rfl, rfl⟩
    go_wp2_with fail
    go_ret
    exact ⟨rfl, rfl⟩
  | false =>
    rw [hg] at hgo
    clear hg
    go_enter Tryz.func138, Tryz.ntmps138
    go_wp2_with fail
    refine hgo.out.mono ?_
    rintro e w1 ⟨rfl, rfl⟩
    go_wp2_with fail
    refine hke.out.mono ?_
    rintro e w1 ⟨rfl, rfl⟩
    go_wp2_with fail
    go_ret
    refine ⟨?_, rfl⟩
    have : ((l.length : Int) == 0) = (l.length == 0) := by rw [Bool.eq_iff_iff]; simp
    simp [this]
end
end Go.Proofs.YtooiooledeblmaaGreat.Out
end
section
namespace Go.Proofs.YtooiooledeblmaaGreat.Out
open Go.RowKit Go.Proofs.YtooiooledeblmaaGreat.Win Go.Proofs.YtooiooledeblmaaGreat.Stp Go.Proofs.YtooiooledeblmaaGreatW.PrintMore
set_option linter.unusedVariables false
set_option linter.unusedSimpArgs false
theorem andNot127 (c : Nat) (h : c < 4294967296) : c &&& 4294967168 = c / 128 * 128 := by
  have e1 : (4294967168 : Nat) = (2 ^ 25 - 1) <<< 7 := by decide
  have e2 : c / 128 * 128 = (c >>> 7) <<< 7 := by rw [Nat.shiftRight_eq_div_pow, Nat.shiftLeft_eq]
  apply Nat.eq_of_testBit_eq
  intro i
  rw [Nat.testBit_and, e1, e2, Nat.testBit_shiftLeft, Nat.testBit_shiftLeft, Nat.testBit_two_pow_sub_one, Nat.testBit_shiftRight]
  by_cases h7 : 7 ≤ i
  · have e3 : 7 + (i - 7) = i := by omega
    rw [e3]
    by_cases h32 : i < 32
    · simp [h7, show i - 7 < 25 by omega]
    · have : c.testBit i = false := Nat.testBit_lt_two_pow (Nat.lt_of_lt_of_le h (Nat.pow_le_pow_right (n := 2) (i := 32) (by decide) (by omega)))
      simp [this]
  · simp [h7]
theorem andNot_int (c : Int) (h0 : 0 ≤ c) (h1 : c < 4294967296) : bits .andNot .u32 c 127 = c / 128 * 128 := by
  rw [u32_andNot c 127 h0 h1 (by decide) (by decide)]
  have := andNot127 c.toNat (by omega)
  simp only [show (127 : Int).toNat = 127 from rfl, show 4294967295 - 127 = 4294967168 from rfl]
  rw [this]
  omega
def prevC (c : Int) : Int := if 12352 ≤ c ∧ c ≤ 12447 then 12400 else if 19968 ≤ c ∧ c ≤ 40869 then 30481 else if 44032 ≤ c ∧ c ≤ 55203 then 49617 else c / 128 * 128 + 64
theorem prev_calls (c : Int) (w : World) (h0 : 0 ≤ c) (h1 : c ≤ 1114111) : Calls Tryz.prog 194 #[.int .u32 c] w fun e w' => e = .returned (.int .u32 (prevC c)) ∧ w = w' := by
  have ha := Lib.hid (andNot_int c h0 (by omega))
  unfold prevC
  by_cases a1 : 12352 ≤ c
  · by_cases a2 : c ≤ 12447
    · rw [if_pos ⟨a1, a2⟩]
      go_enter Tryz.func194, Tryz.ntmps194
      go_wp2
      go_ret
      exact ⟨rfl, rfl⟩
    · rw [if_neg (by omega)]
      by_cases b1 : 19968 ≤ c
      · by_cases b2 : c ≤ 40869
        · rw [if_pos ⟨b1, b2⟩]
          go_enter Tryz.func194, Tryz.ntmps194
          go_wp2
          go_ret
          exact ⟨rfl, rfl⟩
        · rw [if_neg (by omega)]
          by_cases c1 : 44032 ≤ c
          · by_cases c2 : c ≤ 55203
            · rw [if_pos ⟨c1, c2⟩]
              go_enter Tryz.func194, Tryz.ntmps194
              go_wp2
              go_ret
              exact ⟨rfl, rfl⟩
            · rw [if_neg (by omega)]
              go_enter Tryz.func194, Tryz.ntmps194
              go_wp2
              go_ret
              exact ⟨by simp only [ha.out]; simp; omega, rfl⟩
          · rw [if_neg (by omega)]
            go_enter Tryz.func194, Tryz.ntmps194
            go_wp2
            go_ret
            exact ⟨by simp only [ha.out]; simp; omega, rfl⟩
      · have c1 : ¬ 44032 ≤ c := by omega
        rw [if_neg (by omega), if_neg (by omega)]
        go_enter Tryz.func194, Tryz.ntmps194
        go_wp2
        go_ret
        exact ⟨by simp only [ha.out]; simp; omega, rfl⟩
  · have b1 : ¬ 19968 ≤ c := by omega
    have c1 : ¬ 44032 ≤ c := by omega
    rw [if_neg (by omega), if_neg (by omega), if_neg (by omega)]
    go_enter Tryz.func194, Tryz.ntmps194
    go_wp2
    go_ret
    exact ⟨by simp only [ha.out]; simp; omega, rfl⟩
def placeC (d : Int) : Int × Int × Nat :=
  if -64 ≤ d ∧ d ≤ 63 then (0, 144 + d, 0) else if 187659 < d then (d - 187660, 254, 3) else if 10512 < d then (d - 10513, 251, 2) else if 63 < d then (d - 64, 208, 1)
  else if d < -187660 then (d + 187660, 34, 3) else if d < -10513 then (d + 10513, 37, 2) else (d + 64, 80, 1)
theorem place_calls (d : Int) (w : World) (h0 : -1114111 ≤ d) (h1 : d ≤ 1114111) :
    Calls Tryz.prog 195 #[.int .i64 d] w fun e w' => e = .returned (.tuple #[.int .i64 (placeC d).1, .int .i64 (placeC d).2.1, .int .i64 (placeC d).2.2]) ∧ w = w' := by
  unfold placeC
  by_cases a1 : -64 ≤ d
  · by_cases a2 : d ≤ 63
    · rw [if_pos ⟨a1, a2⟩]
      go_enter Tryz.func195, Tryz.ntmps195
      go_wp2
      go_ret3
      exact ⟨by first | rfl | (simp; omega), rfl⟩
    · rw [if_neg (by omega)]
      by_cases b1 : 187659 < d
      · rw [if_pos b1]
        go_enter Tryz.func195, Tryz.ntmps195
        go_wp2
        go_ret3
        exact ⟨by first | rfl | (simp; omega), rfl⟩
      · rw [if_neg b1]
        by_cases b2 : 10512 < d
        · rw [if_pos b2]
          go_enter Tryz.func195, Tryz.ntmps195
          go_wp2
          go_ret3
          exact ⟨by first | rfl | (simp; omega), rfl⟩
        · have b3 : 63 < d := by omega
          rw [if_neg b2, if_pos b3]
          go_enter Tryz.func195, Tryz.ntmps195
          go_wp2
          go_ret3
          exact ⟨by first | rfl | (simp; omega), rfl⟩
  · have b1 : ¬ 187659 < d := by omega
    have b2 : ¬ 10512 < d := by omega
    have b3 : ¬ 63 < d := by omega
    rw [if_neg (by omega), if_neg b1, if_neg b2, if_neg b3]
    by_cases c1 : d < -187660
    · rw [if_pos c1]
      go_enter Tryz.func195, Tryz.ntmps195
      go_wp2
      go_ret3
      exact ⟨by first | rfl | (simp; omega), rfl⟩
    · rw [if_neg c1]
      by_cases c2 : d < -10513
      · rw [if_pos c2]
        go_enter Tryz.func195, Tryz.ntmps195
        go_wp2
        go_ret3
        exact ⟨by first | rfl | (simp; omega), rfl⟩
      · rw [if_neg c2]
        go_enter Tryz.func195, Tryz.ntmps195
        go_wp2
        go_ret3
        exact ⟨by first | rfl | (simp; omega), rfl⟩
def byteC (v : Int) : Int := if 20 ≤ v then v + 13 else if 16 ≤ v then v + 12 else if 6 ≤ v then v + 10 else v + 1
theorem byte_calls (v : Int) (w : World) (h0 : 0 ≤ v) (h1 : v < 243) : Calls Tryz.prog 196 #[.int .i64 v] w fun e w' => e = .returned (.tuple #[.int .u8 (byteC v), .bool true]) ∧ w = w' := by
  have k0 : ¬ v < 0 := by omega
  have k1 : ¬ 243 ≤ v := by omega
  unfold byteC
  by_cases a1 : 20 ≤ v
  · rw [if_pos a1]
    go_enter Tryz.func196, Tryz.ntmps196
    go_wp2
    go_ret2
    exact ⟨by first | rfl | (simp; omega), rfl⟩
  · rw [if_neg a1]
    by_cases a2 : 16 ≤ v
    · rw [if_pos a2]
      go_enter Tryz.func196, Tryz.ntmps196
      go_wp2
      go_ret2
      exact ⟨by first | rfl | (simp; omega), rfl⟩
    · rw [if_neg a2]
      by_cases a3 : 6 ≤ v
      · rw [if_pos a3]
        go_enter Tryz.func196, Tryz.ntmps196
        go_wp2
        go_ret2
        exact ⟨by first | rfl | (simp; omega), rfl⟩
      · rw [if_neg a3]
        go_enter Tryz.func196, Tryz.ntmps196
        go_wp2
        go_ret2
        exact ⟨by first | rfl | (simp; omega), rfl⟩
/-- Trail bytes, the last ones of so many. -/
def digs (L : Int) : Nat → List Int
  | 0 => []
  | j + 1 => byteC (L / 243 ^ j % 243) :: digs L j
theorem digs_length (L : Int) : ∀ j, (digs L j).length = j
  | 0 => rfl
  | j + 1 => by unfold digs; rw [List.length_cons, digs_length L j]
def packC (d : Int) : List Int := ((placeC d).2.1 + (placeC d).1 / 243 ^ (placeC d).2.2) :: digs (placeC d).1 (placeC d).2.2
theorem place_rng {d : Int} (h0 : -1114111 ≤ d) (h1 : d ≤ 1114111) : (placeC d).2.2 ≤ 3 ∧ -1200000 ≤ (placeC d).1 ∧ (placeC d).1 ≤ 1200000 ∧ 33 ≤ (placeC d).2.1 + (placeC d).1 / 243 ^ (placeC d).2.2 ∧ (placeC d).2.1 + (placeC d).1 / 243 ^ (placeC d).2.2 ≤ 254 := by
  unfold placeC
  repeat' split
  all_goals
    simp only
    refine ⟨by omega, by omega, by omega, ?_, ?_⟩ <;> omega
def u8s (xs : List Int) : List Value := xs.map fun x => .int .u8 x
theorem pow_succ' (x : Int) (j : Nat) : x / 243 ^ (j + 1) = x / 243 ^ j / 243 := by
  rw [Int.pow_succ, Int.ediv_ediv_of_nonneg (Int.pow_nonneg (by decide))]
theorem div_le {x : Int} {B : Int} (h0 : -B ≤ x) (h1 : x ≤ B) (hB : 0 ≤ B) : ∀ j : Nat, -B ≤ x / 243 ^ j ∧ x / 243 ^ j ≤ B
  | 0 => by simp; omega
  | j + 1 => by
    have := div_le h0 h1 hB j
    rw [pow_succ']
    omega
theorem trunc_pos {x : Int} (h : 0 ≤ x) : Int.tmod x 243 = x % 243 ∧ Int.tdiv x 243 = x / 243 := ⟨Int.tmod_eq_emod_of_nonneg h, Int.tdiv_eq_ediv_of_nonneg h⟩
theorem trunc_neg {x : Int} (h : x < 0) : (x % 243 = 0 → Int.tmod x 243 = 0 ∧ Int.tdiv x 243 = x / 243) ∧ (x % 243 ≠ 0 → Int.tmod x 243 = x % 243 - 243 ∧ Int.tdiv x 243 = x / 243 + 1) := by
  have h1 : Int.tdiv x 243 = -((-x) / 243) := by
    have : x = -(-x) := by omega
    rw [this, Int.neg_tdiv, Int.tdiv_eq_ediv_of_nonneg (by omega), Int.neg_neg]
  have h2 : Int.tmod x 243 = -((-x) % 243) := by
    have : x = -(-x) := by omega
    rw [this, Int.neg_tmod, Int.tmod_eq_emod_of_nonneg (by omega), Int.neg_neg]
  rw [h1, h2]
  omega
def PRel (w : World) (a t : Nat) (L : Int) (lv iv : Value) (wr : World) : Prop :=
  ∃ k j : Nat, k + j = t ∧ lv = .int .i64 (L / 243 ^ j) ∧ iv = .int .i64 k ∧ wr.heap[a]? = some (.cells (u8s (List.replicate (k + 1) 0 ++ digs L j)).toArray 5 (0, 0)) ∧ Below w.heap.size w wr
theorem pset {k : Nat} {x : Int} {D : List Int} : (u8s (List.replicate (k + 1) 0 ++ D)).toArray.setIfInBounds k (.int .u8 x) = (u8s (List.replicate k 0 ++ x :: D)).toArray := by
  have : (List.replicate (k + 1) (0 : Int) ++ D) = List.replicate k 0 ++ 0 :: D := by
    rw [List.replicate_succ', List.append_assoc]; rfl
  rw [this]
  unfold u8s
  rw [List.map_append, List.map_append, List.map_cons, List.map_cons]
  apply Array.toList_inj.1
  simp [List.set_append]
theorem make_u8 : ∀ t : Nat, t ≤ 3 → ∀ w : World, (Instr.makeSlice 68 (.int .i64 ((t : Int) + 1)) (.int .i64 ((t : Int) + 1))).run Tryz.prog w = .ok (.slice (some ⟨w.heap.size, 0, none⟩) (t + 1) (t + 1)) (w.alloc (.cells (u8s (List.replicate (t + 1) 0)).toArray 5))
  | 0, _, w => by kernel_rfl
  | 1, _, w => by kernel_rfl
  | 2, _, w => by kernel_rfl
  | 3, _, w => by kernel_rfl
  | _ + 4, h, _ => absurd h (by omega)
theorem bytes_of {w : World} {a : Nat} {l : List Int} (h : w.heap[a]? = some (.cells (u8s l).toArray 5 (0, 0))) : (convert 68 9 (.slice (some ⟨a, 0, none⟩) l.length l.length)).run Tryz.prog w = .ok (.string (strOfNums l)) w := by
  refine run_convert_bytes_arg _ _ 5 Tryz.underlying68 Tryz.underlying5 a 0 l.length l.length l rfl (fun i hi => ?_) _ Tryz.underlying9
  rw [cell_of h]
  simp [u8s, List.getD_eq_getElem?_getD, hi]
theorem dcell {w : World} {a k : Nat} {l : List Int} (h : w.heap[a]? = some (.cells (u8s l).toArray 5 (0, 0))) (hk : k < l.length) : w.cell? ⟨a, k, none⟩ = some (.int .u8 (l.getD k 0)) := by
  rw [cell_of h]
  simp [u8s, List.getD_eq_getElem?_getD, hk]
set_option maxRecDepth 100000 in
set_option maxHeartbeats 4000000 in
theorem pack_calls (d : Int) (w : World) (h0 : -1114111 ≤ d) (h1 : d ≤ 1114111) : Calls Tryz.prog 193 #[.int .i64 d] w fun e w' => e = .returned (.tuple #[.string (strOfNums (packC d)), .bool true]) ∧ Below w.heap.size w w' := by
  have hp := place_calls d w h0 h1
  obtain ⟨r1, r2, r3, r4, r5⟩ := place_rng h0 h1
  unfold packC
  generalize placeC d = pc at hp r1 r2 r3 r4 r5 ⊢
  obtain ⟨L, ld, t⟩ := pc
  simp only at hp r1 r2 r3 r4 r5 ⊢
  have k0 : ¬ d < -1114111 := by omega
  have k1 : ¬ 1114111 < d := by omega
  have hmk := make_u8 t r1
  have HP := Lib.hid hp
  have HR := Lib.hid (And.intro r4 r5)
  have HL := Lib.hid (And.intro r2 r3)
  clear hp r4 r5 r2 r3
  go_enter Tryz.func193, Tryz.ntmps193
  go_wp2_with (go_at_call 195; refine HP.out.mono ?_; rintro e w1 ⟨rfl, rfl⟩)
  go_loopw [4, 8] (fun l i wr => PRel w w.heap.size t L l i wr) (fun _ i _ => (intOf i).toNat)
  case atStart =>
    refine ⟨t, 0, by omega, by simp, rfl, ?_, (Below.refl _ _).alloc (Nat.le_refl _) _⟩
    rw [heap_alloc_new]
    simp [digs]
  case round =>
    obtain ⟨k, j, hkj, rfl, rfl, hbk, hbl⟩ := hrel
    have HBk := Lib.hid hbk
    have HBl := Lib.hid hbl
    have hxr := div_le HL.out.1 HL.out.2 (by decide) j
    have hdg : digs L (j + 1) = byteC (L / 243 ^ j % 243) :: digs L j := rfl
    have hpw := pow_succ' L j
    have hre : j = t → 33 ≤ ld + L / 243 ^ j ∧ ld + L / 243 ^ j ≤ 254 := fun h => by rw [h]; exact HR.out
    have hrs : j = t → L / 243 ^ t = L / 243 ^ j := fun h => by rw [h]
    generalize L / 243 ^ j = x at hxr hdg hpw hre hrs ⊢
    have HD := Lib.hid (And.intro hdg hpw)
    clear hbk hbl hdg hpw
    by_cases hk : k = 0
    · obtain rfl : j = t := by omega
      have HB0 := Lib.hid (show wr.heap[w.heap.size]? = some (.cells (u8s (List.replicate (0 + 1) 0 ++ digs L j)).toArray 5 (0, 0)) by have := HBk.out; rw [hk] at this; exact this)
      have hkn : ¬ (0 : Int) < (k : Int) := by omega
      obtain ⟨y0, y1⟩ := hre rfl
      have hxe := hrs rfl
      have hset : (wr.setCell ⟨w.heap.size, 0, none⟩ (.int .u8 (ld + x))).heap[w.heap.size]? = some (.cells (u8s ((ld + x) :: digs L j)).toArray 5 (0, 0)) := by
        have := pset (k := 0) (x := ld + x) (D := digs L j)
        rw [heap_setCell_same wr _ _ _ _ _ HB0.out, this]
        rfl
      have hcv := bytes_of hset
      rw [show ((ld + x) :: digs L j).length = j + 1 by rw [List.length_cons, digs_length]] at hcv
      have hfz := frozen_of HB0.out
      have hcl := dcell (k := 0) HB0.out (by rw [List.length_append, List.length_replicate]; omega)
      have HXe := Lib.hid hxe
      clear hset hre hrs hxe hmk hk HBk
      go_wp2_with fail
      go_ret2
      refine ⟨?_, HBl.out.setCell (Nat.le_refl _) _⟩
      rw [HXe.out]
      rfl
    · obtain ⟨k, rfl⟩ : ∃ n, k = n + 1 := ⟨k - 1, by omega⟩
      have hk0 : (0 : Int) < ((k + 1 : Nat) : Int) := by omega
      have hby := fun w => byte_calls (x % 243) w (by omega) (by omega)
      have HBy := Lib.hid hby
      have hfz := frozen_of HBk.out
      have hcl := dcell (k := k + 1) HBk.out (by rw [List.length_append, List.length_replicate]; omega)
      have hset : (wr.setCell ⟨w.heap.size, k + 1, none⟩ (.int .u8 (byteC (x % 243)))).heap[w.heap.size]? = some (.cells (u8s (List.replicate (k + 1) 0 ++ byteC (x % 243) :: digs L j)).toArray 5 (0, 0)) := by rw [heap_setCell_same wr _ _ _ _ _ HBk.out, pset]
      have HSet := Lib.hid hset
      have hkt : k + 1 < t + 1 := by omega
      clear hby hset hre hrs hmk
      rcases Int.lt_or_le x 0 with hx | hx
      · obtain ⟨n1, n2⟩ := trunc_neg hx
        by_cases hz : x % 243 = 0
        · obtain ⟨e1, e2⟩ := n1 hz
          rw [hz] at HBy
          have HZ := Lib.hid hz
          clear n1 n2 hz
          go_wp2_with fail
          refine (HBy.out _).mono ?_
          rintro e w1 ⟨rfl, rfl⟩
          have hz := HZ.out
          go_wp2_with fail
          go_roundw
          case rel =>
            refine ⟨k, j + 1, by omega, by rw [HD.out.2], by go_num, ?_, HBl.out.setCell (Nat.le_refl _) _⟩
            rw [HD.out.1]
            have := HSet.out
            rw [hz] at this ⊢
            exact this
          case measure => simp [intOf]
        · obtain ⟨e1, e2⟩ := n2 hz
          have e3 : x % 243 - 243 < 0 := by omega
          clear n1 n2 hz
          go_wp2_with fail
          refine (HBy.out _).mono ?_
          rintro e w1 ⟨rfl, rfl⟩
          go_wp2_with fail
          go_roundw
          case rel =>
            refine ⟨k, j + 1, by omega, by rw [HD.out.2], by go_num, ?_, HBl.out.setCell (Nat.le_refl _) _⟩
            rw [HD.out.1]
            exact HSet.out
          case measure => simp [intOf]
      · obtain ⟨e1, e2⟩ := trunc_pos hx
        have e3 : ¬ x % 243 < 0 := by omega
        go_wp2_with fail
        refine (HBy.out _).mono ?_
        rintro e w1 ⟨rfl, rfl⟩
        go_wp2_with fail
        go_roundw
        case rel =>
          refine ⟨k, j + 1, by omega, by rw [HD.out.2], by go_num, ?_, HBl.out.setCell (Nat.le_refl _) _⟩
          rw [HD.out.1]
          exact HSet.out
        case measure => simp [intOf]
end Go.Proofs.YtooiooledeblmaaGreat.Out
end
section
set_option linter.unusedVariables false
namespace Go.Proofs.YtooiooledeblmaaGreat.Open
open Go.ChangeShapes Go.WideShapes Go.RowKit Go.Proofs.YtooiooledeblmaaGreatW.PrintWords
section
variable {H : Type} {enc : TypeId × Value → H} {P : Program} {W : World} {base : Nat} {spare : Nat → Bool} {held : Bool}
/-- What is read at this type is of this kind, and good. -/
def Opens {α : Type} (enc : TypeId × Value → H) (P : Program) (W : World) (base : Nat) (spare : Nat → Bool) (held : Bool) (d : Kd α) (e : TypeId) (good : α → Prop) : Prop :=
  ∀ fuel cs x, cs.length = d.sz → DataW.trod enc P W base spare held fuel e cs = some x → ∃ y, d.K W y cs ∧ good y
theorem opens_int {k : IntKind} {e : TypeId} (he : P.underlying e = some (.int k)) : Opens enc P W base spare held (Kd.int k) e (fun n => (Lit.int k n).wf = true) := by
  intro fuel cs x _ h
  obtain ⟨n, rfl, _, hw⟩ := DataW.trod_int he h
  exact ⟨n, rfl, hw⟩
theorem opens_cells {α : Type} {d : Kd α} {e : TypeId} {good : α → Prop} (ho : Opens enc P W base spare held d e good) (hc : P.cellsOf e = d.sz) {a : Addr} {m n : Nat} {D : Nat → DataW H} {Pl : Nat → List MemPlace}
    (h : ∀ i, i < m → ∃ cs', W.cells? base (a.add (i * P.cellsOf e)) (P.cellsOf e) = some cs' ∧ DataW.trod enc P W base spare held n e cs' = some (D i, Pl i)) :
    ∀ len, len ≤ m → ∃ l : List α, l.length = len ∧ (∀ j p, l[j]? = some p → ∃ c, c.length = d.sz ∧ d.K W p c ∧ ∀ i u, c[i]? = some u → W.cell? (a.add (j * d.sz + i)) = some u) ∧ ∀ x ∈ l, good x
  | 0, _ => ⟨[], rfl, fun j p hj => by simp at hj, fun x hx => by cases hx⟩
  | len + 1, hl => by
    obtain ⟨l, h1, h2, h3⟩ := opens_cells ho hc h len (by omega)
    obtain ⟨cs', hcs, ht⟩ := h len (by omega)
    obtain ⟨_, hlen, hcell⟩ := World.cells?_some hcs
    obtain ⟨y, hy, hg⟩ := ho _ _ _ (by omega) ht
    refine ⟨l ++ [y], by simp [h1], fun j p hj => ?_, fun x hx => ?_⟩
    · rcases Nat.lt_or_ge j l.length with hjl | hjl
      · rw [List.getElem?_append_left hjl] at hj
        exact h2 j p hj
      · have hjl' : j = l.length := by
          have := (List.getElem?_eq_some_iff.1 hj).1
          simp at this
          omega
        subst hjl'
        have hp : y = p := by simpa using hj
        subst hp
        refine ⟨cs', by omega, hy, fun i u hu => ?_⟩
        have hi : i < cs'.length := (List.getElem?_eq_some_iff.1 hu).1
        have := hcell i (by omega)
        rw [Deep.add_add, hc] at this
        rw [h1, this, hu]
    · rcases List.mem_append.1 hx with hx | hx
      · exact h3 x hx
      · rw [List.mem_singleton.1 hx]; exact hg
theorem opens_row {α : Type} {d : Kd α} {t e : TypeId} {good : α → Prop} (ht : P.underlying t = some (.slice e)) (hc : P.cellsOf e = d.sz) (ho : Opens enc P W base spare held d e good) {fuel : Nat} {cs : List Value} {x : DataW H × List MemPlace}
    (h : DataW.trod enc P W base spare held fuel t cs = some x) : ∃ (A : Option Addr) (c : Nat) (l : List α), cs = [.slice A l.length c] ∧ l.length ≤ c ∧ c ≤ maxLen ∧ d.C W A l.length l ∧ ∀ x ∈ l, good x := by
  rcases Deep.open_slice ht h with ⟨rfl, _⟩ | ⟨a, len, cap, m, n, D, Pl, rfl, hb, hl, hm, hmm, _, hx⟩
  · exact ⟨none, 0, [], rfl, by simp, by simp, ⟨rfl, by simp, fun hn => absurd hn (by simp)⟩, fun x hx => by cases hx⟩
  · have hlm : len ≤ m := by rw [hmm]; split <;> omega
    obtain ⟨l, h1, h2, h3⟩ := opens_cells ho hc hx len hlm
    subst h1
    exact ⟨some a, cap, l, rfl, hl, hm, ⟨rfl, by simp only [maxLen] at hm; omega, fun _ => ⟨a, rfl, h2⟩⟩, h3⟩
/-- A slice argument, opened. -/
theorem open_arg {α : Type} {d : Kd α} {t e : TypeId} {good : α → Prop} (ht : P.underlying t = some (.slice e)) (hc : P.cellsOf e = d.sz) (ho : Opens enc P W base spare held d e good) {a : Option Addr} {len cap : Nat} {y : DataW H} {ps : List MemPlace}
    (h : DataW.Trod enc P W base spare held t (.slice a len cap) y ps) : ∃ l : List α, len = l.length ∧ l.length ≤ cap ∧ l.length ≤ maxLen ∧ d.C W a l.length l ∧ ∀ x ∈ l, good x := by
  obtain ⟨fuel, hf⟩ := h
  obtain ⟨A, c, l, hcs, h1, h2, h3, h4⟩ := opens_row ht hc ho hf
  simp [Value.cells] at hcs
  obtain ⟨rfl, rfl, rfl⟩ := hcs
  exact ⟨l, rfl, h1, by omega, h3, h4⟩
end
end Go.Proofs.YtooiooledeblmaaGreat.Open
end
section
namespace Go.Proofs.YtooiooledeblmaaGreat.Lst
open Go.RowKit Go.Proofs.YtooiooledeblmaaGreat.Win Go.Proofs.YtooiooledeblmaaGreat.Stp
set_option linter.unusedVariables false
set_option linter.unusedSimpArgs false
/-- A list that is read at an address. -/
def Lst (w : World) (k : IntKind) (A : Option Addr) (xs : List Int) : Prop := ∀ j, j < xs.length → ∃ a : Addr, A = some a ∧ w.cell? (a.add j) = some (.int k (xs.getD j 0))
theorem Lst.nil (w : World) (k : IntKind) (A : Option Addr) : Lst w k A [] := fun j hj => absurd hj (Nat.not_lt_zero _)
theorem Lst.below {w w1 : World} {k : IntKind} {A : Option Addr} {xs : List Int} (h : Lst w k A xs) (hb : Below w.heap.size w w1) : Lst w1 k A xs := fun j hj => by
  obtain ⟨a, rfl, hc⟩ := h j hj
  exact ⟨a, rfl, (hb.cell (p := a.add j) (World.block_lt_of_cell? w _ hc)).trans hc⟩
theorem Lst.chg {S : Nat → Prop} {w w1 : World} {k : IntKind} {A : Option Addr} {xs : List Int} (h : Lst w k A xs) (hb : Chg S w w1) (hs : ∀ a, A = some a → ¬ S a.block) : Lst w1 k A xs := fun j hj => by
  obtain ⟨a, rfl, hc⟩ := h j hj
  refine ⟨a, rfl, ?_⟩
  have hlt := World.block_lt_of_cell? w _ hc
  have e := hb.block (a.add j).block hlt (by have := hs a rfl; unfold Addr.add; split <;> exact this)
  rw [← hc]
  unfold World.cell?
  rw [e]
theorem Lst.take {w : World} {k : IntKind} {A : Option Addr} {xs : List Int} (h : Lst w k A xs) (n : Nat) : Lst w k A (xs.take n) := fun j hj => by
  rw [List.length_take] at hj
  obtain ⟨a, rfl, hc⟩ := h j (by omega)
  refine ⟨a, rfl, hc.trans ?_⟩
  rw [List.getD_eq_getElem?_getD, List.getD_eq_getElem?_getD, List.getElem?_take_of_lt (by omega)]
theorem Lst.of_owns {w : World} {base n : Nat} {e : TypeId} {A : Option Addr} {c : Nat} {xs : List Int} (h : w.ownsRow base e 1 (.slice A n c) xs.length (u32s xs)) : Lst w .u32 A xs := fun j hj => by
  obtain ⟨r, c', hv, _, _⟩ := h.form (by omega)
  injection hv with hA _ _
  subst hA
  have hcells := h.cells (g := r) rfl
  refine ⟨_, rfl, hcells j _ ?_⟩
  unfold u32s
  rw [List.getElem?_map, List.getElem?_eq_getElem hj, List.getD_eq_getElem?_getD, List.getElem?_eq_getElem hj]
  rfl
theorem owns_form {w : World} {base n : Nat} {e : TypeId} {size : Nat} {v : Value} {xs : List Value} (h : w.ownsRow base e size v n xs) : ∃ A c, v = .slice A n c := by
  rcases h.2 with ⟨h1, h2⟩ | ⟨g', cap, cur, h1, _⟩
  · exact ⟨none, 0, by rw [h1, h2]⟩
  · exact ⟨_, _, h1⟩
def ord : List Int → List Int → Int
  | [], [] => 0
  | [], _ :: _ => -1
  | _ :: _, [] => 1
  | x :: xs, y :: ys => if x < y then -1 else if y < x then 1 else ord xs ys
theorem ord_zero : ∀ xs ys : List Int, ord xs ys = 0 ↔ xs = ys
  | [], [] => by simp [ord]
  | [], _ :: _ => by simp [ord]
  | _ :: _, [] => by simp [ord]
  | x :: xs, y :: ys => by
    have ih := ord_zero xs ys
    unfold ord
    split
    · simp; omega
    · split
      · simp; omega
      · rw [ih]; simp; omega
theorem drop_cons {xs : List Int} {k : Nat} (h : k < xs.length) : xs.drop k = xs.getD k 0 :: xs.drop (k + 1) := by
  rw [List.drop_eq_getElem_cons h, List.getD_eq_getElem?_getD, List.getElem?_eq_getElem h]; rfl
theorem ord_at (xs ys : List Int) (k : Nat) (h1 : k < xs.length) (h2 : k < ys.length) : ord (xs.drop k) (ys.drop k) = if xs.getD k 0 < ys.getD k 0 then -1 else if ys.getD k 0 < xs.getD k 0 then 1 else ord (xs.drop (k + 1)) (ys.drop (k + 1)) := by
  rw [drop_cons h1, drop_cons h2]; rfl
/-- Nothing but the order's draws. -/
def Drew (w w' : World) : Prop := ∃ n, w' = w.drewN n
theorem Drew.refl (w : World) : Drew w w := ⟨0, rfl⟩
theorem Drew.more {w w' : World} (h : Drew w w') (n : Nat) : Drew w (w'.drewN n) := by
  obtain ⟨k, rfl⟩ := h
  exact ⟨k + n, by simp [World.drewN_drewN]⟩
theorem Drew.below {w w' : World} (h : Drew w w') (B : Nat) : Below B w w' := by
  obtain ⟨k, rfl⟩ := h
  exact below_drewN (Below.refl B w) k
theorem Lst.drew {w w1 : World} {k : IntKind} {A : Option Addr} {xs : List Int} (h : Lst w k A xs) (hb : Drew w w1) : Lst w1 k A xs := h.below (hb.below _)
def OrdRel (w : World) (xs ys : List Int) (i : Value) (wr : World) : Prop := ∃ k : Nat, k ≤ xs.length ∧ k ≤ ys.length ∧ i = .int .i64 k ∧ Drew w wr ∧ ord xs ys = ord (xs.drop k) (ys.drop k)
set_option maxHeartbeats 2000000 in
theorem order_calls {w : World} {A B : Option Addr} {c d : Nat} {xs ys : List Int} (hA : Lst w .u32 A xs) (hB : Lst w .u32 B ys) (hx : xs.length ≤ 1000000) (hy : ys.length ≤ 1000000) :
    Calls Tryz.prog 11 #[.slice A xs.length c, .slice B ys.length d] w fun e w' => e = .returned (.int .i64 (ord xs ys)) ∧ Drew w w' := by
  have HA := Lib.hid hA
  have HB := Lib.hid hB
  clear hA hB
  go_enter Tryz.func11, Tryz.ntmps11
  go_wp2_with fail
  go_loopw [5] (fun i wr => OrdRel w xs ys i wr) (fun i _ => xs.length - (intOf i).toNat)
  case atStart => exact ⟨0, Nat.zero_le _, Nat.zero_le _, rfl, Drew.refl _, rfl⟩
  case round =>
    obtain ⟨k, hk1, hk2, rfl, hdr, ho⟩ := hrel
    have HD := Lib.hid hdr
    have HO := Lib.hid ho
    clear ho hdr
    by_cases h1 : k < xs.length
    · by_cases h2 : k < ys.length
      · obtain ⟨a, rfl, q1⟩ := (Lst.drew HA.out HD.out) k h1
        obtain ⟨b, rfl, q2⟩ := (Lst.drew HB.out HD.out) k h2
        have ho := HO.out
        rw [ord_at xs ys k h1 h2] at ho
        generalize xs.getD k 0 = x at q1 ho
        generalize ys.getD k 0 = y at q2 ho
        have HP := Lib.hid ho
        clear ho
        by_cases c1 : x < y
        · go_wp2_with fail
          go_quiet (fail)
          go_wp2_with fail
          go_ret
          refine ⟨?_, HD.out.more _⟩
          rw [HP.out, if_pos c1]; rfl
        · by_cases c2 : y < x
          · go_wp2_with fail
            go_quiet (fail)
            go_wp2_with fail
            go_quiet (fail)
            go_wp2_with fail
            go_ret
            refine ⟨?_, (HD.out.more _).more _⟩
            rw [HP.out, if_neg (by omega), if_pos c2]; rfl
          · go_wp2_with fail
            go_quiet (fail)
            go_wp2_with fail
            go_quiet (fail)
            go_wp2_with fail
            go_roundw
            case rel => exact ⟨k + 1, h1, h2, by go_num, HD.out.more _, by rw [HP.out, if_neg (by omega), if_neg (by omega)]⟩
            case measure => simp [intOf]; omega
      · obtain rfl : k = ys.length := by omega
        go_wp2
        go_ret
        refine ⟨?_, HD.out⟩
        rw [HO.out, drop_cons h1, List.drop_length]; rfl
    · obtain rfl : k = xs.length := by omega
      by_cases h2 : xs.length < ys.length
      · go_wp2
        go_ret
        refine ⟨?_, HD.out⟩
        rw [HO.out, drop_cons h2, List.drop_length]; rfl
      · have h3 : xs.length = ys.length := by omega
        go_wp2
        go_ret
        refine ⟨?_, HD.out⟩
        rw [HO.out, List.drop_length, h3, List.drop_length]; rfl
theorem same_calls {w : World} {A B : Option Addr} {c d : Nat} {xs ys : List Int} (hA : Lst w .u32 A xs) (hB : Lst w .u32 B ys) (hx : xs.length ≤ 1000000) (hy : ys.length ≤ 1000000) :
    Calls Tryz.prog 19 #[.slice A xs.length c, .slice B ys.length d] w fun e w' => e = .returned (.bool (decide (xs = ys))) ∧ Drew w w' := by
  have HO := Lib.hid (order_calls (c := c) (d := d) hA hB hx hy)
  clear hA hB
  go_enter Tryz.func19, Tryz.ntmps19
  go_wp2_with (go_at_call 11; refine HO.out.mono ?_; rintro e w1 ⟨rfl, hd⟩; have HD := Lib.hid hd; clear hd)
  go_ret
  refine ⟨?_, HD.out⟩
  have : (ord xs ys == 0) = decide (xs = ys) := by
    rw [Bool.eq_iff_iff]
    simp [ord_zero]
  rw [this]
  rfl
end Go.Proofs.YtooiooledeblmaaGreat.Lst
end
