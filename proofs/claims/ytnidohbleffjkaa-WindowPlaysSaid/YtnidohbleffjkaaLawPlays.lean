/- WindowPlays: in every order of calls the windows have the offsets that the reference says; every script, every number. -/
import Derived.Test.YtnidohbleffjkaaAwake
import Derived.Test.YtnidohbleffjkaaWin3
import Derived.Test.YtnidohbleffjkaaRefWin
import Derived.Test.YtnidohbleffjkaaOps
import Derived.Test.YtnidohbleffjkaaWMore
import Derived.OpenShut
import Derived.Deep.CutBlock
import Derived.Deep.DeepCutAuto
import Derived.Deep.LoopGhost
namespace Go.Proofs.Ytnidohbleffjkaa.Win
open Go.RowKit
set_option linter.unusedVariables false
set_option linter.unusedSimpArgs false
/-- The windows' numbers, each once. -/
structure Perm8 (u : List Int) : Prop where
  len : u.length = 8
  nd : u.Nodup
  rng : ∀ x ∈ u, 0 ≤ x ∧ x < 8
  all : ∀ x : Int, 0 ≤ x → x < 8 → x ∈ u
theorem perm8_0 : Perm8 used0 := by
  refine ⟨rfl, by decide +kernel, by decide +kernel, fun x h0 h1 => ?_⟩
  have : x = 0 ∨ x = 1 ∨ x = 2 ∨ x = 3 ∨ x = 4 ∨ x = 5 ∨ x = 6 ∨ x = 7 := by omega
  rcases this with rfl | rfl | rfl | rfl | rfl | rfl | rfl | rfl <;> decide +kernel
theorem perm8_touch {u : List Int} (h : Perm8 u) (n : Int) : Perm8 (wTouch u n) := by
  unfold wTouch
  split
  · rename_i hn
    have hm := h.all n hn.1 hn.2
    refine ⟨?_, ?_, ?_, ?_⟩
    · rw [List.length_append, List.length_erase_of_mem hm, h.len]; rfl
    · rw [List.nodup_append]
      refine ⟨h.nd.erase _, by simp, ?_⟩
      intro a ha b hb
      rw [List.mem_singleton] at hb
      subst hb
      rintro rfl
      exact (h.nd.not_mem_erase) ha
    · intro x hx
      rcases List.mem_append.1 hx with hx | hx
      · exact h.rng x (List.mem_of_mem_erase hx)
      · rw [List.mem_singleton] at hx; omega
    · intro x h0 h1
      by_cases hx : x = n
      · subst hx; simp
      · exact List.mem_append_left _ ((List.mem_erase_of_ne hx).2 (h.all x h0 h1))
  · exact h
/-- The reference's turn is the program's. -/
theorem touch_same {u : List Int} (h : Perm8 u) (n : Int) : rTouch u n = wTouch u n := by
  unfold rTouch wTouch
  have he := h.nd.erase_eq_filter n
  by_cases hn : 0 ≤ n ∧ n < 8
  · have hm := h.all n hn.1 hn.2
    rw [if_pos hn, ← he, if_pos (by rw [List.length_erase_of_mem hm, h.len])]
  · have hm : n ∉ u := fun hm => hn (h.rng n hm)
    rw [if_neg hn, ← he, List.erase_of_not_mem hm, h.len, if_neg (by decide)]
theorem RefAt.setO {w : World} {g go gu cu : Nat} {o u : List Int} (h : RefAt w g go gu cu o u) (j : Nat) (c : Int) : RefAt (w.setCell ⟨go, j, none⟩ (.int .u32 c)) g go gu cu (o.set j c) u := by
  obtain ⟨h1, h2, h3⟩ := h.ne
  obtain ⟨cells, hb, ht⟩ := h.used
  refine ⟨(Below.heap_setCell w _ _ g (by show g ≠ go; exact h1)).trans h.blk, h.offs.set j c, ⟨cells, (Below.heap_setCell w _ _ gu (by show gu ≠ go; exact fun e => h3 e.symm)).trans hb, ht⟩, by rw [List.length_set]; exact h.lo, h.lu, h.hc⟩
theorem find_same (c : Int) : ∀ (l : List Int) (n : Nat), (∃ k : Nat, findFrom c n l = ((k : Int), true) ∧ rFindFrom c n l = (k : Int)) ∨ (findFrom c n l = (0, false) ∧ rFindFrom c n l = -1)
  | [], n => .inr ⟨rfl, rfl⟩
  | x :: l, n => by
    simp only [findFrom, rFindFrom]
    by_cases hx : hld x c = true
    · rw [if_pos hx, if_pos hx]
      exact .inl ⟨n, rfl, rfl⟩
    · rw [if_neg hx, if_neg hx]
      exact find_same c l (n + 1)
theorem rng_set {o : List Int} (h : Rng o) (j : Nat) (c : Int) (c0 : 0 ≤ c) (c1 : c ≤ 4294967295) : Rng (o.set j c) := by
  intro x hx
  rcases List.mem_or_eq_of_mem_set hx with hx | rfl
  · exact h x hx
  · exact ⟨c0, c1⟩
/-- Both windows, one by the other. -/
structure Both (wr : World) (g gm go gu cu : Nat) (o u : List Int) : Prop where
  win : WinAt wr g o u
  ref : RefAt wr gm go gu cu o u
  perm : Perm8 u
  rng : Rng o
theorem Both.ne {wr : World} {g gm go gu cu : Nat} {o u : List Int} (h : Both wr g gm go gu cu o u) : g ≠ gm ∧ g ≠ go ∧ g ≠ gu := by
  obtain ⟨cells, hb, ht⟩ := h.ref.used
  refine ⟨?_, ?_, ?_⟩
  · rintro rfl
    have := h.win.blk.symm.trans h.ref.blk
    simp at this
  · rintro rfl
    have := h.win.blk.symm.trans h.ref.offs.blk
    simp at this
  · rintro rfl
    have := h.win.blk.symm.trans hb
    simp at this
theorem Both.heap {wr w1 : World} {g gm go gu cu : Nat} {o u : List Int} (h : Both wr g gm go gu cu o u) (he : w1.heap = wr.heap) : Both w1 g gm go gu cu o u :=
  ⟨h.win.keep (by rw [he]), h.ref.keep (by rw [he]) (by rw [he]) (by rw [he]), h.perm, h.rng⟩
def InRel (w : World) (g gm go gu cu : Nat) (o u : List Int) (i : Value) (wr : World) : Prop :=
  ∃ k : Nat, k ≤ 8 ∧ i = .int .i64 k ∧ Below w.heap.size w wr ∧ Both wr g gm go gu cu o u
def Mid (w : World) (g gm go : Nat) (wx : World) : Prop := Below w.heap.size w wx ∧ ∃ gu cu o u, w.heap.size ≤ gu ∧ Both wx g gm go gu cu o u
def PlayRel (w : World) (g gm go : Nat) (len : Nat) (i : Value) (wr : World) : Prop :=
  ∃ k : Nat, k ≤ len ∧ i = .int .i64 k ∧ Below w.heap.size w wr ∧ ∃ gu cu o u, w.heap.size ≤ gu ∧ Both wr g gm go gu cu o u
/-- A call: what both become. -/
def playO (o : List Int) (k n c : Int) : List Int := if k = 1 ∧ 0 ≤ n ∧ n < 8 then o.set n.toNat c else o
open Go.Proofs.YtnidohbleffjkaaW.PrintMore in
attribute [local go_sem] max2_int min2_int max_two min_two
set_option maxRecDepth 100000 in
set_option maxHeartbeats 4000000 in
theorem windowPlays_calls (A : Option Addr) (cap : Nat) (l : List OpV) (c : Int) (w : World) (hl : l.length ≤ cap) (hm : l.length ≤ maxLen) (hr : kOp.C w A l.length l) (hg : ∀ x ∈ l, opGood x) (c0 : 0 ≤ c) (c1 : c ≤ 4294967295) :
    Calls Try.prog 7 #[.slice A l.length cap, .int .u32 c] w fun e w' => e = .returned (.bool true) ∧ Below w.heap.size w w' := by
  have HA := Lib.hid (fun w : World => pilcrowlaw13_awake.calls true w rfl)
  have HR := Lib.hid hr
  have HG := Lib.hid hg
  unfold maxLen at hm
  clear hr hg
  by_cases hbig : l.length ≤ 300
  · go_enter Try.func7, Try.ntmps7
    go_wp2_with fail
    refine (HA.out _).mono ?_
    rintro e w1 ⟨rfl, hB⟩
    have B1 := Lib.hid hB
    clear hB
    go_wp2_with fail
    refine (new_calls _).mono ?_
    rintro e w2 ⟨rfl, hW, hC, hz⟩
    have HW := Lib.hid hW
    have B2 := Lib.hid (Chg.below B1.out hC (fun i hi => hi.elim))
    obtain ⟨g, hgg⟩ : ∃ g, g = w1.heap.size := ⟨_, rfl⟩
    have hgw : w.heap.size ≤ g := hgg ▸ B1.out.size
    rw [← hgg] at HW
    rw [← hgg]
    clear hW hC hgg hz
    go_wp2_with fail
    refine (rnew_calls _).mono ?_
    rintro e w3 ⟨rfl, hRf, hB, hz⟩
    have hW3 := HW.out.keep (hB.block g HW.out.lt)
    have B3 := Lib.hid (B2.out.trans ((hB.mono B2.out.size : Below w.heap.size _ _)))
    obtain ⟨go, hgo⟩ : ∃ go, go = w2.heap.size := ⟨_, rfl⟩
    have hgow : w.heap.size ≤ go := hgo ▸ B2.out.size
    rw [← hgo] at hRf
    rw [← hgo]
    have hboth : Both w3 g (go + 2) go (go + 1) 8 firsts used0 := ⟨hW3, hRf, perm8_0, by unfold Rng; decide +kernel⟩
    have HBo := Lib.hid hboth
    obtain ⟨gm, hgm⟩ : ∃ gm, gm = go + 2 := ⟨_, rfl⟩
    have hgmw : w.heap.size ≤ gm := by omega
    rw [← hgm] at HBo
    rw [← hgm]
    clear hRf hB hz hW3 hgo hboth HW hgm
    go_wp2_with fail
    go_loopw [25] (fun i wr => PlayRel w g gm go l.length i wr) (fun i _ => l.length - (intOf i).toNat)
    case atStart => exact ⟨0, Nat.zero_le _, rfl, B3.out, go + 1, 8, _, _, by omega, HBo.out⟩
    case round =>
      obtain ⟨k, hk, rfl, hbel, gu, cu, o, u, hguw, hbo⟩ := hrel
      have HB := Lib.hid hbel
      have HBu := Lib.hid hbo
      clear hbel hbo HBo B3
      by_cases hlt : k < l.length
      · obtain ⟨ad, rfl, q0, q1, q2⟩ := ops_at (ops_below HR.out HB.out) k hlt
        have hgd := HG.out (l.getD k (0, 0, 0)) (by rw [List.getD_eq_getElem?_getD, List.getElem?_eq_getElem hlt]; exact List.getElem_mem _)
        generalize l.getD k (0, 0, 0) = op at q0 q1 q2 hgd
        obtain ⟨o0, o1, o2⟩ := op
        obtain ⟨_, _, hgd⟩ := hgd
        obtain ⟨v0, v1⟩ := bounds_u32 hgd
        simp only at q0 q1 q2 v0 v1
        clear hgd
        have hrest : ∀ (wx : World), Below w.heap.size w wx → ∀ gu' cu' o' u', w.heap.size ≤ gu' → Both wx g gm go gu' cu' o' u' → True := fun _ _ _ _ _ _ _ _ => trivial
        clear hrest
        have hW4 : WinAt (wr.alloc (.cells #[.int .i64 o0, .int .i64 o1, .int .u32 o2] 35)) g o u := HBu.out.win.keep (Below.heap_alloc _ _ _ HBu.out.win.lt)
        have hR4 : RefAt (wr.alloc (.cells #[.int .i64 o0, .int .i64 o1, .int .u32 o2] 35)) gm go gu cu o u := HBu.out.ref.keep (Below.heap_alloc _ _ _ HBu.out.ref.lt.1) (Below.heap_alloc _ _ _ HBu.out.ref.lt.2.1) (Below.heap_alloc _ _ _ HBu.out.ref.lt.2.2)
        have hB4 := HB.out.alloc HB.out.size (.cells #[.int .i64 o0, .int .i64 o1, .int .u32 o2] 35)
        have hO4 : (wr.alloc (.cells #[.int .i64 o0, .int .i64 o1, .int .u32 o2] 35)).heap[wr.heap.size]? = some (.cells #[.int .i64 o0, .int .i64 o1, .int .u32 o2] 35 (0, 0)) := heap_alloc_new _ _
        have HW4 := Lib.hid hW4
        have HR4 := Lib.hid hR4
        have HB4 := Lib.hid hB4
        have HO4 := Lib.hid hO4
        clear hW4 hR4 hB4 hO4
        have hcs : (o0 = 1 ∧ 0 ≤ o1 ∧ o1 < 8) ∨ (o0 = 1 ∧ ¬ (0 ≤ o1 ∧ o1 < 8)) ∨ (o0 ≠ 1 ∧ o0 = 2) ∨ (o0 ≠ 1 ∧ o0 ≠ 2) := by omega
        go_upto_block 2 with fail
        go_cut [] (fun wx => Mid w g gm go wx)
        case first =>
          rcases hcs with ⟨rfl, h10, h18⟩ | ⟨rfl, h1n⟩ | ⟨hn1, rfl⟩ | ⟨hn1, hn2⟩
          · go_wp2_with fail
            refine (set_calls g o u o1 o2 _ HW4.out).mono ?_
            rintro e w5 ⟨rfl, hW5, hC5⟩
            rw [if_pos ⟨h10, h18⟩] at hW5
            have hB5 := Chg.below HB4.out hC5 (fun i hi => by rw [hi]; exact hgw)
            have hne := HBu.out.ne
            have hR5 := HR4.out.keep (hC5.block gm HR4.out.lt.1 (fun e => hne.1 e.symm)) (hC5.block go HR4.out.lt.2.1 (fun e => hne.2.1 e.symm)) (hC5.block gu HR4.out.lt.2.2 (fun e => hne.2.2 e.symm))
            have hO5 : w5.heap[wr.heap.size]? = _ := (hC5.block wr.heap.size (by simp) (by have := HBu.out.win.lt; omega)).trans HO4.out
            have p0 : w5.cell? ⟨wr.heap.size, 0, none⟩ = some (.int .i64 1) := by rw [cell_of hO5]; rfl
            have p1 : w5.cell? ⟨wr.heap.size, 1, none⟩ = some (.int .i64 o1) := by rw [cell_of hO5]; rfl
            have p2 : w5.cell? ⟨wr.heap.size, 2, none⟩ = some (.int .u32 o2) := by rw [cell_of hO5]; rfl
            have r0 := hR5.f0
            have r1 := hR5.off o1.toNat (by omega)
            have rf := hR5.offs.frozen o1.toNat
            have HW5 := Lib.hid hW5
            have HB5 := Lib.hid hB5
            have HR5 := Lib.hid hR5
            clear hW5 hC5 hB5 hR5 hO5 hne
            go_wp2_with fail
            go_region
            go_wp2_with fail
            go_meet
            refine ⟨(HB5.out.setCell (p := ⟨go, o1.toNat, none⟩) hgow (.int .u32 o2)).drew, gu, cu, o.set o1.toNat o2, u, hguw, ?_⟩
            have hb6 : Both (w5.setCell ⟨go, o1.toNat, none⟩ (.int .u32 o2)) g gm go gu cu (o.set o1.toNat o2) u := ⟨HW5.out.keep (Below.heap_setCell w5 ⟨go, o1.toNat, none⟩ (.int .u32 o2) g (by show g ≠ go; exact HBu.out.ne.2.1)), HR5.out.setO o1.toNat o2, HBu.out.perm, rng_set HBu.out.rng _ _ v0 v1⟩
            exact hb6.heap rfl
          · have h1a : (0 ≤ o1 ∧ ¬ o1 < 8) ∨ ¬ 0 ≤ o1 := by omega
            go_wp2_with fail
            refine (set_calls g o u o1 o2 _ HW4.out).mono ?_
            rintro e w5 ⟨rfl, hW5, hC5⟩
            rw [if_neg h1n] at hW5
            have hB5 := Chg.below HB4.out hC5 (fun i hi => by rw [hi]; exact hgw)
            have hne := HBu.out.ne
            have hR5 := HR4.out.keep (hC5.block gm HR4.out.lt.1 (fun e => hne.1 e.symm)) (hC5.block go HR4.out.lt.2.1 (fun e => hne.2.1 e.symm)) (hC5.block gu HR4.out.lt.2.2 (fun e => hne.2.2 e.symm))
            have hO5 : w5.heap[wr.heap.size]? = _ := (hC5.block wr.heap.size (by simp) (by have := HBu.out.win.lt; omega)).trans HO4.out
            have p0 : w5.cell? ⟨wr.heap.size, 0, none⟩ = some (.int .i64 1) := by rw [cell_of hO5]; rfl
            have p1 : w5.cell? ⟨wr.heap.size, 1, none⟩ = some (.int .i64 o1) := by rw [cell_of hO5]; rfl
            have p2 : w5.cell? ⟨wr.heap.size, 2, none⟩ = some (.int .u32 o2) := by rw [cell_of hO5]; rfl
            have HW5 := Lib.hid hW5
            have HB5 := Lib.hid hB5
            have HR5 := Lib.hid hR5
            clear hW5 hC5 hB5 hR5 hO5 hne h1n
            rcases h1a with ⟨h1a, h1b⟩ | h1a
            all_goals
              go_wp2_with fail
              go_meet
              exact ⟨HB5.out, gu, cu, o, u, hguw, HW5.out, HR5.out, HBu.out.perm, HBu.out.rng⟩
          · go_wp2_with fail
            refine (touch_calls g o u o1 _ HW4.out (HBu.out.perm.all o1)).mono ?_
            rintro e w5 ⟨rfl, hW5, hC5⟩
            have hB5 := Chg.below HB4.out hC5 (fun i hi => by rw [hi]; exact hgw)
            have hne := HBu.out.ne
            have hR5 := HR4.out.keep (hC5.block gm HR4.out.lt.1 (fun e => hne.1 e.symm)) (hC5.block go HR4.out.lt.2.1 (fun e => hne.2.1 e.symm)) (hC5.block gu HR4.out.lt.2.2 (fun e => hne.2.2 e.symm))
            have hO5 : w5.heap[wr.heap.size]? = _ := (hC5.block wr.heap.size (by simp) (by have := HBu.out.win.lt; omega)).trans HO4.out
            have p0 : w5.cell? ⟨wr.heap.size, 0, none⟩ = some (.int .i64 2) := by rw [cell_of hO5]; rfl
            have p1 : w5.cell? ⟨wr.heap.size, 1, none⟩ = some (.int .i64 o1) := by rw [cell_of hO5]; rfl
            have p2 : w5.cell? ⟨wr.heap.size, 2, none⟩ = some (.int .u32 o2) := by rw [cell_of hO5]; rfl
            have HW5 := Lib.hid hW5
            have HB5 := Lib.hid hB5
            have HR5 := Lib.hid hR5
            have Hne := Lib.hid hne
            clear hW5 hC5 hB5 hR5 hO5 hne
            go_wp2_with fail
            refine (rtouch_calls gm go gu cu o u o1 _ HR5.out).mono ?_
            rintro e w6 ⟨rfl, hC6, gu', cu', hR6, hgu'⟩
            rw [touch_same HBu.out.perm] at hR6
            have hB6 := Chg.below HB5.out hC6 (fun i hi => by rw [hi]; exact hgmw)
            have hW6 := HW5.out.keep (hC6.block g HW5.out.lt Hne.out.1)
            have HB6 := Lib.hid hB6
            have HR6 := Lib.hid hR6
            have HW6 := Lib.hid hW6
            have hgw' : w.heap.size ≤ gu' := by
              rcases hgu' with rfl | h
              · exact hguw
              · exact Nat.le_trans HB5.out.size h
            clear hC6 hR6 hB6 hW6 hgu'
            go_wp2_with fail
            go_meet
            exact ⟨HB6.out, gu', cu', o, wTouch u o1, hgw', HW6.out, HR6.out, perm8_touch HBu.out.perm o1, HBu.out.rng⟩
          · have hn1' : (o0 == 1) = false := by simp [hn1]
            have hn2' : (o0 == 2) = false := by simp [hn2]
            have hO5 := HO4.out
            have p0 : (wr.alloc (.cells #[.int .i64 o0, .int .i64 o1, .int .u32 o2] 35)).cell? ⟨wr.heap.size, 0, none⟩ = some (.int .i64 o0) := by rw [cell_of hO5]; rfl
            clear hO5 hn1 hn2
            go_wp2_with fail
            go_meet
            exact ⟨HB4.out, gu, cu, o, u, hguw, HW4.out, HR4.out, HBu.out.perm, HBu.out.rng⟩
        case rest =>
          obtain ⟨hbx, gux, cux, ox, ux, hguxw, hbo⟩ := hcut
          clear HW4 HR4 HB4 HO4 HB HBu q0 q1 q2
          have Hbx := Lib.hid hbx
          have HBo := Lib.hid hbo
          clear hbx hbo
          have hfs := find_same c ox 0
          rcases hfs with ⟨kk, e1, e2⟩ | ⟨e1, e2⟩
          · have hF := find_calls g ox ux c wc HBo.out.win HBo.out.rng c0 c1
            rw [show wFind ox c = ((kk : Int), true) from e1] at hF
            have hFr := rfind_calls gm go gux cux ox ux c wc HBo.out.ref HBo.out.rng c0 c1
            rw [show rFind ox c = (kk : Int) from e2] at hFr
            obtain ⟨z, hz⟩ : ∃ z : Int, z = kk := ⟨_, rfl⟩
            have z0 : 0 ≤ z := by omega
            have z1 : decide (z < 0) = false := by simp; omega
            have z2 : decide (0 ≤ z) = true := by simp; omega
            have z3 : (z != if z < 0 then 0 else z) = false := by rw [if_neg (by omega)]; simp
            rw [← hz] at hF hFr
            clear hz
            have HF := Lib.hid hF
            have HFr := Lib.hid hFr
            have hOl : ∀ n : Nat, Calls Try.prog 14 #[.pointer (some ⟨g, 0, none⟩)] (wc.drewN n) fun e w' => e = .returned (.int .i64 (ux.getD 0 0)) ∧ w' = wc.drewN n := fun n => (oldest_calls g ox ux (wc.drewN n) (HBo.out.win.keep rfl)).mono fun e w' h => ⟨h.1, h.2.symm⟩
            have HOl := Lib.hid hOl
            have f1 := HBo.out.ref.f1
            have u0 := HBo.out.ref.use 0 (by decide)
            clear hF hFr e1 e2 hOl
            go_wp2_with fail
            refine HF.out.mono ?_
            rintro e w6 ⟨rfl, rfl⟩
            go_wp2_with fail
            refine HFr.out.mono ?_
            rintro e w6 ⟨rfl, rfl⟩
            go_wp2_with fail
            go_quiet ((go_at_call 14; exact Calls.quiet_of_same (HOl.out _)))
            go_wp2_with fail
            go_loopw [96] (fun i wr => InRel w g gm go gux cux ox ux i wr) (fun i _ => 8 - (intOf i).toNat)
            case atStart => exact ⟨0, by decide, rfl, below_drewN Hbx.out _, HBo.out.heap rfl⟩
            case round =>
              obtain ⟨j, hj, rfl, hbel, hbo⟩ := hrel
              have HBz := Lib.hid hbel
              have HBy := Lib.hid hbo
              clear hbel hbo HF HFr HOl f1 u0
              by_cases hj8 : j < 8
              · have hAt : ∀ n : Nat, Calls Try.prog 19 #[.pointer (some ⟨g, 0, none⟩), .int .i64 j] (wr.drewN n) fun e w' => e = .returned (.int .u32 (ox.getD j 0)) ∧ w' = wr.drewN n := by
                  intro n
                  have := at_calls g ox ux j (wr.drewN n) (HBy.out.win.keep rfl)
                  rw [show wAt ox j = ox.getD j 0 from by unfold wAt; rw [if_pos (by omega), Int.toNat_natCast]] at this
                  exact this.mono fun e w' h => ⟨h.1, h.2.symm⟩
                have HAt := Lib.hid hAt
                have f0 := HBy.out.ref.f0
                have fo := HBy.out.ref.off j hj8
                generalize (ox.getD j 0 : Int) = y at HAt fo
                clear hAt
                go_wp2_with fail
                go_quiet ((go_at_call 19; exact Calls.quiet_of_same (HAt.out _)))
                go_wp2_with fail
                go_roundw
                case rel =>
                  exact ⟨j + 1, by omega, by go_num, below_drewN HBz.out _, HBy.out.heap rfl⟩
                case measure => simp [intOf]; omega
              · obtain rfl : j = 8 := by omega
                go_wp2_with fail
                go_roundw
                case rel =>
                  exact ⟨k + 1, by omega, by go_num, HBz.out, gux, cux, ox, ux, hguxw, HBy.out⟩
                case measure => simp [intOf]; omega
          · have hF := find_calls g ox ux c wc HBo.out.win HBo.out.rng c0 c1
            rw [show wFind ox c = (0, false) from e1] at hF
            have hFr := rfind_calls gm go gux cux ox ux c wc HBo.out.ref HBo.out.rng c0 c1
            rw [show rFind ox c = -1 from e2] at hFr
            have HF := Lib.hid hF
            have HFr := Lib.hid hFr
            have hOl : ∀ n : Nat, Calls Try.prog 14 #[.pointer (some ⟨g, 0, none⟩)] (wc.drewN n) fun e w' => e = .returned (.int .i64 (ux.getD 0 0)) ∧ w' = wc.drewN n := fun n => (oldest_calls g ox ux (wc.drewN n) (HBo.out.win.keep rfl)).mono fun e w' h => ⟨h.1, h.2.symm⟩
            have HOl := Lib.hid hOl
            have f1 := HBo.out.ref.f1
            have u0 := HBo.out.ref.use 0 (by decide)
            clear hF hFr e1 e2 hOl
            go_wp2_with fail
            refine HF.out.mono ?_
            rintro e w6 ⟨rfl, rfl⟩
            go_wp2_with fail
            refine HFr.out.mono ?_
            rintro e w6 ⟨rfl, rfl⟩
            go_wp2_with fail
            go_quiet ((go_at_call 14; exact Calls.quiet_of_same (HOl.out _)))
            go_wp2_with fail
            go_loopw [96] (fun i wr => InRel w g gm go gux cux ox ux i wr) (fun i _ => 8 - (intOf i).toNat)
            case atStart => exact ⟨0, by decide, rfl, below_drewN Hbx.out _, HBo.out.heap rfl⟩
            case round =>
              obtain ⟨j, hj, rfl, hbel, hbo⟩ := hrel
              have HBz := Lib.hid hbel
              have HBy := Lib.hid hbo
              clear hbel hbo HF HFr HOl f1 u0
              by_cases hj8 : j < 8
              · have hAt : ∀ n : Nat, Calls Try.prog 19 #[.pointer (some ⟨g, 0, none⟩), .int .i64 j] (wr.drewN n) fun e w' => e = .returned (.int .u32 (ox.getD j 0)) ∧ w' = wr.drewN n := by
                  intro n
                  have := at_calls g ox ux j (wr.drewN n) (HBy.out.win.keep rfl)
                  rw [show wAt ox j = ox.getD j 0 from by unfold wAt; rw [if_pos (by omega), Int.toNat_natCast]] at this
                  exact this.mono fun e w' h => ⟨h.1, h.2.symm⟩
                have HAt := Lib.hid hAt
                have f0 := HBy.out.ref.f0
                have fo := HBy.out.ref.off j hj8
                generalize (ox.getD j 0 : Int) = y at HAt fo
                clear hAt
                go_wp2_with fail
                go_quiet ((go_at_call 19; exact Calls.quiet_of_same (HAt.out _)))
                go_wp2_with fail
                go_roundw
                case rel =>
                  exact ⟨j + 1, by omega, by go_num, below_drewN HBz.out _, HBy.out.heap rfl⟩
                case measure => simp [intOf]; omega
              · obtain rfl : j = 8 := by omega
                go_wp2_with fail
                go_roundw
                case rel =>
                  exact ⟨k + 1, by omega, by go_num, HBz.out, gux, cux, ox, ux, hguxw, HBy.out⟩
                case measure => simp [intOf]; omega
      · obtain rfl : k = l.length := by omega
        clear HBu
        go_wp2_with fail
        go_ret
        exact ⟨rfl, HB.out⟩
  · go_enter Try.func7, Try.ntmps7
    go_wp2_with fail
    refine (HA.out _).mono ?_
    rintro e w1 ⟨rfl, hB⟩
    have B1 := Lib.hid hB
    clear hB
    go_wp2_with fail
    refine (HA.out _).mono ?_
    rintro e w2 ⟨rfl, hB⟩
    have B2 := Lib.hid (B1.out.trans ((hB.mono B1.out.size : Below w.heap.size _ _)))
    clear hB
    go_wp2_with fail
    go_ret
    exact ⟨rfl, B2.out⟩
theorem windowPlays_row (A : Option Addr) (cap : Nat) (l : List OpV) (c : Int) (w : World) (hr : kOp.C w A l.length l) (hl : l.length ≤ cap) (hm : l.length ≤ maxLen) (hg : ∀ x ∈ l, opGood x) (hc : (Lit.int .u32 c).wf = true) :
    Calls Try.prog 7 #[.slice A l.length cap, .int .u32 c] w fun e w' => e = .returned (.bool true) ∧ Below w.heap.size w w' :=
  windowPlays_calls A cap l c w hl hm hr hg (bounds_u32 hc).1 (bounds_u32 hc).2
end Go.Proofs.Ytnidohbleffjkaa.Win
