/- WindowOrder: touched one by one, the one that was used longest ago, all eight windows come, each once, and again in the same order; every script. -/
import Derived.Test.YtnidohbleffjkaaAwake
import Derived.Test.YtnidohbleffjkaaWin3
import Derived.Test.YtnidohbleffjkaaOps
import Derived.OpenShut
namespace Go.Proofs.Ytnidohbleffjkaa.Win
open Go.RowKit
set_option linter.unusedVariables false
set_option linter.unusedSimpArgs false
/-- The windows' numbers, each once. -/
structure Perm8 (u : List Int) : Prop where
  len : u.length = 8
  nd : u.Nodup
  rng : ∀ x ∈ u, 0 ≤ x ∧ x < 8
  all : ∀ x : Int, 0 ≤ x → x < 8 → x ∈ u
theorem perm8_0 : Perm8 used0 := by
  refine ⟨rfl, by decide +kernel, by decide +kernel, fun x h0 h1 => ?_⟩
  have : x = 0 ∨ x = 1 ∨ x = 2 ∨ x = 3 ∨ x = 4 ∨ x = 5 ∨ x = 6 ∨ x = 7 := by omega
  rcases this with rfl | rfl | rfl | rfl | rfl | rfl | rfl | rfl <;> decide +kernel
theorem perm8_touch {u : List Int} (h : Perm8 u) (n : Int) : Perm8 (wTouch u n) := by
  unfold wTouch
  split
  · rename_i hn
    have hm := h.all n hn.1 hn.2
    refine ⟨?_, ?_, ?_, ?_⟩
    · rw [List.length_append, List.length_erase_of_mem hm, h.len]; rfl
    · rw [List.nodup_append]
      refine ⟨h.nd.erase _, by simp, ?_⟩
      intro a ha b hb
      rw [List.mem_singleton] at hb
      subst hb
      rintro rfl
      exact (h.nd.not_mem_erase) ha
    · intro x hx
      rcases List.mem_append.1 hx with hx | hx
      · exact h.rng x (List.mem_of_mem_erase hx)
      · rw [List.mem_singleton] at hx; omega
    · intro x h0 h1
      by_cases hx : x = n
      · subst hx; simp
      · exact List.mem_append_left _ ((List.mem_erase_of_ne hx).2 (h.all x h0 h1))
  · exact h
/-- Touched, the first one goes behind the others. -/
theorem touch_head {u : List Int} (h : Perm8 u) : wTouch u (u.getD 0 0) = u.drop 1 ++ u.take 1 := by
  have hl := h.len
  match u, hl with
  | a :: t, _ =>
    have := h.rng a (by simp)
    unfold wTouch
    rw [if_pos (by simpa using this)]
    simp
def ScriptRel (w : World) (g : Nat) (len : Nat) (i : Value) (wr : World) : Prop :=
  ∃ k : Nat, k ≤ len ∧ i = .int .i64 k ∧ Below w.heap.size w wr ∧ ∃ u, WinAt wr g firsts u ∧ Perm8 u
/-- The order, so many turns on. -/
def rot (i : Nat) (u : List Int) : List Int := u.drop (i % 8) ++ u.take (i % 8)
theorem rot_head {u : List Int} (hl : u.length = 8) (i : Nat) : (rot i u).getD 0 0 = u.getD (i % 8) 0 := by
  obtain ⟨a0, a1, a2, a3, a4, a5, a6, a7, rfl⟩ := list8 hl
  have : i % 8 = 0 ∨ i % 8 = 1 ∨ i % 8 = 2 ∨ i % 8 = 3 ∨ i % 8 = 4 ∨ i % 8 = 5 ∨ i % 8 = 6 ∨ i % 8 = 7 := by omega
  unfold rot
  rcases this with h | h | h | h | h | h | h | h <;> rw [h] <;> rfl
theorem rot_succ {u : List Int} (hl : u.length = 8) (i : Nat) : (rot i u).drop 1 ++ (rot i u).take 1 = rot (i + 1) u := by
  obtain ⟨a0, a1, a2, a3, a4, a5, a6, a7, rfl⟩ := list8 hl
  have : (i % 8 = 0 ∧ (i + 1) % 8 = 1) ∨ (i % 8 = 1 ∧ (i + 1) % 8 = 2) ∨ (i % 8 = 2 ∧ (i + 1) % 8 = 3) ∨ (i % 8 = 3 ∧ (i + 1) % 8 = 4) ∨ (i % 8 = 4 ∧ (i + 1) % 8 = 5) ∨ (i % 8 = 5 ∧ (i + 1) % 8 = 6) ∨ (i % 8 = 6 ∧ (i + 1) % 8 = 7) ∨ (i % 8 = 7 ∧ (i + 1) % 8 = 0) := by omega
  unfold rot
  rcases this with ⟨h, h'⟩ | ⟨h, h'⟩ | ⟨h, h'⟩ | ⟨h, h'⟩ | ⟨h, h'⟩ | ⟨h, h'⟩ | ⟨h, h'⟩ | ⟨h, h'⟩ <;> rw [h, h'] <;> rfl
structure ArrAt (w : World) (g : Nat) (t : TypeId) (cs : List Value) : Prop where
  blk : w.heap[g]? = some (.cells cs.toArray t (0, 0))
theorem ArrAt.cell {w : World} {g : Nat} {t : TypeId} {cs : List Value} (h : ArrAt w g t cs) (j : Nat) : w.cell? ⟨g, j, none⟩ = cs[j]? := by
  rw [cell_of h.blk]; simp
theorem ArrAt.frozen {w : World} {g : Nat} {t : TypeId} {cs : List Value} (h : ArrAt w g t cs) (j : Nat) : w.frozen? ⟨g, j, none⟩ = false := frozen_of h.blk j
theorem ArrAt.keep {w w' : World} {g : Nat} {t : TypeId} {cs : List Value} (h : ArrAt w g t cs) (he : w'.heap[g]? = w.heap[g]?) : ArrAt w' g t cs := ⟨he.trans h.blk⟩
theorem ArrAt.set {w : World} {g : Nat} {t : TypeId} {cs : List Value} (h : ArrAt w g t cs) (j : Nat) (v : Value) : ArrAt (w.setCell ⟨g, j, none⟩ v) g t (cs.set j v) := by
  refine ⟨?_⟩
  rw [heap_setCell_same w g j _ _ _ h.blk]
  congr 2
  simp
theorem ArrAt.lt {w : World} {g : Nat} {t : TypeId} {cs : List Value} (h : ArrAt w g t cs) : g < w.heap.size := (Array.getElem?_eq_some_iff.1 h.blk).1
def TurnRel (w : World) (g gf gs : Nat) (u : List Int) (i : Value) (wr : World) : Prop :=
  ∃ k : Nat, k ≤ 16 ∧ i = .int .i64 k ∧ Below w.heap.size w wr ∧ WinAt wr g firsts (rot k u) ∧ Perm8 (rot k u) ∧
    ∃ (F : List Int) (S : List Bool), ArrAt wr gf 37 (F.map fun x => .int .i64 x) ∧ ArrAt wr gs 38 (S.map fun x => .bool x) ∧ F.length = 8 ∧ S.length = 8 ∧
      (∀ j : Nat, j < k → j < 8 → F.getD j 0 = u.getD j 0) ∧ (∀ j : Nat, k ≤ j → j < 8 → S.getD (u.getD j 0).toNat false = false)
theorem perm8_rng {u : List Int} (h : Perm8 u) (j : Nat) (hj : j < 8) : 0 ≤ u.getD j 0 ∧ u.getD j 0 < 8 := by
  rw [List.getD_eq_getElem?_getD, List.getElem?_eq_getElem (by rw [h.len]; exact hj)]
  exact h.rng _ (List.getElem_mem _)
theorem perm8_ne {u : List Int} (h : Perm8 u) (i j : Nat) (hi : i < 8) (hj : j < 8) (hne : i ≠ j) : u.getD i 0 ≠ u.getD j 0 := by
  rw [List.getD_eq_getElem?_getD, List.getD_eq_getElem?_getD, List.getElem?_eq_getElem (by rw [h.len]; exact hi), List.getElem?_eq_getElem (by rw [h.len]; exact hj)]
  have hp := List.pairwise_iff_getElem.1 h.nd
  rcases Nat.lt_or_gt_of_ne hne with hlt | hlt
  · exact hp i j _ _ hlt
  · exact fun he => hp j i _ _ hlt he.symm
set_option maxHeartbeats 2000000 in
theorem windowOrder_calls (A : Option Addr) (c : Nat) (l : List OpV) (w : World) (hl : l.length ≤ c) (hm : l.length ≤ maxLen) (hr : kOp.C w A l.length l) (hg : ∀ x ∈ l, opGood x) :
    Calls Try.prog 4 #[.slice A l.length c] w fun e w' => e = .returned (.bool true) ∧ Below w.heap.size w w' := by
  have HA := Lib.hid (fun w : World => pilcrowlaw13_awake.calls true w rfl)
  have HR := Lib.hid hr
  unfold maxLen at hm
  clear hr hg
  by_cases hbig : l.length ≤ 300
  · go_enter Try.func4, Try.ntmps4
    go_wp2_with fail
    refine (HA.out _).mono ?_
    rintro e w1 ⟨rfl, hB⟩
    have B1 := Lib.hid hB
    clear hB
    go_wp2_with fail
    refine (new_calls _).mono ?_
    rintro e w2 ⟨rfl, hW, hC, hz⟩
    have HW := Lib.hid hW
    have B2 := Lib.hid (Chg.below B1.out hC (fun i hi => hi.elim))
    obtain ⟨g, hgg⟩ : ∃ g, g = w1.heap.size := ⟨_, rfl⟩
    have hgw : w.heap.size ≤ g := hgg ▸ B1.out.size
    rw [← hgg] at HW
    rw [← hgg]
    clear hW hC hgg hz
    go_wp2_with fail
    go_loopw [21] (fun i wr => ScriptRel w g l.length i wr) (fun i _ => l.length - (intOf i).toNat)
    case atStart => exact ⟨0, Nat.zero_le _, rfl, B2.out, _, HW.out, perm8_0⟩
    case round =>
      obtain ⟨k, hk, rfl, hbel, u, hW, hP⟩ := hrel
      have HB := Lib.hid hbel
      have HWu := Lib.hid hW
      have HPu := Lib.hid hP
      by_cases hlt : k < l.length
      · obtain ⟨ad, rfl, q0, q1, q2⟩ := ops_at (ops_below HR.out HB.out) k hlt
        generalize l.getD k (0, 0, 0) = op at q0 q1 q2
        obtain ⟨o0, o1, o2⟩ := op
        simp only at q0 q1 q2
        clear hbel hW hP HW B2
        go_wp2_with fail
        refine (touch_calls g firsts u _ _ (HWu.out.keep (Below.heap_alloc _ _ _ HWu.out.lt)) (HPu.out.all _)).mono ?_
        rintro e w3 ⟨rfl, hW3, hC3⟩
        have hB3 := Chg.below ((HB.out.alloc HB.out.size _)) hC3 (fun i hi => by rw [hi]; exact hgw)
        have HW3 := Lib.hid hW3
        have HB3 := Lib.hid hB3
        clear hW3 hC3 hB3
        go_wp2_with fail
        go_roundw
        case rel => exact ⟨k + 1, by omega, by go_num, HB3.out, _, HW3.out, perm8_touch HPu.out _⟩
        case measure => simp [intOf]; omega
      · obtain rfl : k = l.length := by omega
        clear hbel hW hP HW B2 hlt
        have hglt := HWu.out.lt
        have hz1 : ArrAt (wr.alloc (.cells #[.int .i64 0, .int .i64 0, .int .i64 0, .int .i64 0, .int .i64 0, .int .i64 0, .int .i64 0, .int .i64 0] 37)) wr.heap.size 37 (([0, 0, 0, 0, 0, 0, 0, 0] : List Int).map fun x => .int .i64 x) := ⟨heap_alloc_new _ _⟩
        have hz2 : ArrAt ((wr.alloc (.cells #[.int .i64 0, .int .i64 0, .int .i64 0, .int .i64 0, .int .i64 0, .int .i64 0, .int .i64 0, .int .i64 0] 37)).alloc (.cells #[.bool false, .bool false, .bool false, .bool false, .bool false, .bool false, .bool false, .bool false] 38)) (wr.heap.size + 1) 38 (([false, false, false, false, false, false, false, false] : List Bool).map fun x => .bool x) := ⟨by rw [show wr.heap.size + 1 = (wr.alloc (.cells #[.int .i64 0, .int .i64 0, .int .i64 0, .int .i64 0, .int .i64 0, .int .i64 0, .int .i64 0, .int .i64 0] 37)).heap.size from by simp]; exact heap_alloc_new _ _⟩
        have hz3 := hz1.keep (Below.heap_alloc _ (.cells #[.bool false, .bool false, .bool false, .bool false, .bool false, .bool false, .bool false, .bool false] 38) _ hz1.lt)
        have hw3 := (HWu.out.keep (Below.heap_alloc _ (.cells #[.int .i64 0, .int .i64 0, .int .i64 0, .int .i64 0, .int .i64 0, .int .i64 0, .int .i64 0, .int .i64 0] 37) _ HWu.out.lt))
        have hw4 := hw3.keep (Below.heap_alloc _ (.cells #[.bool false, .bool false, .bool false, .bool false, .bool false, .bool false, .bool false, .bool false] 38) _ hw3.lt)
        have hb4 := (HB.out.alloc HB.out.size (.cells #[.int .i64 0, .int .i64 0, .int .i64 0, .int .i64 0, .int .i64 0, .int .i64 0, .int .i64 0, .int .i64 0] 37)).alloc (by simp; exact Nat.le_succ_of_le HB.out.size) (.cells #[.bool false, .bool false, .bool false, .bool false, .bool false, .bool false, .bool false, .bool false] 38)
        have Z2 := Lib.hid hz2
        have Z3 := Lib.hid hz3
        have W4 := Lib.hid hw4
        have B4 := Lib.hid hb4
        clear hz1 hz2 hz3 hw3 hw4 hb4
        have hgf : w.heap.size ≤ wr.heap.size := HB.out.size
        have hL := Lib.hid HPu.out.len
        go_wp2_with fail
        obtain ⟨gf, hgfe⟩ : ∃ gf, gf = wr.heap.size := ⟨_, rfl⟩
        rw [← hgfe] at hglt hgf Z2 Z3
        rw [← hgfe]
        clear hgfe
        go_loopw [30] (fun i wq => TurnRel w g gf (gf + 1) u i wq) (fun i _ => 16 - (intOf i).toNat)
        case atStart =>
          refine ⟨0, by decide, rfl, B4.out, ?_, ?_, _, _, Z3.out, Z2.out, rfl, rfl, fun j h => by omega, fun j h0 h1 => ?_⟩
          · have : rot 0 u = u := by unfold rot; simp
            rw [this]; exact W4.out
          · have : rot 0 u = u := by unfold rot; simp
            rw [this]; exact HPu.out
          · generalize (u.getD j 0).toNat = q
            match q with
            | 0 | 1 | 2 | 3 | 4 | 5 | 6 | 7 => rfl
            | n + 8 => simp
        case round =>
          obtain ⟨k, hk, rfl, hbel, hW, hP, F, S, hF, hS, hlF, hlS, hfirst, hseen⟩ := hrel
          have HBq := Lib.hid hbel
          have HWq := Lib.hid hW
          have HPq := Lib.hid hP
          have HFq := Lib.hid hF
          have HSq := Lib.hid hS
          have Hfirst := Lib.hid hfirst
          have Hseen := Lib.hid hseen
          have HlF := Lib.hid hlF
          have HlS := Lib.hid hlS
          have hold := oldest_calls g firsts (rot k u) wr hW
          rw [rot_head hL.out] at hold
          have hxr := perm8_rng HPu.out (k % 8) (by omega)
          obtain ⟨x, hx⟩ : ∃ x, x = u.getD (k % 8) 0 := ⟨_, rfl⟩
          rw [← hx] at hold hxr
          obtain ⟨hx0, hx8⟩ := hxr
          have e1 : decide (x < 0) = false := by simp; omega
          have e2 : decide (7 < x) = false := by simp; omega
          have HX := Lib.hid hx
          have HO := Lib.hid hold
          clear hbel hW hP hF hS hfirst hseen hlF hlS hx hold
          have hcS : wr.cell? ⟨gf + 1, x.toNat, none⟩ = some (.bool (S.getD x.toNat false)) := by
            rw [HSq.out.cell, List.getElem?_map, List.getD_eq_getElem?_getD, List.getElem?_eq_getElem (show x.toNat < S.length by rw [HlS.out]; omega)]; rfl
          have htouch : ∀ (wz : World), WinAt wz g firsts (rot k u) → Calls Try.prog 13 #[.pointer (some ⟨g, 0, none⟩), .int .i64 x] wz fun e w' => e = .returned (.tuple #[]) ∧ WinAt w' g firsts (rot (k + 1) u) ∧ Perm8 (rot (k + 1) u) ∧ Chg (· = g) wz w' := by
            intro wz hz
            have hh := rot_head hL.out k
            have ht := touch_head HPq.out
            rw [hh, ← HX.out, rot_succ hL.out] at ht
            refine (touch_calls g firsts (rot k u) x wz hz (fun a b => HPq.out.all x a b)).mono ?_
            rintro e w' ⟨rfl, h1, h2⟩
            rw [ht] at h1
            refine ⟨rfl, h1, ?_, h2⟩
            rw [← ht]
            exact perm8_touch HPq.out x
          have HT := Lib.hid htouch
          clear htouch
          by_cases h16 : k < 16
          · by_cases h8 : k < 8
            · have hk8 : k % 8 = k := by omega
              have hs : S.getD x.toNat false = false := by
                have := Hseen.out k (Nat.le_refl _) h8
                rw [← hk8, ← HX.out] at this
                exact this
              rw [hs] at hcS
              have hcF : wr.cell? ⟨gf, k, none⟩ = some (.int .i64 (F.getD k 0)) := by
                rw [HFq.out.cell, List.getElem?_map, List.getD_eq_getElem?_getD, List.getElem?_eq_getElem (show k < F.length by rw [HlF.out]; omega)]; rfl
              have hfF := HFq.out.frozen k
              have hfS := HSq.out.frozen x.toNat
              have hne : gf ≠ gf + 1 := by omega
              have HK8 := Lib.hid hk8
              clear hs hk8
              go_wp2_with fail
              refine HO.out.mono ?_
              rintro e w5 ⟨rfl, rfl⟩
              go_wp2_with fail
              have hb6 := ((HBq.out.setCell (p := ⟨gf, k, none⟩) hgf (.int .i64 x)).setCell (p := ⟨gf + 1, x.toNat, none⟩) (by show w.heap.size ≤ gf + 1; omega) (.bool true))
              have hw6 := (HWq.out.keep (Below.heap_setCell wr ⟨gf, k, none⟩ (.int .i64 x) g (by show g ≠ gf; omega)))
              have hw7 := hw6.keep (Below.heap_setCell _ ⟨gf + 1, x.toNat, none⟩ (.bool true) g (by show g ≠ gf + 1; omega))
              have hF7 := (HFq.out.set k (.int .i64 x)).keep (Below.heap_setCell _ ⟨gf + 1, x.toNat, none⟩ (.bool true) gf hne)
              have hS7 := (HSq.out.keep (Below.heap_setCell wr ⟨gf, k, none⟩ (.int .i64 x) (gf + 1) (by show gf + 1 ≠ gf; omega))).set x.toNat (.bool true)
              refine (HT.out _ hw7).mono ?_
              rintro e w6 ⟨rfl, hW8, hP8, hC8⟩
              have hb8 := Chg.below hb6 hC8 (fun i hi => by rw [hi]; omega)
              have hF8 := hF7.keep (hC8.block gf hF7.lt (by omega))
              have hS8 := hS7.keep (hC8.block (gf + 1) hS7.lt (by omega))
              have Hb8 := Lib.hid hb8
              have HF8 := Lib.hid hF8
              have HS8 := Lib.hid hS8
              have HW8 := Lib.hid hW8
              have HP8 := Lib.hid hP8
              clear hb6 hw6 hw7 hF7 hS7 hW8 hP8 hC8 hb8 hF8 hS8
              go_wp2_with fail
              go_roundw
              case rel =>
                refine ⟨k + 1, by omega, by go_num, Hb8.out, HW8.out, HP8.out, F.set k x, S.set x.toNat true, ?_, ?_, by rw [List.length_set, HlF.out], by rw [List.length_set, HlS.out], fun j h0 h1 => ?_, fun j h0 h1 => ?_⟩
                · rw [List.map_set]; exact HF8.out
                · rw [List.map_set]; exact HS8.out
                · by_cases hjk : j = k
                  · subst hjk
                    rw [List.getD_eq_getElem?_getD, List.getElem?_set_self (by rw [HlF.out]; omega), HX.out, HK8.out]; rfl
                  · rw [List.getD_eq_getElem?_getD, List.getElem?_set_ne (by omega), ← List.getD_eq_getElem?_getD]
                    exact Hfirst.out j (by omega) h1
                · have h9 := perm8_ne HPu.out k j h8 h1 (by omega)
                  have h10 := perm8_rng HPu.out j h1
                  rw [List.getD_eq_getElem?_getD, List.getElem?_set_ne (by rw [HX.out, HK8.out]; have := perm8_rng HPu.out k h8; omega), ← List.getD_eq_getElem?_getD]
                  exact Hseen.out j (by omega) h1
              case measure => simp [intOf]; omega
            · have hk8 : k % 8 = k - 8 := by omega
              have hcF : wr.cell? ⟨gf, k - 8, none⟩ = some (.int .i64 x) := by
                rw [HFq.out.cell, List.getElem?_map, HX.out, hk8, ← Hfirst.out (k - 8) (by omega) (by omega), List.getD_eq_getElem?_getD, List.getElem?_eq_getElem (show k - 8 < F.length by rw [HlF.out]; omega)]; rfl
              clear hk8 hcS
              go_wp2_with fail
              refine HO.out.mono ?_
              rintro e w5 ⟨rfl, rfl⟩
              go_wp2_with fail
              refine (HT.out _ HWq.out).mono ?_
              rintro e w6 ⟨rfl, hW8, hP8, hC8⟩
              have hb8 := Chg.below HBq.out hC8 (fun i hi => by rw [hi]; omega)
              have hF8 := HFq.out.keep (hC8.block gf HFq.out.lt (by omega))
              have hS8 := HSq.out.keep (hC8.block (gf + 1) HSq.out.lt (by omega))
              have Hb8 := Lib.hid hb8
              have HF8 := Lib.hid hF8
              have HS8 := Lib.hid hS8
              have HW8 := Lib.hid hW8
              have HP8 := Lib.hid hP8
              clear hW8 hP8 hC8 hb8 hF8 hS8
              go_wp2_with fail
              go_roundw
              case rel =>
                exact ⟨k + 1, by omega, by go_num, Hb8.out, HW8.out, HP8.out, F, S, HF8.out, HS8.out, HlF.out, HlS.out, fun j h0 h1 => Hfirst.out j (by omega) h1, fun j h0 h1 => by omega⟩
              case measure => simp [intOf]; omega
          · obtain rfl : k = 16 := by omega
            clear hcS
            go_wp2_with fail
            go_ret
            exact ⟨rfl, HBq.out⟩
  · go_enter Try.func4, Try.ntmps4
    go_wp2_with fail
    refine (HA.out _).mono ?_
    rintro e w1 ⟨rfl, hB⟩
    have B1 := Lib.hid hB
    clear hB
    go_wp2_with fail
    refine (HA.out _).mono ?_
    rintro e w2 ⟨rfl, hB⟩
    have B2 := Lib.hid (B1.out.trans ((hB.mono B1.out.size : Below w.heap.size _ _)))
    clear hB
    go_wp2_with fail
    go_ret
    exact ⟨rfl, B2.out⟩
theorem windowOrder_row (A : Option Addr) (c : Nat) (l : List OpV) (w : World) (hr : kOp.C w A l.length l) (hl : l.length ≤ c) (hm : l.length ≤ maxLen) (hg : ∀ x ∈ l, opGood x) :
    Calls Try.prog 4 #[.slice A l.length c] w fun e w' => e = .returned (.bool true) ∧ Below w.heap.size w w' := windowOrder_calls A c l w hl hm hr hg
end Go.Proofs.Ytnidohbleffjkaa.Win
