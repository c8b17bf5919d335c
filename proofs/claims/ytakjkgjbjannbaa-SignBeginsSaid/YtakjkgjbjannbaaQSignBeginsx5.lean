/- Written by a program of this session: functions, and their walks. -/
import Derived.Test.YtakjkgjbjannbaaQSignBeginsx0
import Derived.Test.YtakjkgjbjannbaaQSignBeginsx4
namespace Go.Proofs.Ytakjkgjbjannbaa.QSignBegins
open Go.RowKit Go.Proofs.YtakjkgjbjannbaaW.PrintWords Go.Proofs.YtakjkgjbjannbaaW.PrintLast Go.Proofs.YtakjkgjbjannbaaW.PrintMore Go.Proofs.Ytakjkgjbjannbaa.Hand
attribute [local go_sem] max2_int min2_int max_two min_two max_three min_three max_four min_four   -- for this text's walks alone
set_option linter.unusedVariables false
set_option linter.unusedSimpArgs false

/-! ### pilcrowref11_Trails: function 39 -/
def pilcrowref11_Trails.l0 : Nat → List Int → Int → Option (List Int)
  | 0, _, _ => none
  | k + 1, x1, x2 => if x2 < 256 then (if x2 ≤ 6 then (if x1.length < 140737488355328 then (pilcrowref11_Trails.l0 k (x1 ++ [(x2) % 256]) (wrap64 (x2 + 1))) else (none)) else (if x2 ≥ 16 then (if x2 ≤ 25 then (if x1.length < 140737488355328 then (pilcrowref11_Trails.l0 k (x1 ++ [(x2) % 256]) (wrap64 (x2 + 1))) else (none)) else (if x2 ≥ 28 then (if x2 ≤ 31 then (if x1.length < 140737488355328 then (pilcrowref11_Trails.l0 k (x1 ++ [(x2) % 256]) (wrap64 (x2 + 1))) else (none)) else (if x2 ≥ 33 then (if x1.length < 140737488355328 then (pilcrowref11_Trails.l0 k (x1 ++ [(x2) % 256]) (wrap64 (x2 + 1))) else (none)) else (pilcrowref11_Trails.l0 k x1 (wrap64 (x2 + 1))))) else (if x2 ≥ 33 then (if x1.length < 140737488355328 then (pilcrowref11_Trails.l0 k (x1 ++ [(x2) % 256]) (wrap64 (x2 + 1))) else (none)) else (pilcrowref11_Trails.l0 k x1 (wrap64 (x2 + 1)))))) else (if x2 ≥ 28 then (if x2 ≤ 31 then (if x1.length < 140737488355328 then (pilcrowref11_Trails.l0 k (x1 ++ [(x2) % 256]) (wrap64 (x2 + 1))) else (none)) else (if x2 ≥ 33 then (if x1.length < 140737488355328 then (pilcrowref11_Trails.l0 k (x1 ++ [(x2) % 256]) (wrap64 (x2 + 1))) else (none)) else (pilcrowref11_Trails.l0 k x1 (wrap64 (x2 + 1))))) else (if x2 ≥ 33 then (if x1.length < 140737488355328 then (pilcrowref11_Trails.l0 k (x1 ++ [(x2) % 256]) (wrap64 (x2 + 1))) else (none)) else (pilcrowref11_Trails.l0 k x1 (wrap64 (x2 + 1))))))) else (some x1)
def pilcrowref11_Trails.f (k : Nat)  : Option (List Int) := pilcrowref11_Trails.l0 k (([] : List Int)) 1
theorem pilcrowref11_Trails.mono_l : ∀ k, (∀ y0 y1, LeO (pilcrowref11_Trails.l0 k y0 y1) (pilcrowref11_Trails.l0 (k + 1) y0 y1))
  | 0 => fun _ _ r h => by simp [pilcrowref11_Trails.l0] at h
  | k + 1 => by
    have ih0 := pilcrowref11_Trails.mono_l k
    · intro y0 y1
      unfold pilcrowref11_Trails.l0
      repeat' first
      | (with_reducible exact ih0 _ _)
      | (with_reducible exact LeO.refl _)
      | (with_reducible exact LeO.none _)
      | (with_reducible refine LeO.ite ?_ ?_)
      | (with_reducible refine LeO.bind ?_ (fun _ => ?_))
      | exact ih0 _ _
      | exact LeO.none _
      | refine LeO.ite ?_ ?_
      | refine LeO.bind ?_ (fun _ => ?_)
theorem pilcrowref11_Trails.mono : ∀ k, LeO (pilcrowref11_Trails.f k ) (pilcrowref11_Trails.f (k + 1) ) := by
  intro  k
  have ih0 := pilcrowref11_Trails.mono_l k
  unfold pilcrowref11_Trails.f
  repeat' first
      | (with_reducible exact ih0 _ _)
      | (with_reducible exact LeO.refl _)
      | (with_reducible exact LeO.none _)
      | (with_reducible refine LeO.ite ?_ ?_)
      | (with_reducible refine LeO.bind ?_ (fun _ => ?_))
      | exact ih0 _ _
      | exact LeO.none _
      | refine LeO.ite ?_ ?_
      | refine LeO.bind ?_ (fun _ => ?_)
set_option maxHeartbeats 8000000 in
set_option maxRecDepth 100000 in
theorem pilcrowref11_Trails.calls (k : Nat)  (r : List Int) (w : World) (h : pilcrowref11_Trails.f k  = some r) :
    Calls Try.prog 39 #[] w fun e w' => ∃ v0_ : Value, e = .returned (v0_) ∧ Kd.R (Kd.int .u8) 5 w' w.heap.size (fun _ => True) v0_ r ∧ Below w.heap.size w w' := by
  have HB := Aside0.mk (Below.refl w.heap.size w)
  have H : (pilcrowref11_Trails.l0 k (([] : List Int)) 1) = some r := h
  clear h
  obtain ⟨y204, hy204⟩ : ∃ y_ : List Int, y_ = (([] : List Int)) := ⟨_, rfl⟩
  replace H : (pilcrowref11_Trails.l0 k y204 1) = some r := by first | (rw [hy204]; with_reducible exact H) | (have H2_ := (Option.bind_some _ _).symm.trans H; rw [hy204]; with_reducible exact H2_) | (have H2_ := (Option.bind_some _ _).symm.trans H; with_reducible exact H2_) | with_reducible exact H | (rw [hy204]; exact H) | exact H
  have Ny204 := Aside0.mk hy204
  clear hy204
  have H' := Aside0.mk H
  clear H
  go_enter Try.func39, Try.ntmps39
  go_wp2_with (first | ((with_reducible refine gate_dst (N := 3) rfl ?_); refine Kd.R_lit (Kd.int .u8) _ 5 ?hg (N := 3) ?hd (xs := ([] : List Int)) (inner := []) (ok := fun _ => True) (okp := fun _ => True) ?hr ?hp (fun _ hk => hk) trivial (Below.refl _ _) (Nat.le_refl _) (by simp) ?_; (case hd => rfl); (case hg => rfl); (case hr => first | (go_simp; done) | (go_simp; with_reducible rfl) | (go_simp; simp only [IntKind.wrap_u8, IntKind.wrap_u32, Int.emod_emod_of_dvd _ (show (256 : Int) ∣ 4294967296 by decide)]; done) | (go_simp; repeat (first | (with_reducible rfl) | omega | congr 1))); (case hp => exact (Reps.none _ _)); intro v205 w1 ho2 hb hg_ hnew_; clear hg_ hnew_; (first | rw [← Ny204.out] at ho2 | (simp only [Int.reduceToNat] at ho2; rw [← Ny204.out] at ho2)); have n0_ := Aside0.mk (Kd.R_lower ho2 (below_size (by repeat (first | (with_reducible first | exact HB.out | apply below_alloc | apply pw_below_drewN | apply below_drew1) | exact HB.out)))); have n1_ := Aside0.mk (below_step (by repeat (first | (with_reducible first | exact HB.out | apply below_alloc | apply pw_below_drewN | apply below_drew1) | exact HB.out)) hb); clear HB; have HO206 := n0_; have HB := n1_; clear n0_ n1_; clear hb ho2))
  go_loopg [1, 2] k (fun kq v1 v2 w' => ∃ (x1_1 : List Int) (x2_1 : Int), v2 = .int .i64 x2_1 ∧ Aside0 (pilcrowref11_Trails.l0 kq x1_1 x2_1 = some r) ∧ Aside0 (kq ≤ k) ∧ Aside0 (Kd.R (Kd.int .u8) 5 w' w.heap.size (fun _ => True) v1 x1_1) ∧ Aside0 (Below w.heap.size w w'))
  case atStart => exact ⟨(y204), (1), (by first | rfl | (simp; done) | (simp [*]; done)), H', ⟨Nat.le_refl _⟩, ⟨by (with_reducible repeat (first | apply Kd.R_alloc | apply Kd.R_drewN | apply Kd.R_drew)); exact HO206.out⟩, ⟨by repeat (first | (with_reducible first | exact HB.out | apply below_alloc | apply pw_below_drewN | apply below_drew1) | exact HB.out)⟩⟩
  case round =>
    clear H'
    try clear p2
    obtain ⟨x1_1, x2_1, rfl, HA, HK1, HO_1, HB⟩ := hrel
    cases gk with
    | zero => exact absurd HA.out (by simp [pilcrowref11_Trails.l0])
    | succ k1 =>
      have H := HA.out
      clear HA
      simp only [pilcrowref11_Trails.l0] at H
      by_cases c3 : x2_1 < 256
      · rw [if_pos c3] at H
        have c3b0 : decide (x2_1 < 256) = true := decide_eq_true c3
        clear c3
        by_cases c4 : x2_1 ≤ 6
        · rw [if_pos c4] at H
          have c4b0 : decide (x2_1 ≤ 6) = true := decide_eq_true c4
          clear c4
          by_cases c5 : x1_1.length < 140737488355328
          · rw [if_pos c5] at H
            have LMc5 := Aside0.mk c5
            clear c5
            obtain ⟨y207, hy207⟩ : ∃ y_ : List Int, y_ = (x1_1 ++ [(x2_1) % 256]) := ⟨_, rfl⟩
            replace H : (pilcrowref11_Trails.l0 k1 y207 (wrap64 (x2_1 + 1))) = some r := by first | (rw [hy207]; with_reducible exact H) | (have H2_ := (Option.bind_some _ _).symm.trans H; rw [hy207]; with_reducible exact H2_) | (have H2_ := (Option.bind_some _ _).symm.trans H; with_reducible exact H2_) | with_reducible exact H | (rw [hy207]; exact H) | exact H
            have Ny207 := Aside0.mk hy207
            clear hy207
            have H' := Aside0.mk H
            clear H
            go_wp2_with (first | ((with_reducible refine gate_builtin (b := .append) (xs := #[.tmp 30, .tmp 33]) rfl ?_); at_builtin; refine Kd.R_append (Kd.int .u8) (w0 := w) w.heap.size rfl (.tmp 30) (.tmp 33) 40 5 (.int .u8 0) 1 rfl Try.underlying40 info5 rfl (by decide) (by omega) u1 x1_1 ((x2_1) % 256) [.int .u8 ((x2_1) % 256)] (fun _ => True) (fun _ => False) rfl rfl ?aP (fun _ hk => hk.elim) ?aF ?aO ?aB ?aS ?aL ?_; (case aP => exact rfl); (case aB => exact (by repeat (first | (with_reducible first | exact HB.out | apply below_alloc | apply pw_below_drewN | apply below_drew1) | exact HB.out))); (case aF => exact (fun _ _ => trivial)); (case aO => exact (by (with_reducible repeat (first | apply Kd.R_alloc | apply Kd.R_drewN | apply Kd.R_drew)); exact HO_1.out)); (case aS => exact (below_size (by repeat (first | (with_reducible first | exact HB.out | apply below_alloc | apply pw_below_drewN | apply below_drew1) | exact HB.out)))); (case aL => have := LMc5.out; omega); intro v208 w6 ho hb hg hat; rw [← Ny207.out] at ho; have n0_ := Aside0.mk (hb); have n1_ := Aside0.mk (ho); clear HB; clear HO_1; have HB := n0_; have HO209 := n1_; clear n0_ n1_; clear ho hb hg hat))
            go_roundg k1
            case measure => have := HK1.out; omega
            case rel => exact ⟨(y207), (wrap64 (x2_1 + 1)), (by first | rfl | (simp; done) | (simp [*]; done)), H', ⟨by have := HK1.out; omega⟩, ⟨by (with_reducible repeat (first | apply Kd.R_alloc | apply Kd.R_drewN | apply Kd.R_drew)); exact HO209.out⟩, ⟨by repeat (first | (with_reducible first | exact HB.out | apply below_alloc | apply pw_below_drewN | apply below_drew1) | exact HB.out)⟩⟩
          · rw [if_neg c5] at H
            exact absurd H (by simp)
        · rw [if_neg c4] at H
          have c4b0 : decide (x2_1 ≤ 6) = false := decide_eq_false c4
          clear c4
          by_cases c7 : x2_1 ≥ 16
          · rw [if_pos c7] at H
            have c7b0 : decide (16 ≤ x2_1) = true := decide_eq_true c7
            clear c7
            by_cases c8 : x2_1 ≤ 25
            · rw [if_pos c8] at H
              have c8b0 : decide (x2_1 ≤ 25) = true := decide_eq_true c8
              clear c8
              by_cases c9 : x1_1.length < 140737488355328
              · rw [if_pos c9] at H
                have LMc9 := Aside0.mk c9
                clear c9
                obtain ⟨y210, hy210⟩ : ∃ y_ : List Int, y_ = (x1_1 ++ [(x2_1) % 256]) := ⟨_, rfl⟩
                replace H : (pilcrowref11_Trails.l0 k1 y210 (wrap64 (x2_1 + 1))) = some r := by first | (rw [hy210]; with_reducible exact H) | (have H2_ := (Option.bind_some _ _).symm.trans H; rw [hy210]; with_reducible exact H2_) | (have H2_ := (Option.bind_some _ _).symm.trans H; with_reducible exact H2_) | with_reducible exact H | (rw [hy210]; exact H) | exact H
                have Ny210 := Aside0.mk hy210
                clear hy210
                have H' := Aside0.mk H
                clear H
                go_wp2_with (first | ((with_reducible refine gate_builtin (b := .append) (xs := #[.tmp 30, .tmp 33]) rfl ?_); at_builtin; refine Kd.R_append (Kd.int .u8) (w0 := w) w.heap.size rfl (.tmp 30) (.tmp 33) 40 5 (.int .u8 0) 1 rfl Try.underlying40 info5 rfl (by decide) (by omega) u1 x1_1 ((x2_1) % 256) [.int .u8 ((x2_1) % 256)] (fun _ => True) (fun _ => False) rfl rfl ?aP (fun _ hk => hk.elim) ?aF ?aO ?aB ?aS ?aL ?_; (case aP => exact rfl); (case aB => exact (by repeat (first | (with_reducible first | exact HB.out | apply below_alloc | apply pw_below_drewN | apply below_drew1) | exact HB.out))); (case aF => exact (fun _ _ => trivial)); (case aO => exact (by (with_reducible repeat (first | apply Kd.R_alloc | apply Kd.R_drewN | apply Kd.R_drew)); exact HO_1.out)); (case aS => exact (below_size (by repeat (first | (with_reducible first | exact HB.out | apply below_alloc | apply pw_below_drewN | apply below_drew1) | exact HB.out)))); (case aL => have := LMc9.out; omega); intro v211 w10 ho hb hg hat; rw [← Ny210.out] at ho; have n0_ := Aside0.mk (hb); have n1_ := Aside0.mk (ho); clear HB; clear HO_1; have HB := n0_; have HO212 := n1_; clear n0_ n1_; clear ho hb hg hat))
                go_roundg k1
                case measure => have := HK1.out; omega
                case rel => exact ⟨(y210), (wrap64 (x2_1 + 1)), (by first | rfl | (simp; done) | (simp [*]; done)), H', ⟨by have := HK1.out; omega⟩, ⟨by (with_reducible repeat (first | apply Kd.R_alloc | apply Kd.R_drewN | apply Kd.R_drew)); exact HO212.out⟩, ⟨by repeat (first | (with_reducible first | exact HB.out | apply below_alloc | apply pw_below_drewN | apply below_drew1) | exact HB.out)⟩⟩
              · rw [if_neg c9] at H
                exact absurd H (by simp)
            · rw [if_neg c8] at H
              have c8b0 : decide (x2_1 ≤ 25) = false := decide_eq_false c8
              clear c8
              by_cases c11 : x2_1 ≥ 28
              · rw [if_pos c11] at H
                have c11b0 : decide (28 ≤ x2_1) = true := decide_eq_true c11
                clear c11
                by_cases c12 : x2_1 ≤ 31
                · rw [if_pos c12] at H
                  have c12b0 : decide (x2_1 ≤ 31) = true := decide_eq_true c12
                  clear c12
                  by_cases c13 : x1_1.length < 140737488355328
                  · rw [if_pos c13] at H
                    have LMc13 := Aside0.mk c13
                    clear c13
                    obtain ⟨y213, hy213⟩ : ∃ y_ : List Int, y_ = (x1_1 ++ [(x2_1) % 256]) := ⟨_, rfl⟩
                    replace H : (pilcrowref11_Trails.l0 k1 y213 (wrap64 (x2_1 + 1))) = some r := by first | (rw [hy213]; with_reducible exact H) | (have H2_ := (Option.bind_some _ _).symm.trans H; rw [hy213]; with_reducible exact H2_) | (have H2_ := (Option.bind_some _ _).symm.trans H; with_reducible exact H2_) | with_reducible exact H | (rw [hy213]; exact H) | exact H
                    have Ny213 := Aside0.mk hy213
                    clear hy213
                    have H' := Aside0.mk H
                    clear H
                    go_wp2_with (first | ((with_reducible refine gate_builtin (b := .append) (xs := #[.tmp 30, .tmp 33]) rfl ?_); at_builtin; refine Kd.R_append (Kd.int .u8) (w0 := w) w.heap.size rfl (.tmp 30) (.tmp 33) 40 5 (.int .u8 0) 1 rfl Try.underlying40 info5 rfl (by decide) (by omega) u1 x1_1 ((x2_1) % 256) [.int .u8 ((x2_1) % 256)] (fun _ => True) (fun _ => False) rfl rfl ?aP (fun _ hk => hk.elim) ?aF ?aO ?aB ?aS ?aL ?_; (case aP => exact rfl); (case aB => exact (by repeat (first | (with_reducible first | exact HB.out | apply below_alloc | apply pw_below_drewN | apply below_drew1) | exact HB.out))); (case aF => exact (fun _ _ => trivial)); (case aO => exact (by (with_reducible repeat (first | apply Kd.R_alloc | apply Kd.R_drewN | apply Kd.R_drew)); exact HO_1.out)); (case aS => exact (below_size (by repeat (first | (with_reducible first | exact HB.out | apply below_alloc | apply pw_below_drewN | apply below_drew1) | exact HB.out)))); (case aL => have := LMc13.out; omega); intro v214 w14 ho hb hg hat; rw [← Ny213.out] at ho; have n0_ := Aside0.mk (hb); have n1_ := Aside0.mk (ho); clear HB; clear HO_1; have HB := n0_; have HO215 := n1_; clear n0_ n1_; clear ho hb hg hat))
                    go_roundg k1
                    case measure => have := HK1.out; omega
                    case rel => exact ⟨(y213), (wrap64 (x2_1 + 1)), (by first | rfl | (simp; done) | (simp [*]; done)), H', ⟨by have := HK1.out; omega⟩, ⟨by (with_reducible repeat (first | apply Kd.R_alloc | apply Kd.R_drewN | apply Kd.R_drew)); exact HO215.out⟩, ⟨by repeat (first | (with_reducible first | exact HB.out | apply below_alloc | apply pw_below_drewN | apply below_drew1) | exact HB.out)⟩⟩
                  · rw [if_neg c13] at H
                    exact absurd H (by simp)
                · rw [if_neg c12] at H
                  have c12b0 : decide (x2_1 ≤ 31) = false := decide_eq_false c12
                  clear c12
                  by_cases c15 : x2_1 ≥ 33
                  · rw [if_pos c15] at H
                    have c15b0 : decide (33 ≤ x2_1) = true := decide_eq_true c15
                    clear c15
                    by_cases c16 : x1_1.length < 140737488355328
                    · rw [if_pos c16] at H
                      have LMc16 := Aside0.mk c16
                      clear c16
                      obtain ⟨y216, hy216⟩ : ∃ y_ : List Int, y_ = (x1_1 ++ [(x2_1) % 256]) := ⟨_, rfl⟩
                      replace H : (pilcrowref11_Trails.l0 k1 y216 (wrap64 (x2_1 + 1))) = some r := by first | (rw [hy216]; with_reducible exact H) | (have H2_ := (Option.bind_some _ _).symm.trans H; rw [hy216]; with_reducible exact H2_) | (have H2_ := (Option.bind_some _ _).symm.trans H; with_reducible exact H2_) | with_reducible exact H | (rw [hy216]; exact H) | exact H
                      have Ny216 := Aside0.mk hy216
                      clear hy216
                      have H' := Aside0.mk H
                      clear H
                      go_wp2_with (first | ((with_reducible refine gate_builtin (b := .append) (xs := #[.tmp 30, .tmp 33]) rfl ?_); at_builtin; refine Kd.R_append (Kd.int .u8) (w0 := w) w.heap.size rfl (.tmp 30) (.tmp 33) 40 5 (.int .u8 0) 1 rfl Try.underlying40 info5 rfl (by decide) (by omega) u1 x1_1 ((x2_1) % 256) [.int .u8 ((x2_1) % 256)] (fun _ => True) (fun _ => False) rfl rfl ?aP (fun _ hk => hk.elim) ?aF ?aO ?aB ?aS ?aL ?_; (case aP => exact rfl); (case aB => exact (by repeat (first | (with_reducible first | exact HB.out | apply below_alloc | apply pw_below_drewN | apply below_drew1) | exact HB.out))); (case aF => exact (fun _ _ => trivial)); (case aO => exact (by (with_reducible repeat (first | apply Kd.R_alloc | apply Kd.R_drewN | apply Kd.R_drew)); exact HO_1.out)); (case aS => exact (below_size (by repeat (first | (with_reducible first | exact HB.out | apply below_alloc | apply pw_below_drewN | apply below_drew1) | exact HB.out)))); (case aL => have := LMc16.out; omega); intro v217 w17 ho hb hg hat; rw [← Ny216.out] at ho; have n0_ := Aside0.mk (hb); have n1_ := Aside0.mk (ho); clear HB; clear HO_1; have HB := n0_; have HO218 := n1_; clear n0_ n1_; clear ho hb hg hat))
                      go_roundg k1
                      case measure => have := HK1.out; omega
                      case rel => exact ⟨(y216), (wrap64 (x2_1 + 1)), (by first | rfl | (simp; done) | (simp [*]; done)), H', ⟨by have := HK1.out; omega⟩, ⟨by (with_reducible repeat (first | apply Kd.R_alloc | apply Kd.R_drewN | apply Kd.R_drew)); exact HO218.out⟩, ⟨by repeat (first | (with_reducible first | exact HB.out | apply below_alloc | apply pw_below_drewN | apply below_drew1) | exact HB.out)⟩⟩
                    · rw [if_neg c16] at H
                      exact absurd H (by simp)
                  · rw [if_neg c15] at H
                    have c15b0 : decide (33 ≤ x2_1) = false := decide_eq_false c15
                    clear c15
                    have H' := Aside0.mk H
                    clear H
                    go_wp2
                    go_roundg k1
                    case measure => have := HK1.out; omega
                    case rel => exact ⟨(x1_1), (wrap64 (x2_1 + 1)), (by first | rfl | (simp; done) | (simp [*]; done)), H', ⟨by have := HK1.out; omega⟩, ⟨by (with_reducible repeat (first | apply Kd.R_alloc | apply Kd.R_drewN | apply Kd.R_drew)); exact HO_1.out⟩, ⟨by repeat (first | (with_reducible first | exact HB.out | apply below_alloc | apply pw_below_drewN | apply below_drew1) | exact HB.out)⟩⟩
              · rw [if_neg c11] at H
                have c11b0 : decide (28 ≤ x2_1) = false := decide_eq_false c11
                clear c11
                by_cases c18 : x2_1 ≥ 33
                · rw [if_pos c18] at H
                  have c18b0 : decide (33 ≤ x2_1) = true := decide_eq_true c18
                  clear c18
                  by_cases c19 : x1_1.length < 140737488355328
                  · rw [if_pos c19] at H
                    have LMc19 := Aside0.mk c19
                    clear c19
                    obtain ⟨y219, hy219⟩ : ∃ y_ : List Int, y_ = (x1_1 ++ [(x2_1) % 256]) := ⟨_, rfl⟩
                    replace H : (pilcrowref11_Trails.l0 k1 y219 (wrap64 (x2_1 + 1))) = some r := by first | (rw [hy219]; with_reducible exact H) | (have H2_ := (Option.bind_some _ _).symm.trans H; rw [hy219]; with_reducible exact H2_) | (have H2_ := (Option.bind_some _ _).symm.trans H; with_reducible exact H2_) | with_reducible exact H | (rw [hy219]; exact H) | exact H
                    have Ny219 := Aside0.mk hy219
                    clear hy219
                    have H' := Aside0.mk H
                    clear H
                    go_wp2_with (first | ((with_reducible refine gate_builtin (b := .append) (xs := #[.tmp 30, .tmp 33]) rfl ?_); at_builtin; refine Kd.R_append (Kd.int .u8) (w0 := w) w.heap.size rfl (.tmp 30) (.tmp 33) 40 5 (.int .u8 0) 1 rfl Try.underlying40 info5 rfl (by decide) (by omega) u1 x1_1 ((x2_1) % 256) [.int .u8 ((x2_1) % 256)] (fun _ => True) (fun _ => False) rfl rfl ?aP (fun _ hk => hk.elim) ?aF ?aO ?aB ?aS ?aL ?_; (case aP => exact rfl); (case aB => exact (by repeat (first | (with_reducible first | exact HB.out | apply below_alloc | apply pw_below_drewN | apply below_drew1) | exact HB.out))); (case aF => exact (fun _ _ => trivial)); (case aO => exact (by (with_reducible repeat (first | apply Kd.R_alloc | apply Kd.R_drewN | apply Kd.R_drew)); exact HO_1.out)); (case aS => exact (below_size (by repeat (first | (with_reducible first | exact HB.out | apply below_alloc | apply pw_below_drewN | apply below_drew1) | exact HB.out)))); (case aL => have := LMc19.out; omega); intro v220 w20 ho hb hg hat; rw [← Ny219.out] at ho; have n0_ := Aside0.mk (hb); have n1_ := Aside0.mk (ho); clear HB; clear HO_1; have HB := n0_; have HO221 := n1_; clear n0_ n1_; clear ho hb hg hat))
                    go_roundg k1
                    case measure => have := HK1.out; omega
                    case rel => exact ⟨(y219), (wrap64 (x2_1 + 1)), (by first | rfl | (simp; done) | (simp [*]; done)), H', ⟨by have := HK1.out; omega⟩, ⟨by (with_reducible repeat (first | apply Kd.R_alloc | apply Kd.R_drewN | apply Kd.R_drew)); exact HO221.out⟩, ⟨by repeat (first | (with_reducible first | exact HB.out | apply below_alloc | apply pw_below_drewN | apply below_drew1) | exact HB.out)⟩⟩
                  · rw [if_neg c19] at H
                    exact absurd H (by simp)
                · rw [if_neg c18] at H
                  have c18b0 : decide (33 ≤ x2_1) = false := decide_eq_false c18
                  clear c18
                  have H' := Aside0.mk H
                  clear H
                  go_wp2
                  go_roundg k1
                  case measure => have := HK1.out; omega
                  case rel => exact ⟨(x1_1), (wrap64 (x2_1 + 1)), (by first | rfl | (simp; done) | (simp [*]; done)), H', ⟨by have := HK1.out; omega⟩, ⟨by (with_reducible repeat (first | apply Kd.R_alloc | apply Kd.R_drewN | apply Kd.R_drew)); exact HO_1.out⟩, ⟨by repeat (first | (with_reducible first | exact HB.out | apply below_alloc | apply pw_below_drewN | apply below_drew1) | exact HB.out)⟩⟩
          · rw [if_neg c7] at H
            have c7b0 : decide (16 ≤ x2_1) = false := decide_eq_false c7
            clear c7
            by_cases c21 : x2_1 ≥ 28
            · rw [if_pos c21] at H
              have c21b0 : decide (28 ≤ x2_1) = true := decide_eq_true c21
              clear c21
              by_cases c22 : x2_1 ≤ 31
              · rw [if_pos c22] at H
                have c22b0 : decide (x2_1 ≤ 31) = true := decide_eq_true c22
                clear c22
                by_cases c23 : x1_1.length < 140737488355328
                · rw [if_pos c23] at H
                  have LMc23 := Aside0.mk c23
                  clear c23
                  obtain ⟨y222, hy222⟩ : ∃ y_ : List Int, y_ = (x1_1 ++ [(x2_1) % 256]) := ⟨_, rfl⟩
                  replace H : (pilcrowref11_Trails.l0 k1 y222 (wrap64 (x2_1 + 1))) = some r := by first | (rw [hy222]; with_reducible exact H) | (have H2_ := (Option.bind_some _ _).symm.trans H; rw [hy222]; with_reducible exact H2_) | (have H2_ := (Option.bind_some _ _).symm.trans H; with_reducible exact H2_) | with_reducible exact H | (rw [hy222]; exact H) | exact H
                  have Ny222 := Aside0.mk hy222
                  clear hy222
                  have H' := Aside0.mk H
                  clear H
                  go_wp2_with (first | ((with_reducible refine gate_builtin (b := .append) (xs := #[.tmp 30, .tmp 33]) rfl ?_); at_builtin; refine Kd.R_append (Kd.int .u8) (w0 := w) w.heap.size rfl (.tmp 30) (.tmp 33) 40 5 (.int .u8 0) 1 rfl Try.underlying40 info5 rfl (by decide) (by omega) u1 x1_1 ((x2_1) % 256) [.int .u8 ((x2_1) % 256)] (fun _ => True) (fun _ => False) rfl rfl ?aP (fun _ hk => hk.elim) ?aF ?aO ?aB ?aS ?aL ?_; (case aP => exact rfl); (case aB => exact (by repeat (first | (with_reducible first | exact HB.out | apply below_alloc | apply pw_below_drewN | apply below_drew1) | exact HB.out))); (case aF => exact (fun _ _ => trivial)); (case aO => exact (by (with_reducible repeat (first | apply Kd.R_alloc | apply Kd.R_drewN | apply Kd.R_drew)); exact HO_1.out)); (case aS => exact (below_size (by repeat (first | (with_reducible first | exact HB.out | apply below_alloc | apply pw_below_drewN | apply below_drew1) | exact HB.out)))); (case aL => have := LMc23.out; omega); intro v223 w24 ho hb hg hat; rw [← Ny222.out] at ho; have n0_ := Aside0.mk (hb); have n1_ := Aside0.mk (ho); clear HB; clear HO_1; have HB := n0_; have HO224 := n1_; clear n0_ n1_; clear ho hb hg hat))
                  go_roundg k1
                  case measure => have := HK1.out; omega
                  case rel => exact ⟨(y222), (wrap64 (x2_1 + 1)), (by first | rfl | (simp; done) | (simp [*]; done)), H', ⟨by have := HK1.out; omega⟩, ⟨by (with_reducible repeat (first | apply Kd.R_alloc | apply Kd.R_drewN | apply Kd.R_drew)); exact HO224.out⟩, ⟨by repeat (first | (with_reducible first | exact HB.out | apply below_alloc | apply pw_below_drewN | apply below_drew1) | exact HB.out)⟩⟩
                · rw [if_neg c23] at H
                  exact absurd H (by simp)
              · rw [if_neg c22] at H
                have c22b0 : decide (x2_1 ≤ 31) = false := decide_eq_false c22
                clear c22
                by_cases c25 : x2_1 ≥ 33
                · rw [if_pos c25] at H
                  have c25b0 : decide (33 ≤ x2_1) = true := decide_eq_true c25
                  clear c25
                  by_cases c26 : x1_1.length < 140737488355328
                  · rw [if_pos c26] at H
                    have LMc26 := Aside0.mk c26
                    clear c26
                    obtain ⟨y225, hy225⟩ : ∃ y_ : List Int, y_ = (x1_1 ++ [(x2_1) % 256]) := ⟨_, rfl⟩
                    replace H : (pilcrowref11_Trails.l0 k1 y225 (wrap64 (x2_1 + 1))) = some r := by first | (rw [hy225]; with_reducible exact H) | (have H2_ := (Option.bind_some _ _).symm.trans H; rw [hy225]; with_reducible exact H2_) | (have H2_ := (Option.bind_some _ _).symm.trans H; with_reducible exact H2_) | with_reducible exact H | (rw [hy225]; exact H) | exact H
                    have Ny225 := Aside0.mk hy225
                    clear hy225
                    have H' := Aside0.mk H
                    clear H
                    go_wp2_with (first | ((with_reducible refine gate_builtin (b := .append) (xs := #[.tmp 30, .tmp 33]) rfl ?_); at_builtin; refine Kd.R_append (Kd.int .u8) (w0 := w) w.heap.size rfl (.tmp 30) (.tmp 33) 40 5 (.int .u8 0) 1 rfl Try.underlying40 info5 rfl (by decide) (by omega) u1 x1_1 ((x2_1) % 256) [.int .u8 ((x2_1) % 256)] (fun _ => True) (fun _ => False) rfl rfl ?aP (fun _ hk => hk.elim) ?aF ?aO ?aB ?aS ?aL ?_; (case aP => exact rfl); (case aB => exact (by repeat (first | (with_reducible first | exact HB.out | apply below_alloc | apply pw_below_drewN | apply below_drew1) | exact HB.out))); (case aF => exact (fun _ _ => trivial)); (case aO => exact (by (with_reducible repeat (first | apply Kd.R_alloc | apply Kd.R_drewN | apply Kd.R_drew)); exact HO_1.out)); (case aS => exact (below_size (by repeat (first | (with_reducible first | exact HB.out | apply below_alloc | apply pw_below_drewN | apply below_drew1) | exact HB.out)))); (case aL => have := LMc26.out; omega); intro v226 w27 ho hb hg hat; rw [← Ny225.out] at ho; have n0_ := Aside0.mk (hb); have n1_ := Aside0.mk (ho); clear HB; clear HO_1; have HB := n0_; have HO227 := n1_; clear n0_ n1_; clear ho hb hg hat))
                    go_roundg k1
                    case measure => have := HK1.out; omega
                    case rel => exact ⟨(y225), (wrap64 (x2_1 + 1)), (by first | rfl | (simp; done) | (simp [*]; done)), H', ⟨by have := HK1.out; omega⟩, ⟨by (with_reducible repeat (first | apply Kd.R_alloc | apply Kd.R_drewN | apply Kd.R_drew)); exact HO227.out⟩, ⟨by repeat (first | (with_reducible first | exact HB.out | apply below_alloc | apply pw_below_drewN | apply below_drew1) | exact HB.out)⟩⟩
                  · rw [if_neg c26] at H
                    exact absurd H (by simp)
                · rw [if_neg c25] at H
                  have c25b0 : decide (33 ≤ x2_1) = false := decide_eq_false c25
                  clear c25
                  have H' := Aside0.mk H
                  clear H
                  go_wp2
                  go_roundg k1
                  case measure => have := HK1.out; omega
                  case rel => exact ⟨(x1_1), (wrap64 (x2_1 + 1)), (by first | rfl | (simp; done) | (simp [*]; done)), H', ⟨by have := HK1.out; omega⟩, ⟨by (with_reducible repeat (first | apply Kd.R_alloc | apply Kd.R_drewN | apply Kd.R_drew)); exact HO_1.out⟩, ⟨by repeat (first | (with_reducible first | exact HB.out | apply below_alloc | apply pw_below_drewN | apply below_drew1) | exact HB.out)⟩⟩
            · rw [if_neg c21] at H
              have c21b0 : decide (28 ≤ x2_1) = false := decide_eq_false c21
              clear c21
              by_cases c28 : x2_1 ≥ 33
              · rw [if_pos c28] at H
                have c28b0 : decide (33 ≤ x2_1) = true := decide_eq_true c28
                clear c28
                by_cases c29 : x1_1.length < 140737488355328
                · rw [if_pos c29] at H
                  have LMc29 := Aside0.mk c29
                  clear c29
                  obtain ⟨y228, hy228⟩ : ∃ y_ : List Int, y_ = (x1_1 ++ [(x2_1) % 256]) := ⟨_, rfl⟩
                  replace H : (pilcrowref11_Trails.l0 k1 y228 (wrap64 (x2_1 + 1))) = some r := by first | (rw [hy228]; with_reducible exact H) | (have H2_ := (Option.bind_some _ _).symm.trans H; rw [hy228]; with_reducible exact H2_) | (have H2_ := (Option.bind_some _ _).symm.trans H; with_reducible exact H2_) | with_reducible exact H | (rw [hy228]; exact H) | exact H
                  have Ny228 := Aside0.mk hy228
                  clear hy228
                  have H' := Aside0.mk H
                  clear H
                  go_wp2_with (first | ((with_reducible refine gate_builtin (b := .append) (xs := #[.tmp 30, .tmp 33]) rfl ?_); at_builtin; refine Kd.R_append (Kd.int .u8) (w0 := w) w.heap.size rfl (.tmp 30) (.tmp 33) 40 5 (.int .u8 0) 1 rfl Try.underlying40 info5 rfl (by decide) (by omega) u1 x1_1 ((x2_1) % 256) [.int .u8 ((x2_1) % 256)] (fun _ => True) (fun _ => False) rfl rfl ?aP (fun _ hk => hk.elim) ?aF ?aO ?aB ?aS ?aL ?_; (case aP => exact rfl); (case aB => exact (by repeat (first | (with_reducible first | exact HB.out | apply below_alloc | apply pw_below_drewN | apply below_drew1) | exact HB.out))); (case aF => exact (fun _ _ => trivial)); (case aO => exact (by (with_reducible repeat (first | apply Kd.R_alloc | apply Kd.R_drewN | apply Kd.R_drew)); exact HO_1.out)); (case aS => exact (below_size (by repeat (first | (with_reducible first | exact HB.out | apply below_alloc | apply pw_below_drewN | apply below_drew1) | exact HB.out)))); (case aL => have := LMc29.out; omega); intro v229 w30 ho hb hg hat; rw [← Ny228.out] at ho; have n0_ := Aside0.mk (hb); have n1_ := Aside0.mk (ho); clear HB; clear HO_1; have HB := n0_; have HO230 := n1_; clear n0_ n1_; clear ho hb hg hat))
                  go_roundg k1
                  case measure => have := HK1.out; omega
                  case rel => exact ⟨(y228), (wrap64 (x2_1 + 1)), (by first | rfl | (simp; done) | (simp [*]; done)), H', ⟨by have := HK1.out; omega⟩, ⟨by (with_reducible repeat (first | apply Kd.R_alloc | apply Kd.R_drewN | apply Kd.R_drew)); exact HO230.out⟩, ⟨by repeat (first | (with_reducible first | exact HB.out | apply below_alloc | apply pw_below_drewN | apply below_drew1) | exact HB.out)⟩⟩
                · rw [if_neg c29] at H
                  exact absurd H (by simp)
              · rw [if_neg c28] at H
                have c28b0 : decide (33 ≤ x2_1) = false := decide_eq_false c28
                clear c28
                have H' := Aside0.mk H
                clear H
                go_wp2
                go_roundg k1
                case measure => have := HK1.out; omega
                case rel => exact ⟨(x1_1), (wrap64 (x2_1 + 1)), (by first | rfl | (simp; done) | (simp [*]; done)), H', ⟨by have := HK1.out; omega⟩, ⟨by (with_reducible repeat (first | apply Kd.R_alloc | apply Kd.R_drewN | apply Kd.R_drew)); exact HO_1.out⟩, ⟨by repeat (first | (with_reducible first | exact HB.out | apply below_alloc | apply pw_below_drewN | apply below_drew1) | exact HB.out)⟩⟩
      · rw [if_neg c3] at H
        have c3b0 : decide (x2_1 < 256) = false := decide_eq_false c3
        clear c3
        obtain rfl := Option.some.inj H
        go_wp2
        go_ret
        exact ⟨_, by first | rfl | (simp [errW_none, errW_some] <;> rfl) | (simp [*, errW_none, errW_some] <;> rfl), by (with_reducible repeat (first | apply Kd.R_alloc | apply Kd.R_drewN | apply Kd.R_drew)); exact HO_1.out, by repeat (first | (with_reducible first | exact HB.out | apply below_alloc | apply pw_below_drewN | apply below_drew1) | exact HB.out)⟩

/-! ### pilcrowref11_Pack: function 26 -/
mutual
def pilcrowref11_Pack.l0 : Nat → Int → Int → Int → Option (ByteArray)
  | 0, _, _, _ => none
  | k + 1, x0, x3, x4 => if x4 ≤ 254 then ((pilcrowref11_Least.f k ((x4) % 256)).bind fun bt231 => (if bt231.1 ≤ x0 then (pilcrowref11_Pack.l0 k x0 ((x4) % 256) (wrap64 (x4 + 1))) else (pilcrowref11_Pack.l0 k x0 x3 (wrap64 (x4 + 1))))) else ((pilcrowref11_Least.f k x3).bind fun bt233 => (pilcrowref11_Pack.l1 k x3 bt233.2 (wrap64 (x0 - bt233.1)) (([] : List Int)) 0))
def pilcrowref11_Pack.l1 : Nat → Int → Int → Int → List Int → Int → Option (ByteArray)
  | 0, _, _, _, _, _ => none
  | k + 1, x3, x8, x9, x10, x11 => if x11 < x8 then ((pilcrowref11_Trails.f k).bind fun t238 => (if 0 ≤ (Int.tmod x9 243) then (if (Int.tmod x9 243) < (t238.length : Int) then ((some (([rd t238 (Int.tmod x9 243)] : List Int) : List Int)).bind fun y242 => (if y242.length + x10.length < 140737488355328 then (pilcrowref11_Pack.l1 k x3 x8 (wrap64 (Int.tdiv x9 243)) (y242 ++ x10) (wrap64 (x11 + 1))) else (none))) else (none)) else (none))) else ((some (([x3] : List Int) : List Int)).bind fun y248 => (if y248.length + x10.length < 140737488355328 then (some (strOfNums (y248 ++ x10))) else (none)))
end
def pilcrowref11_Pack.f (k : Nat) (a0 : Int) : Option (ByteArray) := pilcrowref11_Pack.l0 k a0 33 34
theorem pilcrowref11_Pack.mono_l : ∀ k, (∀ y0 y1 y2, LeO (pilcrowref11_Pack.l0 k y0 y1 y2) (pilcrowref11_Pack.l0 (k + 1) y0 y1 y2)) ∧ (∀ y0 y1 y2 y3 y4, LeO (pilcrowref11_Pack.l1 k y0 y1 y2 y3 y4) (pilcrowref11_Pack.l1 (k + 1) y0 y1 y2 y3 y4))
  | 0 => ⟨fun _ _ _ r h => by simp [pilcrowref11_Pack.l0] at h, fun _ _ _ _ _ r h => by simp [pilcrowref11_Pack.l1] at h⟩
  | k + 1 => by
    obtain ⟨ih0, ih1⟩ := pilcrowref11_Pack.mono_l k
    refine ⟨?_, ?_⟩
    · intro y0 y1 y2
      unfold pilcrowref11_Pack.l0
      repeat' first
      | (with_reducible exact ih0 _ _ _)
      | (with_reducible exact ih1 _ _ _ _ _)
      | (with_reducible exact pilcrowref11_Least.mono _ _)
      | (with_reducible exact pilcrowref11_Trails.mono _)
      | (with_reducible exact LeO.refl _)
      | (with_reducible exact LeO.none _)
      | (with_reducible refine LeO.ite ?_ ?_)
      | (with_reducible refine LeO.bind ?_ (fun _ => ?_))
      | exact ih0 _ _ _
      | exact ih1 _ _ _ _ _
      | exact pilcrowref11_Least.mono _ _
      | exact pilcrowref11_Trails.mono _
      | exact LeO.none _
      | refine LeO.ite ?_ ?_
      | refine LeO.bind ?_ (fun _ => ?_)
    · intro y0 y1 y2 y3 y4
      unfold pilcrowref11_Pack.l1
      repeat' first
      | (with_reducible exact ih0 _ _ _)
      | (with_reducible exact ih1 _ _ _ _ _)
      | (with_reducible exact pilcrowref11_Least.mono _ _)
      | (with_reducible exact pilcrowref11_Trails.mono _)
      | (with_reducible exact LeO.refl _)
      | (with_reducible exact LeO.none _)
      | (with_reducible refine LeO.ite ?_ ?_)
      | (with_reducible refine LeO.bind ?_ (fun _ => ?_))
      | exact ih0 _ _ _
      | exact ih1 _ _ _ _ _
      | exact pilcrowref11_Least.mono _ _
      | exact pilcrowref11_Trails.mono _
      | exact LeO.none _
      | refine LeO.ite ?_ ?_
      | refine LeO.bind ?_ (fun _ => ?_)
theorem pilcrowref11_Pack.mono : ∀ a0 k, LeO (pilcrowref11_Pack.f k a0) (pilcrowref11_Pack.f (k + 1) a0) := by
  intro a0 k
  obtain ⟨ih0, ih1⟩ := pilcrowref11_Pack.mono_l k
  unfold pilcrowref11_Pack.f
  repeat' first
      | (with_reducible exact ih0 _ _ _)
      | (with_reducible exact ih1 _ _ _ _ _)
      | (with_reducible exact pilcrowref11_Least.mono _ _)
      | (with_reducible exact pilcrowref11_Trails.mono _)
      | (with_reducible exact LeO.refl _)
      | (with_reducible exact LeO.none _)
      | (with_reducible refine LeO.ite ?_ ?_)
      | (with_reducible refine LeO.bind ?_ (fun _ => ?_))
      | exact ih0 _ _ _
      | exact ih1 _ _ _ _ _
      | exact pilcrowref11_Least.mono _ _
      | exact pilcrowref11_Trails.mono _
      | exact LeO.none _
      | refine LeO.ite ?_ ?_
      | refine LeO.bind ?_ (fun _ => ?_)
set_option maxHeartbeats 8000000 in
set_option maxRecDepth 100000 in
theorem pilcrowref11_Pack.calls (k : Nat) (a0 : Int) (r : ByteArray) (w : World) (h : pilcrowref11_Pack.f k a0 = some r) :
    Calls Try.prog 26 #[.int .i64 a0] w fun e w' => e = .returned (.string r) ∧ Below w.heap.size w w' := by
  have HB := Aside0.mk (Below.refl w.heap.size w)
  have H : (pilcrowref11_Pack.l0 k a0 33 34) = some r := h
  clear h
  have H' := Aside0.mk H
  clear H
  go_enter Try.func26, Try.ntmps26
  go_wp2
  go_loopg [3, 4] k (fun kq v3 v4 w' => ∃ (x3_1 : Int) (x4_1 : Int), v3 = .int .u8 x3_1 ∧ v4 = .int .i64 x4_1 ∧ Aside0 (pilcrowref11_Pack.l0 kq a0 x3_1 x4_1 = some r) ∧ Aside0 (kq ≤ k) ∧ Aside0 (Below w.heap.size w w'))
  case atStart => exact ⟨(33), (34), (by first | rfl | (simp; done) | (simp [*]; done)), (by first | rfl | (simp; done) | (simp [*]; done)), H', ⟨Nat.le_refl _⟩, ⟨by repeat (first | (with_reducible first | exact HB.out | apply below_alloc | apply pw_below_drewN | apply below_drew1) | exact HB.out)⟩⟩
  case round =>
    clear H'
    obtain ⟨x3_1, x4_1, rfl, rfl, HA, HK1, HB⟩ := hrel
    cases gk with
    | zero => exact absurd HA.out (by simp [pilcrowref11_Pack.l0])
    | succ k1 =>
      have H := HA.out
      clear HA
      simp only [pilcrowref11_Pack.l0] at H
      by_cases c2 : x4_1 ≤ 254
      · rw [if_pos c2] at H
        have c2b0 : decide (x4_1 ≤ 254) = true := decide_eq_true c2
        clear c2
        replace H := Option.bind_eq_some_iff.mp H
        obtain ⟨⟨t231, t232⟩, A30, H⟩ := H
        replace H : (if t231 ≤ a0 then (pilcrowref11_Pack.l0 k1 a0 ((x4_1) % 256) (wrap64 (x4_1 + 1))) else (pilcrowref11_Pack.l0 k1 a0 x3_1 (wrap64 (x4_1 + 1)))) = some r := H
        have A3 := Aside0.mk A30
        clear A30
        by_cases c4 : t231 ≤ a0
        · rw [if_pos c4] at H
          have c4b0 : decide (t231 ≤ a0) = true := decide_eq_true c4
          clear c4
          have H' := Aside0.mk H
          clear H
          go_wp2_with (first | ((with_reducible refine gate_callee (f := 38) rfl ?_); refine goesL_ (some 19) rfl rfl Try.func38 (by kernel_rfl) rfl #[.int .u8 ((x4_1) % 256)] rfl (by (try simp only [List.map_toArray, List.map_cons, List.map_nil]); first | done | rfl | (simp only [List.length_drop, List.length_take]; rfl)) ?_; (with_reducible refine (pilcrowref11_Least.calls k1 ((x4_1) % 256) t231 t232 _ A3.out).mono ?_); rintro e w' ⟨rfl, ⟨nd, rfl⟩⟩; refine ⟨_, rfl, ?_⟩))
          go_roundg k1
          case measure => have := HK1.out; omega
          case rel => exact ⟨((x4_1) % 256), (wrap64 (x4_1 + 1)), (by first | rfl | (simp; done) | (simp [*]; done)), (by first | rfl | (simp; done) | (simp [*]; done)), H', ⟨by have := HK1.out; omega⟩, ⟨by repeat (first | (with_reducible first | exact HB.out | apply below_alloc | apply pw_below_drewN | apply below_drew1) | exact HB.out)⟩⟩
        · rw [if_neg c4] at H
          have c4b0 : decide (t231 ≤ a0) = false := decide_eq_false c4
          clear c4
          have H' := Aside0.mk H
          clear H
          go_wp2_with (first | ((with_reducible refine gate_callee (f := 38) rfl ?_); refine goesL_ (some 19) rfl rfl Try.func38 (by kernel_rfl) rfl #[.int .u8 ((x4_1) % 256)] rfl (by (try simp only [List.map_toArray, List.map_cons, List.map_nil]); first | done | rfl | (simp only [List.length_drop, List.length_take]; rfl)) ?_; (with_reducible refine (pilcrowref11_Least.calls k1 ((x4_1) % 256) t231 t232 _ A3.out).mono ?_); rintro e w' ⟨rfl, ⟨nd, rfl⟩⟩; refine ⟨_, rfl, ?_⟩))
          go_roundg k1
          case measure => have := HK1.out; omega
          case rel => exact ⟨(x3_1), (wrap64 (x4_1 + 1)), (by first | rfl | (simp; done) | (simp [*]; done)), (by first | rfl | (simp; done) | (simp [*]; done)), H', ⟨by have := HK1.out; omega⟩, ⟨by repeat (first | (with_reducible first | exact HB.out | apply below_alloc | apply pw_below_drewN | apply below_drew1) | exact HB.out)⟩⟩
      · rw [if_neg c2] at H
        have c2b0 : decide (x4_1 ≤ 254) = false := decide_eq_false c2
        clear c2
        replace H := Option.bind_eq_some_iff.mp H
        obtain ⟨⟨t233, t234⟩, A50, H⟩ := H
        replace H : (pilcrowref11_Pack.l1 k1 x3_1 t234 (wrap64 (a0 - t233)) (([] : List Int)) 0) = some r := H
        have A5 := Aside0.mk A50
        clear A50
        obtain ⟨y235, hy235⟩ : ∃ y_ : List Int, y_ = (([] : List Int)) := ⟨_, rfl⟩
        replace H : (pilcrowref11_Pack.l1 k1 x3_1 t234 (wrap64 (a0 - t233)) y235 0) = some r := by first | (rw [hy235]; with_reducible exact H) | (have H2_ := (Option.bind_some _ _).symm.trans H; rw [hy235]; with_reducible exact H2_) | (have H2_ := (Option.bind_some _ _).symm.trans H; with_reducible exact H2_) | with_reducible exact H | (rw [hy235]; exact H) | exact H
        have Ny235 := Aside0.mk hy235
        clear hy235
        have H' := Aside0.mk H
        clear H
        go_wp2_with (first | ((with_reducible refine gate_callee (f := 38) rfl ?_); refine goesL_ (some 29) rfl rfl Try.func38 (by kernel_rfl) rfl #[.int .u8 x3_1] rfl (by (try simp only [List.map_toArray, List.map_cons, List.map_nil]); first | done | rfl | (simp only [List.length_drop, List.length_take]; rfl)) ?_; (with_reducible refine (pilcrowref11_Least.calls k1 x3_1 t233 t234 _ A5.out).mono ?_); rintro e w' ⟨rfl, ⟨nd, rfl⟩⟩; refine ⟨_, rfl, ?_⟩) | ((with_reducible refine gate_dst (N := 35) rfl ?_); refine Kd.R_lit (Kd.int .u8) _ 5 ?hg (N := 35) ?hd (xs := ([] : List Int)) (inner := []) (ok := fun _ => True) (okp := fun _ => True) ?hr ?hp (fun _ hk => hk) trivial (Below.refl _ _) (Nat.le_refl _) (by simp) ?_; (case hd => rfl); (case hg => rfl); (case hr => first | (go_simp; done) | (go_simp; with_reducible rfl) | (go_simp; simp only [IntKind.wrap_u8, IntKind.wrap_u32, Int.emod_emod_of_dvd _ (show (256 : Int) ∣ 4294967296 by decide)]; done) | (go_simp; repeat (first | (with_reducible rfl) | omega | congr 1))); (case hp => exact (Reps.none _ _)); intro v236 w6 ho7 hb hg_ hnew_; clear hg_ hnew_; (first | rw [← Ny235.out] at ho7 | (simp only [Int.reduceToNat] at ho7; rw [← Ny235.out] at ho7)); have n0_ := Aside0.mk (Kd.R_lower ho7 (below_size (by repeat (first | (with_reducible first | exact HB.out | apply below_alloc | apply pw_below_drewN | apply below_drew1) | exact HB.out)))); have n1_ := Aside0.mk (below_step (by repeat (first | (with_reducible first | exact HB.out | apply below_alloc | apply pw_below_drewN | apply below_drew1) | exact HB.out)) hb); clear HB; have HO237 := n0_; have HB := n1_; clear n0_ n1_; clear hb ho7))
        go_loopg [9, 10, 11] k1 (fun kq v9 v10 v11 w' => ∃ (x9_2 : Int) (x10_2 : List Int) (x11_2 : Int), v9 = .int .i64 x9_2 ∧ v11 = .int .i64 x11_2 ∧ Aside0 (pilcrowref11_Pack.l1 kq x3_1 t234 x9_2 x10_2 x11_2 = some r) ∧ Aside0 (kq ≤ k1) ∧ Aside0 (Kd.R (Kd.int .u8) 5 w' w.heap.size (fun _ => True) v10 x10_2) ∧ Aside0 (Below w.heap.size w w'))
        case atStart => exact ⟨(wrap64 (a0 - t233)), (y235), (0), (by first | rfl | (simp; done) | (simp [*]; done)), (by first | rfl | (simp; done) | (simp [*]; done)), H', ⟨Nat.le_refl _⟩, ⟨by (with_reducible repeat (first | apply Kd.R_alloc | apply Kd.R_drewN | apply Kd.R_drew)); exact HO237.out⟩, ⟨by repeat (first | (with_reducible first | exact HB.out | apply below_alloc | apply pw_below_drewN | apply below_drew1) | exact HB.out)⟩⟩
        case round =>
          clear H'
          try clear c2
          try clear c2b0
          try clear p2
          try clear c3
          try clear c4
          try clear c4b0
          try clear p6
          obtain ⟨x9_2, x10_2, x11_2, rfl, rfl, HA, HK2, HO_10, HB⟩ := hrel
          cases gk with
          | zero => exact absurd HA.out (by simp [pilcrowref11_Pack.l1])
          | succ k2 =>
            have H := HA.out
            clear HA
            simp only [pilcrowref11_Pack.l1] at H
            by_cases c8 : x11_2 < t234
            · rw [if_pos c8] at H
              have c8b0 : decide (x11_2 < t234) = true := decide_eq_true c8
              clear c8
              replace H := Option.bind_eq_some_iff.mp H
              obtain ⟨t238, A90, H⟩ := H
              replace H : (if 0 ≤ (Int.tmod x9_2 243) then (if (Int.tmod x9_2 243) < (t238.length : Int) then ((some (([rd t238 (Int.tmod x9_2 243)] : List Int) : List Int)).bind fun y242 => (if y242.length + x10_2.length < 140737488355328 then (pilcrowref11_Pack.l1 k2 x3_1 t234 (wrap64 (Int.tdiv x9_2 243)) (y242 ++ x10_2) (wrap64 (x11_2 + 1))) else (none))) else (none)) else (none)) = some r := H
              have A9 := Aside0.mk A90
              clear A90
              obtain ⟨ji10, hji10⟩ : ∃ j_ : Int, (Int.tmod x9_2 243) = j_ := ⟨_, rfl⟩
              replace H : (if 0 ≤ (ji10) then (if (ji10) < (t238.length : Int) then ((some (([rd t238 (ji10)] : List Int) : List Int)).bind fun y242 => (if y242.length + x10_2.length < 140737488355328 then (pilcrowref11_Pack.l1 k2 x3_1 t234 (wrap64 (Int.tdiv x9_2 243)) (y242 ++ x10_2) (wrap64 (x11_2 + 1))) else (none))) else (none)) else (none)) = some r := by first | (rw [hji10] at H; exact H) | (simp only [hji10] at H ⊢; exact H)
              (try rw [hji10] at A9)
              by_cases c11 : 0 ≤ (ji10)
              · rw [if_pos c11] at H
                have c11b0 : decide (0 ≤ (ji10)) = true := decide_eq_true c11
                clear c11
                by_cases c12 : (ji10) < (t238.length : Int)
                · rw [if_pos c12] at H
                  have c12b0 : decide ((ji10) < (t238.length : Int)) = true := decide_eq_true c12
                  clear c12
                  obtain ⟨y242, hy242⟩ : ∃ y_ : List Int, y_ = (([rd t238 (ji10)] : List Int)) := ⟨_, rfl⟩
                  replace H : (if y242.length + x10_2.length < 140737488355328 then (pilcrowref11_Pack.l1 k2 x3_1 t234 (wrap64 (Int.tdiv x9_2 243)) (y242 ++ x10_2) (wrap64 (x11_2 + 1))) else (none)) = some r := by first | (rw [hy242]; with_reducible exact H) | (have H2_ := (Option.bind_some _ _).symm.trans H; rw [hy242]; with_reducible exact H2_) | (have H2_ := (Option.bind_some _ _).symm.trans H; with_reducible exact H2_) | with_reducible exact H | (rw [hy242]; exact H) | exact H
                  have Ny242 := Aside0.mk hy242
                  clear hy242
                  by_cases c13 : y242.length + x10_2.length < 140737488355328
                  · rw [if_pos c13] at H
                    have LMc13 := Aside0.mk c13
                    clear c13
                    obtain ⟨y245, hy245⟩ : ∃ y_ : List Int, y_ = (y242 ++ x10_2) := ⟨_, rfl⟩
                    replace H : (pilcrowref11_Pack.l1 k2 x3_1 t234 (wrap64 (Int.tdiv x9_2 243)) y245 (wrap64 (x11_2 + 1))) = some r := by first | (rw [hy245]; with_reducible exact H) | (have H2_ := (Option.bind_some _ _).symm.trans H; rw [hy245]; with_reducible exact H2_) | (have H2_ := (Option.bind_some _ _).symm.trans H; with_reducible exact H2_) | with_reducible exact H | (rw [hy245]; exact H) | exact H
                    have Ny245 := Aside0.mk hy245
                    clear hy245
                    have H' := Aside0.mk H
                    clear H
                    go_wp2_with (first | ((with_reducible refine gate_callee (f := 39) rfl ?_); refine goesL_ (some 41) rfl rfl Try.func39 (by kernel_rfl) rfl #[] rfl (by (try simp only [List.map_toArray, List.map_cons, List.map_nil]); first | done | rfl | (simp only [List.length_drop, List.length_take]; rfl)) ?_; (with_reducible refine (pilcrowref11_Trails.calls k2  t238 _ A9.out).mono ?_); rintro e w14 ⟨v239, rfl, ho0, hb⟩; refine ⟨_, rfl, ?_⟩; have n0_ := Aside0.mk (Kd.R_elder' (by (with_reducible repeat (first | apply Kd.R_alloc | apply Kd.R_drewN | apply Kd.R_drew)); exact HO_10.out) (Kd.R_base ho0) hb); have n1_ := Aside0.mk (Kd.R_lower (Kd.R_new' ho0 (Kd.R_lt (by (with_reducible repeat (first | apply Kd.R_alloc | apply Kd.R_drewN | apply Kd.R_drew)); exact HO_10.out))) (below_size (by repeat (first | (with_reducible first | exact HB.out | apply below_alloc | apply pw_below_drewN | apply below_drew1) | exact HB.out)))); have n2_ := Aside0.mk (below_step (by repeat (first | (with_reducible first | exact HB.out | apply below_alloc | apply pw_below_drewN | apply below_drew1) | exact HB.out)) hb); clear HO_10; clear HB; have HO_10 := n0_; have HO240 := n1_; have HB := n2_; clear n0_ n1_ n2_; (try clear hb); (try clear hb2); (try clear hk); (try clear hi); (try clear ho0); obtain ⟨Ao15, co15, eo15⟩ := Kd.R_slice HO240.out; subst eo15; have p241 : 0 ≤ ((ji10) : Int) := of_decide_eq_true (by first | (with_reducible assumption) | assumption); have q241 : (ji10) < (t238.length : Int) := of_decide_eq_true (by first | (with_reducible assumption) | assumption); obtain ⟨ad241, e241, hx241_0⟩ := Kd.at_int (Kd.R_reads' HO240.out).2.2 (ji10) p241 q241; cases e241; replace p241 := eq_true p241; replace q241 := eq_true q241) | ((with_reducible refine gate_dst (N := 46) rfl ?_); refine Kd.R_lit (Kd.int .u8) _ 5 ?hg (N := 46) ?hd (xs := ([rd t238 (ji10)] : List Int)) (inner := [.int .u8 (rd t238 (ji10))]) (ok := fun _ => True) (okp := fun _ => True) ?hr ?hp (fun _ hk => hk) trivial (Below.refl _ _) (Nat.le_refl _) (by simp) ?_; (case hd => rfl); (case hg => rfl); (case hr => first | (go_simp; done) | (go_simp; with_reducible rfl) | (go_simp; simp only [IntKind.wrap_u8, IntKind.wrap_u32, Int.emod_emod_of_dvd _ (show (256 : Int) ∣ 4294967296 by decide)]; done) | (go_simp; repeat (first | (with_reducible rfl) | omega | congr 1))); (case hp => exact (Reps.one (show Kd.M (Kd.int .u8) _ _ _ (rd t238 (ji10)) [.int .u8 (rd t238 (ji10))] from rfl) (Reps.none _ _))); intro v243 w16 ho17 hb hg_ hnew_; clear hg_ hnew_; (first | rw [← Ny242.out] at ho17 | (simp only [Int.reduceToNat] at ho17; rw [← Ny242.out] at ho17)); have n0_ := Aside0.mk (Kd.R_elder' (by (with_reducible repeat (first | apply Kd.R_alloc | apply Kd.R_drewN | apply Kd.R_drew)); exact HO_10.out) (Kd.R_base ho17) hb); have n1_ := Aside0.mk (Kd.R_elder' (by (with_reducible repeat (first | apply Kd.R_alloc | apply Kd.R_drewN | apply Kd.R_drew)); exact HO240.out) (Kd.R_base ho17) hb); have n2_ := Aside0.mk (Kd.R_lower (Kd.R_new' (Kd.R_new' ho17 (Kd.R_lt (by (with_reducible repeat (first | apply Kd.R_alloc | apply Kd.R_drewN | apply Kd.R_drew)); exact HO_10.out))) (Kd.R_lt (by (with_reducible repeat (first | apply Kd.R_alloc | apply Kd.R_drewN | apply Kd.R_drew)); exact HO240.out))) (below_size (by repeat (first | (with_reducible first | exact HB.out | apply below_alloc | apply pw_below_drewN | apply below_drew1) | exact HB.out)))); have n3_ := Aside0.mk (below_step (by repeat (first | (with_reducible first | exact HB.out | apply below_alloc | apply pw_below_drewN | apply below_drew1) | exact HB.out)) hb); clear HO_10; clear HO240; clear HB; have HO_10 := n0_; have HO240 := n1_; have HO244 := n2_; have HB := n3_; clear n0_ n1_ n2_ n3_; clear hb ho17; obtain ⟨Ao19, co19, eo19⟩ := Kd.R_slice HO_10.out; subst eo19) | ((with_reducible refine gate_builtin (b := .append) (xs := #[.tmp 46, .tmp 47]) rfl ?_); at_builtin; refine Kd.R_append_rows (Kd.int .u8) (w0 := w) w.heap.size rfl (.tmp 46) (.tmp 47) 40 5 (.int .u8 0) 1 rfl Try.underlying40 info5 rfl (by decide) (by omega) v243 y242 x10_2 _ _ _ (fun k_ => some k_ ≠ (.slice Ao19 x10_2.length co19 : Value).ownBlock ∧ some k_ ≠ (.slice (some ad241) t238.length co15 : Value).ownBlock) (fun _ => False) rfl rfl ?aO ?aR (fun _ _ h => h) (fun _ h => h.elim) ?aF ?aB ?aS ?aL ?_; (case aR => repeat (first | exact (Kd.R_reads' HO_10.out).2.2 | (with_reducible refine Kd.C_alloc ?_ _) | (with_reducible refine Kd.C_drewN ?_ _) | (with_reducible refine Kd.C_drew ?_))); (case aB => exact (by repeat (first | (with_reducible first | exact HB.out | apply below_alloc | apply pw_below_drewN | apply below_drew1) | exact HB.out))); (case aF => exact (fun k_ hk => ⟨Kd.fresh' (Kd.R_lt (by (with_reducible repeat (first | apply Kd.R_alloc | apply Kd.R_drewN | apply Kd.R_drew)); exact HO_10.out)) k_ hk, Kd.fresh' (Kd.R_lt (by (with_reducible repeat (first | apply Kd.R_alloc | apply Kd.R_drewN | apply Kd.R_drew)); exact HO240.out)) k_ hk⟩)); (case aO => exact (by (with_reducible repeat (first | apply Kd.R_alloc | apply Kd.R_drewN | apply Kd.R_drew)); exact Kd.R_mono HO244.out (fun _ hk => ⟨hk.1.2, hk.2⟩))); (case aS => exact (below_size (by repeat (first | (with_reducible first | exact HB.out | apply below_alloc | apply pw_below_drewN | apply below_drew1) | exact HB.out)))); (case aL => have := LMc13.out; omega); intro v246 w18 ho hb hg hat; rw [← Ny245.out] at ho; have n0_ := Aside0.mk (Kd.R_after (ok := (fun k_ => some k_ ≠ (.slice (some ad241) t238.length co15 : Value).ownBlock)) (by (with_reducible repeat (first | apply Kd.R_alloc | apply Kd.R_drewN | apply Kd.R_drew)); exact Kd.R_mono HO_10.out (fun _ hk => ⟨hk.1.2, hk.2⟩)) hg hat); have n1_ := Aside0.mk (Kd.R_after (ok := (fun k_ => some k_ ≠ (.slice Ao19 x10_2.length co19 : Value).ownBlock)) (by (with_reducible repeat (first | apply Kd.R_alloc | apply Kd.R_drewN | apply Kd.R_drew)); exact Kd.R_mono HO240.out (fun _ hk => ⟨hk.1.2, hk.2⟩)) hg hat); have n2_ := Aside0.mk (hb); have n3_ := Aside0.mk (ho); clear HO_10; clear HO240; clear HB; clear HO244; have HO_10 := n0_; have HO240 := n1_; have HB := n2_; have HO247 := n3_; clear n0_ n1_ n2_ n3_; clear ho hb hg hat))
                    go_roundg k2
                    case measure => have := HK1.out; have := HK2.out; omega
                    case rel => exact ⟨(wrap64 (Int.tdiv x9_2 243)), (y245), (wrap64 (x11_2 + 1)), (by first | rfl | (simp; done) | (simp [*]; done)), (by first | rfl | (simp; done) | (simp [*]; done)), H', ⟨by have := HK1.out; have := HK2.out; omega⟩, ⟨by (with_reducible repeat (first | apply Kd.R_alloc | apply Kd.R_drewN | apply Kd.R_drew)); exact Kd.R_mono HO247.out (fun _ hk => trivial)⟩, ⟨by repeat (first | (with_reducible first | exact HB.out | apply below_alloc | apply pw_below_drewN | apply below_drew1) | exact HB.out)⟩⟩
                  · rw [if_neg c13] at H
                    exact absurd H (by simp)
                · rw [if_neg c12] at H
                  exact absurd H (by simp)
              · rw [if_neg c11] at H
                exact absurd H (by simp)
            · rw [if_neg c8] at H
              have c8b0 : decide (x11_2 < t234) = false := decide_eq_false c8
              clear c8
              obtain ⟨y248, hy248⟩ : ∃ y_ : List Int, y_ = (([x3_1] : List Int)) := ⟨_, rfl⟩
              replace H : (if y248.length + x10_2.length < 140737488355328 then (some (strOfNums (y248 ++ x10_2))) else (none)) = some r := by first | (rw [hy248]; with_reducible exact H) | (have H2_ := (Option.bind_some _ _).symm.trans H; rw [hy248]; with_reducible exact H2_) | (have H2_ := (Option.bind_some _ _).symm.trans H; with_reducible exact H2_) | with_reducible exact H | (rw [hy248]; exact H) | exact H
              have Ny248 := Aside0.mk hy248
              clear hy248
              by_cases c20 : y248.length + x10_2.length < 140737488355328
              · rw [if_pos c20] at H
                have LMc20 := Aside0.mk c20
                clear c20
                obtain ⟨y251, hy251⟩ : ∃ y_ : List Int, y_ = (y248 ++ x10_2) := ⟨_, rfl⟩
                replace H : (some (strOfNums y251)) = some r := by first | (rw [hy251]; with_reducible exact H) | (have H2_ := (Option.bind_some _ _).symm.trans H; rw [hy251]; with_reducible exact H2_) | (have H2_ := (Option.bind_some _ _).symm.trans H; with_reducible exact H2_) | with_reducible exact H | (rw [hy251]; exact H) | exact H
                have Ny251 := Aside0.mk hy251
                clear hy251
                obtain rfl := Option.some.inj H
                go_wp2_with (first | ((with_reducible refine gate_dst (N := 52) rfl ?_); refine Kd.R_lit (Kd.int .u8) _ 5 ?hg (N := 52) ?hd (xs := ([x3_1] : List Int)) (inner := [.int .u8 x3_1]) (ok := fun _ => True) (okp := fun _ => True) ?hr ?hp (fun _ hk => hk) trivial (Below.refl _ _) (Nat.le_refl _) (by simp) ?_; (case hd => rfl); (case hg => rfl); (case hr => first | (go_simp; done) | (go_simp; with_reducible rfl) | (go_simp; simp only [IntKind.wrap_u8, IntKind.wrap_u32, Int.emod_emod_of_dvd _ (show (256 : Int) ∣ 4294967296 by decide)]; done) | (go_simp; repeat (first | (with_reducible rfl) | omega | congr 1))); (case hp => exact (Reps.one (show Kd.M (Kd.int .u8) _ _ _ x3_1 [.int .u8 x3_1] from rfl) (Reps.none _ _))); intro v249 w21 ho22 hb hg_ hnew_; clear hg_ hnew_; (first | rw [← Ny248.out] at ho22 | (simp only [Int.reduceToNat] at ho22; rw [← Ny248.out] at ho22)); have n0_ := Aside0.mk (Kd.R_elder' (by (with_reducible repeat (first | apply Kd.R_alloc | apply Kd.R_drewN | apply Kd.R_drew)); exact HO_10.out) (Kd.R_base ho22) hb); have n1_ := Aside0.mk (Kd.R_lower (Kd.R_new' ho22 (Kd.R_lt (by (with_reducible repeat (first | apply Kd.R_alloc | apply Kd.R_drewN | apply Kd.R_drew)); exact HO_10.out))) (below_size (by repeat (first | (with_reducible first | exact HB.out | apply below_alloc | apply pw_below_drewN | apply below_drew1) | exact HB.out)))); have n2_ := Aside0.mk (below_step (by repeat (first | (with_reducible first | exact HB.out | apply below_alloc | apply pw_below_drewN | apply below_drew1) | exact HB.out)) hb); clear HO_10; clear HB; have HO_10 := n0_; have HO250 := n1_; have HB := n2_; clear n0_ n1_ n2_; clear hb ho22; obtain ⟨Ao24, co24, eo24⟩ := Kd.R_slice HO_10.out; subst eo24) | ((with_reducible refine gate_builtin (b := .append) (xs := #[.tmp 52, .tmp 53]) rfl ?_); at_builtin; refine Kd.R_append_rows (Kd.int .u8) (w0 := w) w.heap.size rfl (.tmp 52) (.tmp 53) 40 5 (.int .u8 0) 1 rfl Try.underlying40 info5 rfl (by decide) (by omega) v249 y248 x10_2 _ _ _ (fun k_ => some k_ ≠ (.slice Ao24 x10_2.length co24 : Value).ownBlock) (fun _ => False) rfl rfl ?aO ?aR (fun _ _ h => h) (fun _ h => h.elim) ?aF ?aB ?aS ?aL ?_; (case aR => repeat (first | exact (Kd.R_reads' HO_10.out).2.2 | (with_reducible refine Kd.C_alloc ?_ _) | (with_reducible refine Kd.C_drewN ?_ _) | (with_reducible refine Kd.C_drew ?_))); (case aB => exact (by repeat (first | (with_reducible first | exact HB.out | apply below_alloc | apply pw_below_drewN | apply below_drew1) | exact HB.out))); (case aF => exact (fun k_ hk => Kd.fresh' (Kd.R_lt (by (with_reducible repeat (first | apply Kd.R_alloc | apply Kd.R_drewN | apply Kd.R_drew)); exact HO_10.out)) k_ hk)); (case aO => exact (by (with_reducible repeat (first | apply Kd.R_alloc | apply Kd.R_drewN | apply Kd.R_drew)); exact Kd.R_mono HO250.out (fun _ hk => hk.2))); (case aS => exact (below_size (by repeat (first | (with_reducible first | exact HB.out | apply below_alloc | apply pw_below_drewN | apply below_drew1) | exact HB.out)))); (case aL => have := LMc20.out; omega); intro v252 w23 ho hb hg hat; rw [← Ny251.out] at ho; have n0_ := Aside0.mk (Kd.R_after (ok := (fun _ => True)) (by (with_reducible repeat (first | apply Kd.R_alloc | apply Kd.R_drewN | apply Kd.R_drew)); exact HO_10.out) hg hat); have n1_ := Aside0.mk (hb); have n2_ := Aside0.mk (ho); clear HO_10; clear HB; clear HO250; have HO_10 := n0_; have HB := n1_; have HO253 := n2_; clear n0_ n1_ n2_; clear ho hb hg hat; have hcv25 := own_string (P := Try.prog) Try.underlying40 Try.underlying5 Try.underlying9 (Kd.own_of_R HO253.out)))
                go_ret
                exact ⟨by first | rfl | (simp [errW_none, errW_some] <;> rfl) | (simp [*, errW_none, errW_some] <;> rfl), by repeat (first | (with_reducible first | exact HB.out | apply below_alloc | apply pw_below_drewN | apply below_drew1) | exact HB.out)⟩
              · rw [if_neg c20] at H
                exact absurd H (by simp)

/-! ### pilcrowref11_Prev: function 27 -/
mutual
def pilcrowref11_Prev.j0 : Nat → Int → Bool → Option (Int)
  | 0, _, _ => none
  | k + 1, x0, x8 => if x8 = true then (some 12400) else (if x0 ≥ 19968 then (pilcrowref11_Prev.j1 k x0 (decide (x0 ≤ 40869))) else (pilcrowref11_Prev.j1 k x0 false))
def pilcrowref11_Prev.j1 : Nat → Int → Bool → Option (Int)
  | 0, _, _ => none
  | k + 1, x0, x14 => if x14 = true then (some 30481) else (if x0 ≥ 44032 then (if x0 ≤ 55203 then (some 49617) else (some ((((((Int.tdiv x0 128) % 4294967296) * 128) % 4294967296) + 64) % 4294967296))) else (some ((((((Int.tdiv x0 128) % 4294967296) * 128) % 4294967296) + 64) % 4294967296)))
end
def pilcrowref11_Prev.f (k : Nat) (a0 : Int) : Option (Int) := if a0 ≥ 12352 then (pilcrowref11_Prev.j0 k a0 (decide (a0 ≤ 12447))) else (pilcrowref11_Prev.j0 k a0 false)
theorem pilcrowref11_Prev.mono_l : ∀ k, (∀ y0 y1, LeO (pilcrowref11_Prev.j0 k y0 y1) (pilcrowref11_Prev.j0 (k + 1) y0 y1)) ∧ (∀ y0 y1, LeO (pilcrowref11_Prev.j1 k y0 y1) (pilcrowref11_Prev.j1 (k + 1) y0 y1))
  | 0 => ⟨fun _ _ r h => by simp [pilcrowref11_Prev.j0] at h, fun _ _ r h => by simp [pilcrowref11_Prev.j1] at h⟩
  | k + 1 => by
    obtain ⟨ih0, ih1⟩ := pilcrowref11_Prev.mono_l k
    refine ⟨?_, ?_⟩
    · intro y0 y1
      unfold pilcrowref11_Prev.j0
      repeat' first
      | (with_reducible exact ih0 _ _)
      | (with_reducible exact ih1 _ _)
      | (with_reducible exact LeO.refl _)
      | (with_reducible exact LeO.none _)
      | (with_reducible refine LeO.ite ?_ ?_)
      | (with_reducible refine LeO.bind ?_ (fun _ => ?_))
      | exact ih0 _ _
      | exact ih1 _ _
      | exact LeO.none _
      | refine LeO.ite ?_ ?_
      | refine LeO.bind ?_ (fun _ => ?_)
    · intro y0 y1
      unfold pilcrowref11_Prev.j1
      repeat' first
      | (with_reducible exact ih0 _ _)
      | (with_reducible exact ih1 _ _)
      | (with_reducible exact LeO.refl _)
      | (with_reducible exact LeO.none _)
      | (with_reducible refine LeO.ite ?_ ?_)
      | (with_reducible refine LeO.bind ?_ (fun _ => ?_))
      | exact ih0 _ _
      | exact ih1 _ _
      | exact LeO.none _
      | refine LeO.ite ?_ ?_
      | refine LeO.bind ?_ (fun _ => ?_)
theorem pilcrowref11_Prev.mono : ∀ a0 k, LeO (pilcrowref11_Prev.f k a0) (pilcrowref11_Prev.f (k + 1) a0) := by
  intro a0 k
  obtain ⟨ih0, ih1⟩ := pilcrowref11_Prev.mono_l k
  unfold pilcrowref11_Prev.f
  repeat' first
      | (with_reducible exact ih0 _ _)
      | (with_reducible exact ih1 _ _)
      | (with_reducible exact LeO.refl _)
      | (with_reducible exact LeO.none _)
      | (with_reducible refine LeO.ite ?_ ?_)
      | (with_reducible refine LeO.bind ?_ (fun _ => ?_))
      | exact ih0 _ _
      | exact ih1 _ _
      | exact LeO.none _
      | refine LeO.ite ?_ ?_
      | refine LeO.bind ?_ (fun _ => ?_)
set_option maxHeartbeats 8000000 in
set_option maxRecDepth 100000 in
theorem pilcrowref11_Prev.calls (k : Nat) (a0 : Int) (r : Int) (w : World) (h : pilcrowref11_Prev.f k a0 = some r) :
    Calls Try.prog 27 #[.int .u32 a0] w fun e w' => e = .returned (.int .u32 r) ∧ Drawn0 w w' := by
  have H : (if a0 ≥ 12352 then (pilcrowref11_Prev.j0 k a0 (decide (a0 ≤ 12447))) else (pilcrowref11_Prev.j0 k a0 false)) = some r := h
  clear h
  have HC2 := Aside0.mk H
  clear H
  go_enter Try.func27, Try.ntmps27
  go_upto_region 1 with (fail)
  go_cut [8] (fun v8 wc => ∃ (kq : Nat) (x8_1 : Bool), v8 = .bool x8_1 ∧ Aside0 (pilcrowref11_Prev.j0 kq a0 x8_1 = some r) ∧ Aside0 (kq ≤ k) ∧ Drawn0 w wc)
  case first =>
    have H := HC2.out
    clear HC2
    by_cases c3 : a0 ≥ 12352
    · rw [if_pos c3] at H
      have c3b0 : decide (12352 ≤ a0) = true := decide_eq_true c3
      clear c3
      (first | rw [c3b0] | (simp only [i64_w, i32_w]; rw [c3b0]) | skip)
      have H' := Aside0.mk H
      clear H
      go_wp2
      go_meet
      case rel => exact ⟨_, (decide (a0 ≤ 12447)), (by first | rfl | (simp; done) | (simp [*]; done)), H', ⟨by first | omega | exact Nat.le_refl _⟩, by repeat (first | exact Drawn0.refl _ | apply Drawn0.step)⟩
    · rw [if_neg c3] at H
      have c3b0 : decide (12352 ≤ a0) = false := decide_eq_false c3
      clear c3
      (first | rw [c3b0] | (simp only [i64_w, i32_w]; rw [c3b0]) | skip)
      have H' := Aside0.mk H
      clear H
      go_wp2
      go_meet
      case rel => exact ⟨_, (false), (by first | rfl | (simp; done) | (simp [*]; done)), H', ⟨by first | omega | exact Nat.le_refl _⟩, by repeat (first | exact Drawn0.refl _ | apply Drawn0.step)⟩
  case rest =>
    clear HC2
    try clear c2
    try clear p2
    try clear c3
    try clear c3b0
    obtain ⟨kq, x8_1, rfl, HA, HJ1, ⟨mc1, rfl⟩⟩ := hcut
    cases kq with
    | zero => exact absurd HA.out (by simp [pilcrowref11_Prev.j0])
    | succ kj1 =>
      have H := HA.out
      clear HA
      simp only [pilcrowref11_Prev.j0] at H
      by_cases c4 : x8_1 = true
      · subst c4
        have H1 : (some 12400) = some r := by rw [if_pos rfl] at H; exact H
        clear H
        have H := H1
        clear H1
        obtain rfl := Option.some.inj H
        go_wp2
        go_ret
        exact ⟨by first | rfl | (simp; done) | (simp [*]; done) | (simp; omega), by repeat (first | exact Drawn0.refl _ | apply Drawn0.step)⟩
      · replace c4 := Bool.eq_false_iff.mpr c4
        subst c4
        have H1 : (if a0 ≥ 19968 then (pilcrowref11_Prev.j1 kj1 a0 (decide (a0 ≤ 40869))) else (pilcrowref11_Prev.j1 kj1 a0 false)) = some r := by rw [if_neg (show ¬ (false = true) by decide)] at H; exact H
        clear H
        have H := H1
        clear H1
        have HC5 := Aside0.mk H
        clear H
        go_upto_region 3 with (fail)
        go_cut [14] (fun v14 wc => ∃ (kq : Nat) (x14_4 : Bool), v14 = .bool x14_4 ∧ Aside0 (pilcrowref11_Prev.j1 kq a0 x14_4 = some r) ∧ Aside0 (kq ≤ kj1) ∧ Drawn0 w wc)
        case first =>
          have H := HC5.out
          clear HC5
          by_cases c6 : a0 ≥ 19968
          · rw [if_pos c6] at H
            have c6b0 : decide (19968 ≤ a0) = true := decide_eq_true c6
            clear c6
            (first | rw [c6b0] | (simp only [i64_w, i32_w]; rw [c6b0]) | skip)
            have H' := Aside0.mk H
            clear H
            go_wp2
            go_meet
            case rel => exact ⟨_, (decide (a0 ≤ 40869)), (by first | rfl | (simp; done) | (simp [*]; done)), H', ⟨by have := HJ1.out; first | omega | exact Nat.le_refl _⟩, by repeat (first | exact Drawn0.refl _ | apply Drawn0.step)⟩
          · rw [if_neg c6] at H
            have c6b0 : decide (19968 ≤ a0) = false := decide_eq_false c6
            clear c6
            (first | rw [c6b0] | (simp only [i64_w, i32_w]; rw [c6b0]) | skip)
            have H' := Aside0.mk H
            clear H
            go_wp2
            go_meet
            case rel => exact ⟨_, (false), (by first | rfl | (simp; done) | (simp [*]; done)), H', ⟨by have := HJ1.out; first | omega | exact Nat.le_refl _⟩, by repeat (first | exact Drawn0.refl _ | apply Drawn0.step)⟩
        case rest =>
          clear HC5
          try clear c1
          try clear c2
          try clear p2
          try clear c3
          try clear c3b0
          try clear c4
          try clear c6
          try clear c6b0
          try clear p2
          obtain ⟨kq, x14_4, rfl, HA, HJ4, ⟨mc4, rfl⟩⟩ := hcut
          cases kq with
          | zero => exact absurd HA.out (by simp [pilcrowref11_Prev.j1])
          | succ kj4 =>
            have H := HA.out
            clear HA
            simp only [pilcrowref11_Prev.j1] at H
            by_cases c7 : x14_4 = true
            · subst c7
              have H1 : (some 30481) = some r := by rw [if_pos rfl] at H; exact H
              clear H
              have H := H1
              clear H1
              obtain rfl := Option.some.inj H
              go_wp2
              go_ret
              exact ⟨by first | rfl | (simp; done) | (simp [*]; done) | (simp; omega), by repeat (first | exact Drawn0.refl _ | apply Drawn0.step)⟩
            · replace c7 := Bool.eq_false_iff.mpr c7
              subst c7
              have H1 : (if a0 ≥ 44032 then (if a0 ≤ 55203 then (some 49617) else (some ((((((Int.tdiv a0 128) % 4294967296) * 128) % 4294967296) + 64) % 4294967296))) else (some ((((((Int.tdiv a0 128) % 4294967296) * 128) % 4294967296) + 64) % 4294967296))) = some r := by rw [if_neg (show ¬ (false = true) by decide)] at H; exact H
              clear H
              have H := H1
              clear H1
              by_cases c8 : a0 ≥ 44032
              · rw [if_pos c8] at H
                have c8b0 : decide (44032 ≤ a0) = true := decide_eq_true c8
                clear c8
                by_cases c9 : a0 ≤ 55203
                · rw [if_pos c9] at H
                  have c9b0 : decide (a0 ≤ 55203) = true := decide_eq_true c9
                  clear c9
                  obtain rfl := Option.some.inj H
                  go_wp2
                  go_ret
                  exact ⟨by first | rfl | (simp; done) | (simp [*]; done) | (simp; omega), by repeat (first | exact Drawn0.refl _ | apply Drawn0.step)⟩
                · rw [if_neg c9] at H
                  have c9b0 : decide (a0 ≤ 55203) = false := decide_eq_false c9
                  clear c9
                  obtain rfl := Option.some.inj H
                  go_wp2
                  go_ret
                  exact ⟨by first | rfl | (simp; done) | (simp [*]; done) | (simp; omega), by repeat (first | exact Drawn0.refl _ | apply Drawn0.step)⟩
              · rw [if_neg c8] at H
                have c8b0 : decide (44032 ≤ a0) = false := decide_eq_false c8
                clear c8
                obtain rfl := Option.some.inj H
                go_wp2
                go_ret
                exact ⟨by first | rfl | (simp; done) | (simp [*]; done) | (simp; omega), by repeat (first | exact Drawn0.refl _ | apply Drawn0.step)⟩

/-! ### pilcrowref12_Bytes: function 19 -/
def pilcrowref12_Bytes.l0 : Nat → List Int → ByteArray → Int → Int → Option (ByteArray)
  | 0, _, _, _, _ => none
  | k + 1, x0, x3, x4, x5 => if x5 < (x0.length : Int) then (if 0 ≤ x5 then (if (rd x0 x5) > 32 then ((pilcrowref11_Pack.f k (wrap64 ((wrap64 (rd x0 x5)) - x4))).bind fun t255 => (if x3.size + t255.size ≤ 9223372036854775807 then ((pilcrowref11_Prev.f k (rd x0 x5)).bind fun t256 => (pilcrowref12_Bytes.l0 k x0 (x3 ++ t255) (wrap64 (t256)) (wrap64 (x5 + 1)))) else (none))) else ((some (([(rd x0 x5) % 256] : List Int) : List Int)).bind fun y257 => (if x3.size + (strOfNums y257).size ≤ 9223372036854775807 then (if (rd x0 x5) = 32 then (pilcrowref12_Bytes.l0 k x0 (x3 ++ (strOfNums y257)) x4 (wrap64 (x5 + 1))) else (pilcrowref12_Bytes.l0 k x0 (x3 ++ (strOfNums y257)) 64 (wrap64 (x5 + 1)))) else (none)))) else (none)) else (some x3)
def pilcrowref12_Bytes.f (k : Nat) (l0 : List Int) : Option (ByteArray) := pilcrowref12_Bytes.l0 k l0 (⟨#[]⟩ : ByteArray) 64 0
theorem pilcrowref12_Bytes.mono_l : ∀ k, (∀ y0 y1 y2 y3, LeO (pilcrowref12_Bytes.l0 k y0 y1 y2 y3) (pilcrowref12_Bytes.l0 (k + 1) y0 y1 y2 y3))
  | 0 => fun _ _ _ _ r h => by simp [pilcrowref12_Bytes.l0] at h
  | k + 1 => by
    have ih0 := pilcrowref12_Bytes.mono_l k
    · intro y0 y1 y2 y3
      unfold pilcrowref12_Bytes.l0
      repeat' first
      | (with_reducible exact ih0 _ _ _ _)
      | (with_reducible exact pilcrowref11_Pack.mono _ _)
      | (with_reducible exact pilcrowref11_Prev.mono _ _)
      | (with_reducible exact LeO.refl _)
      | (with_reducible exact LeO.none _)
      | (with_reducible refine LeO.ite ?_ ?_)
      | (with_reducible refine LeO.bind ?_ (fun _ => ?_))
      | exact ih0 _ _ _ _
      | exact pilcrowref11_Pack.mono _ _
      | exact pilcrowref11_Prev.mono _ _
      | exact LeO.none _
      | refine LeO.ite ?_ ?_
      | refine LeO.bind ?_ (fun _ => ?_)
theorem pilcrowref12_Bytes.mono : ∀ a0 k, LeO (pilcrowref12_Bytes.f k a0) (pilcrowref12_Bytes.f (k + 1) a0) := by
  intro a0 k
  have ih0 := pilcrowref12_Bytes.mono_l k
  unfold pilcrowref12_Bytes.f
  repeat' first
      | (with_reducible exact ih0 _ _ _ _)
      | (with_reducible exact pilcrowref11_Pack.mono _ _)
      | (with_reducible exact pilcrowref11_Prev.mono _ _)
      | (with_reducible exact LeO.refl _)
      | (with_reducible exact LeO.none _)
      | (with_reducible refine LeO.ite ?_ ?_)
      | (with_reducible refine LeO.bind ?_ (fun _ => ?_))
      | exact ih0 _ _ _ _
      | exact pilcrowref11_Pack.mono _ _
      | exact pilcrowref11_Prev.mono _ _
      | exact LeO.none _
      | refine LeO.ite ?_ ?_
      | refine LeO.bind ?_ (fun _ => ?_)
set_option maxHeartbeats 8000000 in
set_option maxRecDepth 100000 in
theorem pilcrowref12_Bytes.calls (k : Nat) (A0 : Option Addr) (c0 : Nat) (l0 : List Int) (r : ByteArray) (w : World) (hr0 : Kd.C (Kd.int .u32) w A0 l0.length l0) (hc0 : l0.length ≤ c0) (h : pilcrowref12_Bytes.f k l0 = some r) :
    Calls Try.prog 19 #[.slice A0 l0.length c0] w fun e w' => e = .returned (.string r) ∧ Below w.heap.size w w' := by
  have HR0 := Aside0.mk hr0
  have HC0 := Aside0.mk hc0
  clear hr0 hc0
  have HB := Aside0.mk (Below.refl w.heap.size w)
  have H : (pilcrowref12_Bytes.l0 k l0 (⟨#[]⟩ : ByteArray) 64 0) = some r := h
  clear h
  have H' := Aside0.mk H
  clear H
  go_enter Try.func19, Try.ntmps19
  go_wp2
  go_loopg [3, 4, 5] k (fun kq v3 v4 v5 w' => ∃ (x3_1 : ByteArray) (x4_1 : Int) (x5_1 : Int), v3 = .string x3_1 ∧ v4 = .int .i64 x4_1 ∧ v5 = .int .i64 x5_1 ∧ Aside0 (pilcrowref12_Bytes.l0 kq l0 x3_1 x4_1 x5_1 = some r) ∧ Aside0 (kq ≤ k) ∧ Aside0 (Below w.heap.size w w'))
  case atStart => exact ⟨((⟨#[]⟩ : ByteArray)), (64), (0), (by first | rfl | (simp; done) | (simp [*]; done)), (by first | rfl | (simp; done) | (simp [*]; done)), (by first | rfl | (simp; done) | (simp [*]; done)), H', ⟨Nat.le_refl _⟩, ⟨by repeat (first | (with_reducible first | exact HB.out | apply below_alloc | apply pw_below_drewN | apply below_drew1) | exact HB.out)⟩⟩
  case round =>
    clear H'
    try clear c1
    obtain ⟨x3_1, x4_1, x5_1, rfl, rfl, rfl, HA, HK1, HB⟩ := hrel
    cases gk with
    | zero => exact absurd HA.out (by simp [pilcrowref12_Bytes.l0])
    | succ k1 =>
      have H := HA.out
      clear HA
      simp only [pilcrowref12_Bytes.l0] at H
      by_cases c2 : x5_1 < (l0.length : Int)
      · rw [if_pos c2] at H
        have c2b0 : decide (x5_1 < (l0.length : Int)) = true := decide_eq_true c2
        clear c2
        by_cases c3 : 0 ≤ x5_1
        · rw [if_pos c3] at H
          have c3b0 : decide (0 ≤ x5_1) = true := decide_eq_true c3
          clear c3
          by_cases c4 : (rd l0 x5_1) > 32
          · rw [if_pos c4] at H
            have c4b0 : decide (32 < (rd l0 x5_1)) = true := decide_eq_true c4
            clear c4
            replace H := Option.bind_eq_some_iff.mp H
            obtain ⟨t255, A50, H⟩ := H
            replace H : (if x3_1.size + t255.size ≤ 9223372036854775807 then ((pilcrowref11_Prev.f k1 (rd l0 x5_1)).bind fun t256 => (pilcrowref12_Bytes.l0 k1 l0 (x3_1 ++ t255) (wrap64 (t256)) (wrap64 (x5_1 + 1)))) else (none)) = some r := H
            have A5 := Aside0.mk A50
            clear A50
            by_cases c6 : x3_1.size + t255.size ≤ 9223372036854775807
            · rw [if_pos c6] at H
              have c6b0 := eq_true c6
              have c6b1 : decide (x3_1.size + t255.size ≤ 9223372036854775807) = true := decide_eq_true c6
              try have c6b2 : (9223372036854775807 < x3_1.size + t255.size) = False := eq_false (Nat.not_lt.2 c6)
              replace H := Option.bind_eq_some_iff.mp H
              obtain ⟨t256, A70, H⟩ := H
              replace H : (pilcrowref12_Bytes.l0 k1 l0 (x3_1 ++ t255) (wrap64 (t256)) (wrap64 (x5_1 + 1))) = some r := H
              have A7 := Aside0.mk A70
              clear A70
              have H' := Aside0.mk H
              clear H
              have p254 : 0 ≤ (x5_1 : Int) := of_decide_eq_true (by first | (with_reducible assumption) | assumption)
              have q254 : x5_1 < (l0.length : Int) := of_decide_eq_true (by first | (with_reducible assumption) | assumption)
              obtain ⟨ad254, e254, hx254_0⟩ := Kd.at_int HR0.out x5_1 p254 q254
              cases e254
              replace hx254_0 := (HB.out.cell (World.block_lt_of_cell? w _ hx254_0)).trans hx254_0
              replace p254 := eq_true p254
              replace q254 := eq_true q254
              go_wp2_with (first | ((with_reducible refine gate_callee (f := 26) rfl ?_); refine goesL_ (some 24) rfl rfl Try.func26 (by kernel_rfl) rfl #[.int .i64 (wrap64 ((wrap64 (rd l0 x5_1)) - x4_1))] rfl (by (try simp only [List.map_toArray, List.map_cons, List.map_nil]); first | done | rfl | (simp only [List.length_drop, List.length_take]; rfl)) ?_; (with_reducible refine (pilcrowref11_Pack.calls k1 (wrap64 ((wrap64 (rd l0 x5_1)) - x4_1)) t255 _ A5.out).mono ?_); rintro e w8 ⟨rfl, hb⟩; refine ⟨_, rfl, ?_⟩; have n0_ := Aside0.mk (below_step (by repeat (first | (with_reducible first | exact HB.out | apply below_alloc | apply pw_below_drewN | apply below_drew1) | exact HB.out)) hb); clear HB; have HB := n0_; clear n0_; (try clear hb); (try clear hb2); (try clear hk); (try clear hi)) | ((with_reducible refine gate_callee (f := 27) rfl ?_); refine goesL_ (some 27) rfl rfl Try.func27 (by kernel_rfl) rfl #[.int .u32 (rd l0 x5_1)] rfl (by (try simp only [List.map_toArray, List.map_cons, List.map_nil]); first | done | rfl | (simp only [List.length_drop, List.length_take]; rfl)) ?_; (with_reducible refine (pilcrowref11_Prev.calls k1 (rd l0 x5_1) t256 _ A7.out).mono ?_); rintro e w' ⟨rfl, ⟨nd, rfl⟩⟩; refine ⟨_, rfl, ?_⟩))
              go_roundg k1
              case measure => have := HK1.out; omega
              case rel => exact ⟨(x3_1 ++ t255), (wrap64 (t256)), (wrap64 (x5_1 + 1)), (by first | rfl | (simp; done) | (simp [*]; done)), (by first | rfl | (simp; done) | (simp [*]; done)), (by first | rfl | (simp; done) | (simp [*]; done)), H', ⟨by have := HK1.out; omega⟩, ⟨by repeat (first | (with_reducible first | exact HB.out | apply below_alloc | apply pw_below_drewN | apply below_drew1) | exact HB.out)⟩⟩
            · rw [if_neg c6] at H
              exact absurd H (by simp)
          · rw [if_neg c4] at H
            have c4b0 : decide (32 < (rd l0 x5_1)) = false := decide_eq_false c4
            clear c4
            obtain ⟨y257, hy257⟩ : ∃ y_ : List Int, y_ = (([(rd l0 x5_1) % 256] : List Int)) := ⟨_, rfl⟩
            replace H : (if x3_1.size + (strOfNums y257).size ≤ 9223372036854775807 then (if (rd l0 x5_1) = 32 then (pilcrowref12_Bytes.l0 k1 l0 (x3_1 ++ (strOfNums y257)) x4_1 (wrap64 (x5_1 + 1))) else (pilcrowref12_Bytes.l0 k1 l0 (x3_1 ++ (strOfNums y257)) 64 (wrap64 (x5_1 + 1)))) else (none)) = some r := by first | (rw [hy257]; with_reducible exact H) | (have H2_ := (Option.bind_some _ _).symm.trans H; rw [hy257]; with_reducible exact H2_) | (have H2_ := (Option.bind_some _ _).symm.trans H; with_reducible exact H2_) | with_reducible exact H | (rw [hy257]; exact H) | exact H
            have Ny257 := Aside0.mk hy257
            clear hy257
            by_cases c9 : x3_1.size + (strOfNums y257).size ≤ 9223372036854775807
            · rw [if_pos c9] at H
              have c9b0 := eq_true c9
              have c9b1 : decide (x3_1.size + (strOfNums y257).size ≤ 9223372036854775807) = true := decide_eq_true c9
              try have c9b2 : (9223372036854775807 < x3_1.size + (strOfNums y257).size) = False := eq_false (Nat.not_lt.2 c9)
              by_cases c10 : (rd l0 x5_1) = 32
              · rw [if_pos c10] at H
                have c10b0 : ((rd l0 x5_1) == 32) = true := beq_iff_eq.mpr c10
                have c10b1 : ((rd l0 x5_1) != 32) = false := bne_eq_false_iff_eq.mpr c10
                clear c10
                have H' := Aside0.mk H
                clear H
                have p254 : 0 ≤ (x5_1 : Int) := of_decide_eq_true (by first | (with_reducible assumption) | assumption)
                have q254 : x5_1 < (l0.length : Int) := of_decide_eq_true (by first | (with_reducible assumption) | assumption)
                obtain ⟨ad254, e254, hx254_0⟩ := Kd.at_int HR0.out x5_1 p254 q254
                cases e254
                replace hx254_0 := (HB.out.cell (World.block_lt_of_cell? w _ hx254_0)).trans hx254_0
                replace p254 := eq_true p254
                replace q254 := eq_true q254
                go_wp2_with (first | ((with_reducible refine gate_dst (N := 32) rfl ?_); refine Kd.R_lit (Kd.int .u8) _ 5 ?hg (N := 32) ?hd (xs := ([(rd l0 x5_1) % 256] : List Int)) (inner := [.int .u8 ((rd l0 x5_1) % 256)]) (ok := fun _ => True) (okp := fun _ => True) ?hr ?hp (fun _ hk => hk) trivial (Below.refl _ _) (Nat.le_refl _) (by simp) ?_; (case hd => rfl); (case hg => rfl); (case hr => first | (go_simp; done) | (go_simp; with_reducible rfl) | (go_simp; simp only [IntKind.wrap_u8, IntKind.wrap_u32, Int.emod_emod_of_dvd _ (show (256 : Int) ∣ 4294967296 by decide)]; done) | (go_simp; repeat (first | (with_reducible rfl) | omega | congr 1))); (case hp => exact (Reps.one (show Kd.M (Kd.int .u8) _ _ _ ((rd l0 x5_1) % 256) [.int .u8 ((rd l0 x5_1) % 256)] from rfl) (Reps.none _ _))); intro v258 w11 ho12 hb hg_ hnew_; clear hg_ hnew_; (first | rw [← Ny257.out] at ho12 | (simp only [Int.reduceToNat] at ho12; rw [← Ny257.out] at ho12)); have n0_ := Aside0.mk (Kd.R_lower ho12 (below_size (by repeat (first | (with_reducible first | exact HB.out | apply below_alloc | apply pw_below_drewN | apply below_drew1) | exact HB.out)))); have n1_ := Aside0.mk (below_step (by repeat (first | (with_reducible first | exact HB.out | apply below_alloc | apply pw_below_drewN | apply below_drew1) | exact HB.out)) hb); clear HB; have HO259 := n0_; have HB := n1_; clear n0_ n1_; clear hb ho12; have hcv13 := own_string (P := Try.prog) Try.underlying40 Try.underlying5 Try.underlying9 (Kd.own_of_R HO259.out)))
                go_roundg k1
                case measure => have := HK1.out; omega
                case rel => exact ⟨(x3_1 ++ (strOfNums y257)), (x4_1), (wrap64 (x5_1 + 1)), (by first | rfl | (simp; done) | (simp [*]; done)), (by first | rfl | (simp; done) | (simp [*]; done)), (by first | rfl | (simp; done) | (simp [*]; done)), H', ⟨by have := HK1.out; omega⟩, ⟨by repeat (first | (with_reducible first | exact HB.out | apply below_alloc | apply pw_below_drewN | apply below_drew1) | exact HB.out)⟩⟩
              · rw [if_neg c10] at H
                have c10b0 : ((rd l0 x5_1) == 32) = false := beq_eq_false_iff_ne.mpr c10
                have c10b1 : ((rd l0 x5_1) != 32) = true := bne_iff_ne.mpr c10
                have H' := Aside0.mk H
                clear H
                have p254 : 0 ≤ (x5_1 : Int) := of_decide_eq_true (by first | (with_reducible assumption) | assumption)
                have q254 : x5_1 < (l0.length : Int) := of_decide_eq_true (by first | (with_reducible assumption) | assumption)
                obtain ⟨ad254, e254, hx254_0⟩ := Kd.at_int HR0.out x5_1 p254 q254
                cases e254
                replace hx254_0 := (HB.out.cell (World.block_lt_of_cell? w _ hx254_0)).trans hx254_0
                replace p254 := eq_true p254
                replace q254 := eq_true q254
                go_wp2_with (first | ((with_reducible refine gate_dst (N := 32) rfl ?_); refine Kd.R_lit (Kd.int .u8) _ 5 ?hg (N := 32) ?hd (xs := ([(rd l0 x5_1) % 256] : List Int)) (inner := [.int .u8 ((rd l0 x5_1) % 256)]) (ok := fun _ => True) (okp := fun _ => True) ?hr ?hp (fun _ hk => hk) trivial (Below.refl _ _) (Nat.le_refl _) (by simp) ?_; (case hd => rfl); (case hg => rfl); (case hr => first | (go_simp; done) | (go_simp; with_reducible rfl) | (go_simp; simp only [IntKind.wrap_u8, IntKind.wrap_u32, Int.emod_emod_of_dvd _ (show (256 : Int) ∣ 4294967296 by decide)]; done) | (go_simp; repeat (first | (with_reducible rfl) | omega | congr 1))); (case hp => exact (Reps.one (show Kd.M (Kd.int .u8) _ _ _ ((rd l0 x5_1) % 256) [.int .u8 ((rd l0 x5_1) % 256)] from rfl) (Reps.none _ _))); intro v258 w14 ho15 hb hg_ hnew_; clear hg_ hnew_; (first | rw [← Ny257.out] at ho15 | (simp only [Int.reduceToNat] at ho15; rw [← Ny257.out] at ho15)); have n0_ := Aside0.mk (Kd.R_lower ho15 (below_size (by repeat (first | (with_reducible first | exact HB.out | apply below_alloc | apply pw_below_drewN | apply below_drew1) | exact HB.out)))); have n1_ := Aside0.mk (below_step (by repeat (first | (with_reducible first | exact HB.out | apply below_alloc | apply pw_below_drewN | apply below_drew1) | exact HB.out)) hb); clear HB; have HO259 := n0_; have HB := n1_; clear n0_ n1_; clear hb ho15; have hcv16 := own_string (P := Try.prog) Try.underlying40 Try.underlying5 Try.underlying9 (Kd.own_of_R HO259.out)))
                go_roundg k1
                case measure => have := HK1.out; omega
                case rel => exact ⟨(x3_1 ++ (strOfNums y257)), (64), (wrap64 (x5_1 + 1)), (by first | rfl | (simp; done) | (simp [*]; done)), (by first | rfl | (simp; done) | (simp [*]; done)), (by first | rfl | (simp; done) | (simp [*]; done)), H', ⟨by have := HK1.out; omega⟩, ⟨by repeat (first | (with_reducible first | exact HB.out | apply below_alloc | apply pw_below_drewN | apply below_drew1) | exact HB.out)⟩⟩
            · rw [if_neg c9] at H
              exact absurd H (by simp)
        · rw [if_neg c3] at H
          exact absurd H (by simp)
      · rw [if_neg c2] at H
        have c2b0 : decide (x5_1 < (l0.length : Int)) = false := decide_eq_false c2
        clear c2
        obtain rfl := Option.some.inj H
        go_wp2
        go_ret
        exact ⟨by first | rfl | (simp [errW_none, errW_some] <;> rfl) | (simp [*, errW_none, errW_some] <;> rfl), by repeat (first | (with_reducible first | exact HB.out | apply below_alloc | apply pw_below_drewN | apply below_drew1) | exact HB.out)⟩

end Go.Proofs.Ytakjkgjbjannbaa.QSignBegins
