/- What ScalarTells reaches: functions and their walks. -/
import Derived.Test.YtdjpaahjmkbcjaaPScalarTellsx0
import Derived.Test.YtdjpaahjmkbcjaaPScalarTellsx1
namespace Go.Proofs.Ytdjpaahjmkbcjaa.PScalarTells
open Go.RowKit Go.Proofs.YtdjpaahjmkbcjaaW.PrintWords Go.Proofs.YtdjpaahjmkbcjaaW.PrintLast Go.Proofs.YtdjpaahjmkbcjaaW.PrintMore
attribute [local go_sem] max2_int min2_int max_two min_two max_three min_three max_four min_four   -- for this text's walks alone
set_option linter.unusedVariables false
set_option linter.unusedSimpArgs false

/-! ### pilcrowlaw01_awake: function 8 -/
def pilcrowlaw01_awake.f (k : Nat)  : Option (Bool) := (scalar_Is.f 55295).bind fun t109 => (if t109 = true then ((scalar_Is.f 57344).bind fun t110 => (if t110 = true then ((scalar_Is.f 55296).bind fun t111 => (if t111 = true then (some false) else ((scalar_Is.f 1114112).bind fun t112 => (if t112 = true then (some false) else ((scalar_Units.f k (([65, 128512] : List Int))).bind fun t116 => (if t116 = 3 then ((scalar_Order.f k (([1, 2] : List Int)) (([1, 2, 0] : List Int))).bind fun t123 => (if t123 = (-1) then ((scalar_Class.f k 160).bind fun t124 => (if t124 = 3 then ((scalar_First.f k (([1, 57343] : List Int))).bind fun t128 => (some (t128 == 1))) else (some false))) else (some false))) else (some false))))))) else (some false))) else (some false))
theorem pilcrowlaw01_awake.mono : ∀ k, LeO (pilcrowlaw01_awake.f k ) (pilcrowlaw01_awake.f (k + 1) ) := by
  intro  k
  unfold pilcrowlaw01_awake.f
  repeat' first
      | (with_reducible exact scalar_Class.mono _ _)
      | (with_reducible exact scalar_First.mono _ _)
      | (with_reducible exact scalar_Order.mono _ _ _)
      | (with_reducible exact scalar_Units.mono _ _)
      | (with_reducible exact LeO.refl _)
      | (with_reducible exact LeO.none _)
      | (with_reducible refine LeO.ite ?_ ?_)
      | (with_reducible refine LeO.bind ?_ (fun _ => ?_))
      | exact scalar_Class.mono _ _
      | exact scalar_First.mono _ _
      | exact scalar_Order.mono _ _ _
      | exact scalar_Units.mono _ _
      | exact LeO.none _
      | refine LeO.ite ?_ ?_
      | refine LeO.bind ?_ (fun _ => ?_)
set_option maxHeartbeats 8000000 in
set_option maxRecDepth 100000 in
theorem pilcrowlaw01_awake.calls (k : Nat)  (r : Bool) (w : World) (h : pilcrowlaw01_awake.f k  = some r) :
    Calls Try.prog 8 #[] w fun e w' => e = .returned (.bool r) ∧ Below w.heap.size w w' := by
  have HB := Aside0.mk (Below.refl w.heap.size w)
  have H : ((scalar_Is.f 55295).bind fun t109 => (if t109 = true then ((scalar_Is.f 57344).bind fun t110 => (if t110 = true then ((scalar_Is.f 55296).bind fun t111 => (if t111 = true then (some false) else ((scalar_Is.f 1114112).bind fun t112 => (if t112 = true then (some false) else ((scalar_Units.f k (([65, 128512] : List Int))).bind fun t116 => (if t116 = 3 then ((scalar_Order.f k (([1, 2] : List Int)) (([1, 2, 0] : List Int))).bind fun t123 => (if t123 = (-1) then ((scalar_Class.f k 160).bind fun t124 => (if t124 = 3 then ((scalar_First.f k (([1, 57343] : List Int))).bind fun t128 => (some (t128 == 1))) else (some false))) else (some false))) else (some false))))))) else (some false))) else (some false))) = some r := h
  clear h
  replace H := Option.bind_eq_some_iff.mp H
  obtain ⟨t109, A10, H⟩ := H
  replace H : (if t109 = true then ((scalar_Is.f 57344).bind fun t110 => (if t110 = true then ((scalar_Is.f 55296).bind fun t111 => (if t111 = true then (some false) else ((scalar_Is.f 1114112).bind fun t112 => (if t112 = true then (some false) else ((scalar_Units.f k (([65, 128512] : List Int))).bind fun t116 => (if t116 = 3 then ((scalar_Order.f k (([1, 2] : List Int)) (([1, 2, 0] : List Int))).bind fun t123 => (if t123 = (-1) then ((scalar_Class.f k 160).bind fun t124 => (if t124 = 3 then ((scalar_First.f k (([1, 57343] : List Int))).bind fun t128 => (some (t128 == 1))) else (some false))) else (some false))) else (some false))))))) else (some false))) else (some false)) = some r := H
  have A1 := Aside0.mk A10
  clear A10
  by_cases c2 : t109 = true
  · subst c2
    have H1 : ((scalar_Is.f 57344).bind fun t110 => (if t110 = true then ((scalar_Is.f 55296).bind fun t111 => (if t111 = true then (some false) else ((scalar_Is.f 1114112).bind fun t112 => (if t112 = true then (some false) else ((scalar_Units.f k (([65, 128512] : List Int))).bind fun t116 => (if t116 = 3 then ((scalar_Order.f k (([1, 2] : List Int)) (([1, 2, 0] : List Int))).bind fun t123 => (if t123 = (-1) then ((scalar_Class.f k 160).bind fun t124 => (if t124 = 3 then ((scalar_First.f k (([1, 57343] : List Int))).bind fun t128 => (some (t128 == 1))) else (some false))) else (some false))) else (some false))))))) else (some false))) = some r := by rw [if_pos rfl] at H; exact H
    clear H
    have H := H1
    clear H1
    replace H := Option.bind_eq_some_iff.mp H
    obtain ⟨t110, A30, H⟩ := H
    replace H : (if t110 = true then ((scalar_Is.f 55296).bind fun t111 => (if t111 = true then (some false) else ((scalar_Is.f 1114112).bind fun t112 => (if t112 = true then (some false) else ((scalar_Units.f k (([65, 128512] : List Int))).bind fun t116 => (if t116 = 3 then ((scalar_Order.f k (([1, 2] : List Int)) (([1, 2, 0] : List Int))).bind fun t123 => (if t123 = (-1) then ((scalar_Class.f k 160).bind fun t124 => (if t124 = 3 then ((scalar_First.f k (([1, 57343] : List Int))).bind fun t128 => (some (t128 == 1))) else (some false))) else (some false))) else (some false))))))) else (some false)) = some r := H
    have A3 := Aside0.mk A30
    clear A30
    by_cases c4 : t110 = true
    · subst c4
      have H1 : ((scalar_Is.f 55296).bind fun t111 => (if t111 = true then (some false) else ((scalar_Is.f 1114112).bind fun t112 => (if t112 = true then (some false) else ((scalar_Units.f k (([65, 128512] : List Int))).bind fun t116 => (if t116 = 3 then ((scalar_Order.f k (([1, 2] : List Int)) (([1, 2, 0] : List Int))).bind fun t123 => (if t123 = (-1) then ((scalar_Class.f k 160).bind fun t124 => (if t124 = 3 then ((scalar_First.f k (([1, 57343] : List Int))).bind fun t128 => (some (t128 == 1))) else (some false))) else (some false))) else (some false))))))) = some r := by rw [if_pos rfl] at H; exact H
      clear H
      have H := H1
      clear H1
      replace H := Option.bind_eq_some_iff.mp H
      obtain ⟨t111, A50, H⟩ := H
      replace H : (if t111 = true then (some false) else ((scalar_Is.f 1114112).bind fun t112 => (if t112 = true then (some false) else ((scalar_Units.f k (([65, 128512] : List Int))).bind fun t116 => (if t116 = 3 then ((scalar_Order.f k (([1, 2] : List Int)) (([1, 2, 0] : List Int))).bind fun t123 => (if t123 = (-1) then ((scalar_Class.f k 160).bind fun t124 => (if t124 = 3 then ((scalar_First.f k (([1, 57343] : List Int))).bind fun t128 => (some (t128 == 1))) else (some false))) else (some false))) else (some false)))))) = some r := H
      have A5 := Aside0.mk A50
      clear A50
      by_cases c6 : t111 = true
      · subst c6
        have H1 : (some false) = some r := by rw [if_pos rfl] at H; exact H
        clear H
        have H := H1
        clear H1
        obtain rfl := Option.some.inj H
        go_enter Try.func8, Try.ntmps8
        go_wp2_with (first | ((with_reducible refine gate_callee (f := 9) rfl ?_); refine goesL_ (some 1) rfl rfl Try.func9 (by kernel_rfl) rfl #[.int .u32 55295] rfl (by (try simp only [List.map_toArray, List.map_cons, List.map_nil]); first | done | rfl | (simp only [List.length_drop, List.length_take]; rfl)) ?_; (with_reducible refine (scalar_Is.calls 55295 true _ A1.out).mono ?_); rintro e w' ⟨rfl, ⟨nd, rfl⟩⟩; refine ⟨_, rfl, ?_⟩) | (go_at_call 9; (with_reducible refine (scalar_Is.calls 57344 true _ A3.out).mono ?_); rintro e w' ⟨rfl, ⟨nd, rfl⟩⟩) | (go_at_call 9; (with_reducible refine (scalar_Is.calls 55296 true _ A5.out).mono ?_); rintro e w' ⟨rfl, ⟨nd, rfl⟩⟩))
        go_ret
        exact ⟨by first | rfl | (simp [errW_none, errW_some] <;> rfl) | (simp [*, errW_none, errW_some] <;> rfl), by repeat (first | (with_reducible first | exact HB.out | apply below_alloc | apply pw_below_drewN | apply below_drew1) | exact HB.out)⟩
      · replace c6 := Bool.eq_false_iff.mpr c6
        subst c6
        have H1 : ((scalar_Is.f 1114112).bind fun t112 => (if t112 = true then (some false) else ((scalar_Units.f k (([65, 128512] : List Int))).bind fun t116 => (if t116 = 3 then ((scalar_Order.f k (([1, 2] : List Int)) (([1, 2, 0] : List Int))).bind fun t123 => (if t123 = (-1) then ((scalar_Class.f k 160).bind fun t124 => (if t124 = 3 then ((scalar_First.f k (([1, 57343] : List Int))).bind fun t128 => (some (t128 == 1))) else (some false))) else (some false))) else (some false))))) = some r := by rw [if_neg (show ¬ (false = true) by decide)] at H; exact H
        clear H
        have H := H1
        clear H1
        replace H := Option.bind_eq_some_iff.mp H
        obtain ⟨t112, A70, H⟩ := H
        replace H : (if t112 = true then (some false) else ((scalar_Units.f k (([65, 128512] : List Int))).bind fun t116 => (if t116 = 3 then ((scalar_Order.f k (([1, 2] : List Int)) (([1, 2, 0] : List Int))).bind fun t123 => (if t123 = (-1) then ((scalar_Class.f k 160).bind fun t124 => (if t124 = 3 then ((scalar_First.f k (([1, 57343] : List Int))).bind fun t128 => (some (t128 == 1))) else (some false))) else (some false))) else (some false)))) = some r := H
        have A7 := Aside0.mk A70
        clear A70
        by_cases c8 : t112 = true
        · subst c8
          have H1 : (some false) = some r := by rw [if_pos rfl] at H; exact H
          clear H
          have H := H1
          clear H1
          obtain rfl := Option.some.inj H
          go_enter Try.func8, Try.ntmps8
          go_wp2_with (first | ((with_reducible refine gate_callee (f := 9) rfl ?_); refine goesL_ (some 1) rfl rfl Try.func9 (by kernel_rfl) rfl #[.int .u32 55295] rfl (by (try simp only [List.map_toArray, List.map_cons, List.map_nil]); first | done | rfl | (simp only [List.length_drop, List.length_take]; rfl)) ?_; (with_reducible refine (scalar_Is.calls 55295 true _ A1.out).mono ?_); rintro e w' ⟨rfl, ⟨nd, rfl⟩⟩; refine ⟨_, rfl, ?_⟩) | (go_at_call 9; (with_reducible refine (scalar_Is.calls 57344 true _ A3.out).mono ?_); rintro e w' ⟨rfl, ⟨nd, rfl⟩⟩) | (go_at_call 9; (with_reducible refine (scalar_Is.calls 55296 false _ A5.out).mono ?_); rintro e w' ⟨rfl, ⟨nd, rfl⟩⟩) | (go_at_call 9; (with_reducible refine (scalar_Is.calls 1114112 true _ A7.out).mono ?_); rintro e w' ⟨rfl, ⟨nd, rfl⟩⟩))
          go_ret
          exact ⟨by first | rfl | (simp [errW_none, errW_some] <;> rfl) | (simp [*, errW_none, errW_some] <;> rfl), by repeat (first | (with_reducible first | exact HB.out | apply below_alloc | apply pw_below_drewN | apply below_drew1) | exact HB.out)⟩
        · replace c8 := Bool.eq_false_iff.mpr c8
          subst c8
          have H1 : ((scalar_Units.f k (([65, 128512] : List Int))).bind fun t116 => (if t116 = 3 then ((scalar_Order.f k (([1, 2] : List Int)) (([1, 2, 0] : List Int))).bind fun t123 => (if t123 = (-1) then ((scalar_Class.f k 160).bind fun t124 => (if t124 = 3 then ((scalar_First.f k (([1, 57343] : List Int))).bind fun t128 => (some (t128 == 1))) else (some false))) else (some false))) else (some false))) = some r := by rw [if_neg (show ¬ (false = true) by decide)] at H; exact H
          clear H
          have H := H1
          clear H1
          obtain ⟨y113, hy113⟩ : ∃ y_ : List Int, y_ = (([65, 128512] : List Int)) := ⟨_, rfl⟩
          replace H : ((scalar_Units.f k y113).bind fun t116 => (if t116 = 3 then ((scalar_Order.f k (([1, 2] : List Int)) (([1, 2, 0] : List Int))).bind fun t123 => (if t123 = (-1) then ((scalar_Class.f k 160).bind fun t124 => (if t124 = 3 then ((scalar_First.f k (([1, 57343] : List Int))).bind fun t128 => (some (t128 == 1))) else (some false))) else (some false))) else (some false))) = some r := by first | (rw [hy113]; with_reducible exact H) | (have H2_ := (Option.bind_some _ _).symm.trans H; rw [hy113]; with_reducible exact H2_) | (have H2_ := (Option.bind_some _ _).symm.trans H; with_reducible exact H2_) | with_reducible exact H | (rw [hy113]; exact H) | exact H
          have Ny113 := Aside0.mk hy113
          clear hy113
          replace H := Option.bind_eq_some_iff.mp H
          obtain ⟨t116, A90, H⟩ := H
          replace H : (if t116 = 3 then ((scalar_Order.f k (([1, 2] : List Int)) (([1, 2, 0] : List Int))).bind fun t123 => (if t123 = (-1) then ((scalar_Class.f k 160).bind fun t124 => (if t124 = 3 then ((scalar_First.f k (([1, 57343] : List Int))).bind fun t128 => (some (t128 == 1))) else (some false))) else (some false))) else (some false)) = some r := H
          have A9 := Aside0.mk A90
          clear A90
          by_cases c10 : t116 = 3
          · rw [if_pos c10] at H
            have c10b0 : (t116 == 3) = true := beq_iff_eq.mpr c10
            have c10b1 : (t116 != 3) = false := bne_eq_false_iff_eq.mpr c10
            clear c10
            obtain ⟨y117, hy117⟩ : ∃ y_ : List Int, y_ = (([1, 2] : List Int)) := ⟨_, rfl⟩
            replace H : ((scalar_Order.f k y117 (([1, 2, 0] : List Int))).bind fun t123 => (if t123 = (-1) then ((scalar_Class.f k 160).bind fun t124 => (if t124 = 3 then ((scalar_First.f k (([1, 57343] : List Int))).bind fun t128 => (some (t128 == 1))) else (some false))) else (some false))) = some r := by first | (rw [hy117]; with_reducible exact H) | (have H2_ := (Option.bind_some _ _).symm.trans H; rw [hy117]; with_reducible exact H2_) | (have H2_ := (Option.bind_some _ _).symm.trans H; with_reducible exact H2_) | with_reducible exact H | (rw [hy117]; exact H) | exact H
            have Ny117 := Aside0.mk hy117
            clear hy117
            obtain ⟨y120, hy120⟩ : ∃ y_ : List Int, y_ = (([1, 2, 0] : List Int)) := ⟨_, rfl⟩
            replace H : ((scalar_Order.f k y117 y120).bind fun t123 => (if t123 = (-1) then ((scalar_Class.f k 160).bind fun t124 => (if t124 = 3 then ((scalar_First.f k (([1, 57343] : List Int))).bind fun t128 => (some (t128 == 1))) else (some false))) else (some false))) = some r := by first | (rw [hy120]; with_reducible exact H) | (have H2_ := (Option.bind_some _ _).symm.trans H; rw [hy120]; with_reducible exact H2_) | (have H2_ := (Option.bind_some _ _).symm.trans H; with_reducible exact H2_) | with_reducible exact H | (rw [hy120]; exact H) | exact H
            have Ny120 := Aside0.mk hy120
            clear hy120
            replace H := Option.bind_eq_some_iff.mp H
            obtain ⟨t123, A110, H⟩ := H
            replace H : (if t123 = (-1) then ((scalar_Class.f k 160).bind fun t124 => (if t124 = 3 then ((scalar_First.f k (([1, 57343] : List Int))).bind fun t128 => (some (t128 == 1))) else (some false))) else (some false)) = some r := H
            have A11 := Aside0.mk A110
            clear A110
            by_cases c12 : t123 = (-1)
            · rw [if_pos c12] at H
              have c12b0 : (t123 == (-1)) = true := beq_iff_eq.mpr c12
              have c12b1 : (t123 != (-1)) = false := bne_eq_false_iff_eq.mpr c12
              clear c12
              replace H := Option.bind_eq_some_iff.mp H
              obtain ⟨t124, A130, H⟩ := H
              replace H : (if t124 = 3 then ((scalar_First.f k (([1, 57343] : List Int))).bind fun t128 => (some (t128 == 1))) else (some false)) = some r := H
              have A13 := Aside0.mk A130
              clear A130
              by_cases c14 : t124 = 3
              · rw [if_pos c14] at H
                have c14b0 : (t124 == 3) = true := beq_iff_eq.mpr c14
                have c14b1 : (t124 != 3) = false := bne_eq_false_iff_eq.mpr c14
                clear c14
                obtain ⟨y125, hy125⟩ : ∃ y_ : List Int, y_ = (([1, 57343] : List Int)) := ⟨_, rfl⟩
                replace H : ((scalar_First.f k y125).bind fun t128 => (some (t128 == 1))) = some r := by first | (rw [hy125]; with_reducible exact H) | (have H2_ := (Option.bind_some _ _).symm.trans H; rw [hy125]; with_reducible exact H2_) | (have H2_ := (Option.bind_some _ _).symm.trans H; with_reducible exact H2_) | with_reducible exact H | (rw [hy125]; exact H) | exact H
                have Ny125 := Aside0.mk hy125
                clear hy125
                replace H := Option.bind_eq_some_iff.mp H
                obtain ⟨t128, A150, H⟩ := H
                replace H : (some (t128 == 1)) = some r := H
                have A15 := Aside0.mk A150
                clear A150
                obtain rfl := Option.some.inj H
                go_enter Try.func8, Try.ntmps8
                go_wp2_with (first | ((with_reducible refine gate_callee (f := 9) rfl ?_); refine goesL_ (some 1) rfl rfl Try.func9 (by kernel_rfl) rfl #[.int .u32 55295] rfl (by (try simp only [List.map_toArray, List.map_cons, List.map_nil]); first | done | rfl | (simp only [List.length_drop, List.length_take]; rfl)) ?_; (with_reducible refine (scalar_Is.calls 55295 true _ A1.out).mono ?_); rintro e w' ⟨rfl, ⟨nd, rfl⟩⟩; refine ⟨_, rfl, ?_⟩) | (go_at_call 9; (with_reducible refine (scalar_Is.calls 57344 true _ A3.out).mono ?_); rintro e w' ⟨rfl, ⟨nd, rfl⟩⟩) | (go_at_call 9; (with_reducible refine (scalar_Is.calls 55296 false _ A5.out).mono ?_); rintro e w' ⟨rfl, ⟨nd, rfl⟩⟩) | (go_at_call 9; (with_reducible refine (scalar_Is.calls 1114112 false _ A7.out).mono ?_); rintro e w' ⟨rfl, ⟨nd, rfl⟩⟩) | ((with_reducible refine gate_dst (N := 14) rfl ?_); (try (refine gate_guard (by rfl) ?_; dsimp only)); refine Kd.R_lit (Kd.int .u32) _ 22 ?hg (N := 14) ?hd (xs := ([65, 128512] : List Int)) (inner := [.int .u32 65, .int .u32 128512]) (ok := fun _ => True) (okp := fun _ => True) ?hr ?hp (fun _ hk => hk) trivial (Below.refl _ _) (Nat.le_refl _) (by simp) ?_; (case hd => rfl); (case hg => rfl); (case hr => first | (go_simp; done) | (go_simp; rfl)); (case hp => exact (Reps.one (show Kd.M (Kd.int .u32) _ _ _ 65 [.int .u32 65] from rfl) (Reps.one (show Kd.M (Kd.int .u32) _ _ _ 128512 [.int .u32 128512] from rfl) (Reps.none _ _)))); intro v114 w16 ho17 hb hg_ hnew_; clear hg_ hnew_; (first | rw [← Ny113.out] at ho17 | (simp only [Int.reduceToNat] at ho17; rw [← Ny113.out] at ho17)); have n0_ := Aside0.mk (Kd.R_lower ho17 (below_size (by repeat (first | (with_reducible first | exact HB.out | apply below_alloc | apply pw_below_drewN | apply below_drew1) | exact HB.out)))); have n1_ := Aside0.mk (below_step (by repeat (first | (with_reducible first | exact HB.out | apply below_alloc | apply pw_below_drewN | apply below_drew1) | exact HB.out)) hb); clear HB; have HO115 := n0_; have HB := n1_; clear n0_ n1_; clear hb ho17; obtain ⟨Ao18, co18, eo18⟩ := Kd.R_slice HO115.out; subst eo18) | (go_at_call 15; (with_reducible refine (scalar_Units.calls k _ _ y113 t116 _ ?side1 ?side2 A9.out).mono ?_); (case side1 => repeat (first | exact (Kd.R_reads' HO115.out).2.2 | (with_reducible refine Kd.C_alloc ?_ _) | (with_reducible refine Kd.C_drewN ?_ _) | (with_reducible refine Kd.C_drew ?_))); (case side2 => exact (Kd.R_reads' HO115.out).2.1); rintro e w' ⟨rfl, ⟨nd, rfl⟩⟩) | ((with_reducible refine gate_dst (N := 19) rfl ?_); (try (refine gate_guard (by rfl) ?_; dsimp only)); refine Kd.R_lit (Kd.int .u32) _ 22 ?hg (N := 19) ?hd (xs := ([1, 2] : List Int)) (inner := [.int .u32 1, .int .u32 2]) (ok := fun _ => True) (okp := fun _ => True) ?hr ?hp (fun _ hk => hk) trivial (Below.refl _ _) (Nat.le_refl _) (by simp) ?_; (case hd => rfl); (case hg => rfl); (case hr => first | (go_simp; done) | (go_simp; rfl)); (case hp => exact (Reps.one (show Kd.M (Kd.int .u32) _ _ _ 1 [.int .u32 1] from rfl) (Reps.one (show Kd.M (Kd.int .u32) _ _ _ 2 [.int .u32 2] from rfl) (Reps.none _ _)))); intro v118 w19 ho20 hb hg_ hnew_; clear hg_ hnew_; (first | rw [← Ny117.out] at ho20 | (simp only [Int.reduceToNat] at ho20; rw [← Ny117.out] at ho20)); have n0_ := Aside0.mk (Kd.R_elder' (by (with_reducible repeat (first | apply Kd.R_alloc | apply Kd.R_drewN | apply Kd.R_drew)); exact HO115.out) (Kd.R_base ho20) hb); have n1_ := Aside0.mk (Kd.R_lower (Kd.R_new' ho20 (Kd.R_lt (by (with_reducible repeat (first | apply Kd.R_alloc | apply Kd.R_drewN | apply Kd.R_drew)); exact HO115.out))) (below_size (by repeat (first | (with_reducible first | exact HB.out | apply below_alloc | apply pw_below_drewN | apply below_drew1) | exact HB.out)))); have n2_ := Aside0.mk (below_step (by repeat (first | (with_reducible first | exact HB.out | apply below_alloc | apply pw_below_drewN | apply below_drew1) | exact HB.out)) hb); clear HO115; clear HB; have HO115 := n0_; have HO119 := n1_; have HB := n2_; clear n0_ n1_ n2_; clear hb ho20) | ((with_reducible refine gate_dst (N := 20) rfl ?_); (try (refine gate_guard (by rfl) ?_; dsimp only)); refine Kd.R_lit (Kd.int .u32) _ 22 ?hg (N := 20) ?hd (xs := ([1, 2, 0] : List Int)) (inner := [.int .u32 1, .int .u32 2, .int .u32 0]) (ok := fun _ => True) (okp := fun _ => True) ?hr ?hp (fun _ hk => hk) trivial (Below.refl _ _) (Nat.le_refl _) (by simp) ?_; (case hd => rfl); (case hg => rfl); (case hr => first | (go_simp; done) | (go_simp; rfl)); (case hp => exact (Reps.one (show Kd.M (Kd.int .u32) _ _ _ 1 [.int .u32 1] from rfl) (Reps.one (show Kd.M (Kd.int .u32) _ _ _ 2 [.int .u32 2] from rfl) (Reps.one (show Kd.M (Kd.int .u32) _ _ _ 0 [.int .u32 0] from rfl) (Reps.none _ _))))); intro v121 w21 ho22 hb hg_ hnew_; clear hg_ hnew_; (first | rw [← Ny120.out] at ho22 | (simp only [Int.reduceToNat] at ho22; rw [← Ny120.out] at ho22)); have n0_ := Aside0.mk (Kd.R_elder' (by (with_reducible repeat (first | apply Kd.R_alloc | apply Kd.R_drewN | apply Kd.R_drew)); exact HO115.out) (Kd.R_base ho22) hb); have n1_ := Aside0.mk (Kd.R_elder' (by (with_reducible repeat (first | apply Kd.R_alloc | apply Kd.R_drewN | apply Kd.R_drew)); exact HO119.out) (Kd.R_base ho22) hb); have n2_ := Aside0.mk (Kd.R_lower (Kd.R_new' (Kd.R_new' ho22 (Kd.R_lt (by (with_reducible repeat (first | apply Kd.R_alloc | apply Kd.R_drewN | apply Kd.R_drew)); exact HO115.out))) (Kd.R_lt (by (with_reducible repeat (first | apply Kd.R_alloc | apply Kd.R_drewN | apply Kd.R_drew)); exact HO119.out))) (below_size (by repeat (first | (with_reducible first | exact HB.out | apply below_alloc | apply pw_below_drewN | apply below_drew1) | exact HB.out)))); have n3_ := Aside0.mk (below_step (by repeat (first | (with_reducible first | exact HB.out | apply below_alloc | apply pw_below_drewN | apply below_drew1) | exact HB.out)) hb); clear HO115; clear HO119; clear HB; have HO115 := n0_; have HO119 := n1_; have HO122 := n2_; have HB := n3_; clear n0_ n1_ n2_ n3_; clear hb ho22; obtain ⟨Ao23, co23, eo23⟩ := Kd.R_slice HO119.out; subst eo23; obtain ⟨Ao24, co24, eo24⟩ := Kd.R_slice HO122.out; subst eo24) | (go_at_call 17; (with_reducible refine (scalar_Order.calls k _ _ y117 _ _ y120 t123 _ ?side1 ?side2 ?side3 ?side4 A11.out).mono ?_); (case side1 => repeat (first | exact (Kd.R_reads' HO119.out).2.2 | (with_reducible refine Kd.C_alloc ?_ _) | (with_reducible refine Kd.C_drewN ?_ _) | (with_reducible refine Kd.C_drew ?_))); (case side2 => exact (Kd.R_reads' HO119.out).2.1); (case side3 => repeat (first | exact (Kd.R_reads' HO122.out).2.2 | (with_reducible refine Kd.C_alloc ?_ _) | (with_reducible refine Kd.C_drewN ?_ _) | (with_reducible refine Kd.C_drew ?_))); (case side4 => exact (Kd.R_reads' HO122.out).2.1); rintro e w' ⟨rfl, ⟨nd, rfl⟩⟩) | (go_at_call 11; (with_reducible refine (scalar_Class.calls k 160 t124 _ A13.out).mono ?_); rintro e w' ⟨rfl, ⟨nd, rfl⟩⟩) | ((with_reducible refine gate_dst (N := 29) rfl ?_); (try (refine gate_guard (by rfl) ?_; dsimp only)); refine Kd.R_lit (Kd.int .u32) _ 22 ?hg (N := 29) ?hd (xs := ([1, 57343] : List Int)) (inner := [.int .u32 1, .int .u32 57343]) (ok := fun _ => True) (okp := fun _ => True) ?hr ?hp (fun _ hk => hk) trivial (Below.refl _ _) (Nat.le_refl _) (by simp) ?_; (case hd => rfl); (case hg => rfl); (case hr => first | (go_simp; done) | (go_simp; rfl)); (case hp => exact (Reps.one (show Kd.M (Kd.int .u32) _ _ _ 1 [.int .u32 1] from rfl) (Reps.one (show Kd.M (Kd.int .u32) _ _ _ 57343 [.int .u32 57343] from rfl) (Reps.none _ _)))); intro v126 w25 ho26 hb hg_ hnew_; clear hg_ hnew_; (first | rw [← Ny125.out] at ho26 | (simp only [Int.reduceToNat] at ho26; rw [← Ny125.out] at ho26)); have n0_ := Aside0.mk (Kd.R_elder' (by (with_reducible repeat (first | apply Kd.R_alloc | apply Kd.R_drewN | apply Kd.R_drew)); exact HO115.out) (Kd.R_base ho26) hb); have n1_ := Aside0.mk (Kd.R_elder' (by (with_reducible repeat (first | apply Kd.R_alloc | apply Kd.R_drewN | apply Kd.R_drew)); exact HO119.out) (Kd.R_base ho26) hb); have n2_ := Aside0.mk (Kd.R_elder' (by (with_reducible repeat (first | apply Kd.R_alloc | apply Kd.R_drewN | apply Kd.R_drew)); exact HO122.out) (Kd.R_base ho26) hb); have n3_ := Aside0.mk (Kd.R_lower (Kd.R_new' (Kd.R_new' (Kd.R_new' ho26 (Kd.R_lt (by (with_reducible repeat (first | apply Kd.R_alloc | apply Kd.R_drewN | apply Kd.R_drew)); exact HO115.out))) (Kd.R_lt (by (with_reducible repeat (first | apply Kd.R_alloc | apply Kd.R_drewN | apply Kd.R_drew)); exact HO119.out))) (Kd.R_lt (by (with_reducible repeat (first | apply Kd.R_alloc | apply Kd.R_drewN | apply Kd.R_drew)); exact HO122.out))) (below_size (by repeat (first | (with_reducible first | exact HB.out | apply below_alloc | apply pw_below_drewN | apply below_drew1) | exact HB.out)))); have n4_ := Aside0.mk (below_step (by repeat (first | (with_reducible first | exact HB.out | apply below_alloc | apply pw_below_drewN | apply below_drew1) | exact HB.out)) hb); clear HO115; clear HO119; clear HO122; clear HB; have HO115 := n0_; have HO119 := n1_; have HO122 := n2_; have HO127 := n3_; have HB := n4_; clear n0_ n1_ n2_ n3_ n4_; clear hb ho26; obtain ⟨Ao27, co27, eo27⟩ := Kd.R_slice HO127.out; subst eo27) | (go_at_call 13; (with_reducible refine (scalar_First.calls k _ _ y125 t128 _ ?side1 ?side2 A15.out).mono ?_); (case side1 => repeat (first | exact (Kd.R_reads' HO127.out).2.2 | (with_reducible refine Kd.C_alloc ?_ _) | (with_reducible refine Kd.C_drewN ?_ _) | (with_reducible refine Kd.C_drew ?_))); (case side2 => exact (Kd.R_reads' HO127.out).2.1); rintro e w' ⟨rfl, ⟨nd, rfl⟩⟩))
                go_ret
                exact ⟨by first | rfl | (simp [errW_none, errW_some] <;> rfl) | (simp [*, errW_none, errW_some] <;> rfl), by repeat (first | (with_reducible first | exact HB.out | apply below_alloc | apply pw_below_drewN | apply below_drew1) | exact HB.out)⟩
              · rw [if_neg c14] at H
                have c14b0 : (t124 == 3) = false := beq_eq_false_iff_ne.mpr c14
                have c14b1 : (t124 != 3) = true := bne_iff_ne.mpr c14
                obtain rfl := Option.some.inj H
                go_enter Try.func8, Try.ntmps8
                go_wp2_with (first | ((with_reducible refine gate_callee (f := 9) rfl ?_); refine goesL_ (some 1) rfl rfl Try.func9 (by kernel_rfl) rfl #[.int .u32 55295] rfl (by (try simp only [List.map_toArray, List.map_cons, List.map_nil]); first | done | rfl | (simp only [List.length_drop, List.length_take]; rfl)) ?_; (with_reducible refine (scalar_Is.calls 55295 true _ A1.out).mono ?_); rintro e w' ⟨rfl, ⟨nd, rfl⟩⟩; refine ⟨_, rfl, ?_⟩) | (go_at_call 9; (with_reducible refine (scalar_Is.calls 57344 true _ A3.out).mono ?_); rintro e w' ⟨rfl, ⟨nd, rfl⟩⟩) | (go_at_call 9; (with_reducible refine (scalar_Is.calls 55296 false _ A5.out).mono ?_); rintro e w' ⟨rfl, ⟨nd, rfl⟩⟩) | (go_at_call 9; (with_reducible refine (scalar_Is.calls 1114112 false _ A7.out).mono ?_); rintro e w' ⟨rfl, ⟨nd, rfl⟩⟩) | ((with_reducible refine gate_dst (N := 14) rfl ?_); (try (refine gate_guard (by rfl) ?_; dsimp only)); refine Kd.R_lit (Kd.int .u32) _ 22 ?hg (N := 14) ?hd (xs := ([65, 128512] : List Int)) (inner := [.int .u32 65, .int .u32 128512]) (ok := fun _ => True) (okp := fun _ => True) ?hr ?hp (fun _ hk => hk) trivial (Below.refl _ _) (Nat.le_refl _) (by simp) ?_; (case hd => rfl); (case hg => rfl); (case hr => first | (go_simp; done) | (go_simp; rfl)); (case hp => exact (Reps.one (show Kd.M (Kd.int .u32) _ _ _ 65 [.int .u32 65] from rfl) (Reps.one (show Kd.M (Kd.int .u32) _ _ _ 128512 [.int .u32 128512] from rfl) (Reps.none _ _)))); intro v114 w28 ho29 hb hg_ hnew_; clear hg_ hnew_; (first | rw [← Ny113.out] at ho29 | (simp only [Int.reduceToNat] at ho29; rw [← Ny113.out] at ho29)); have n0_ := Aside0.mk (Kd.R_lower ho29 (below_size (by repeat (first | (with_reducible first | exact HB.out | apply below_alloc | apply pw_below_drewN | apply below_drew1) | exact HB.out)))); have n1_ := Aside0.mk (below_step (by repeat (first | (with_reducible first | exact HB.out | apply below_alloc | apply pw_below_drewN | apply below_drew1) | exact HB.out)) hb); clear HB; have HO115 := n0_; have HB := n1_; clear n0_ n1_; clear hb ho29; obtain ⟨Ao30, co30, eo30⟩ := Kd.R_slice HO115.out; subst eo30) | (go_at_call 15; (with_reducible refine (scalar_Units.calls k _ _ y113 t116 _ ?side1 ?side2 A9.out).mono ?_); (case side1 => repeat (first | exact (Kd.R_reads' HO115.out).2.2 | (with_reducible refine Kd.C_alloc ?_ _) | (with_reducible refine Kd.C_drewN ?_ _) | (with_reducible refine Kd.C_drew ?_))); (case side2 => exact (Kd.R_reads' HO115.out).2.1); rintro e w' ⟨rfl, ⟨nd, rfl⟩⟩) | ((with_reducible refine gate_dst (N := 19) rfl ?_); (try (refine gate_guard (by rfl) ?_; dsimp only)); refine Kd.R_lit (Kd.int .u32) _ 22 ?hg (N := 19) ?hd (xs := ([1, 2] : List Int)) (inner := [.int .u32 1, .int .u32 2]) (ok := fun _ => True) (okp := fun _ => True) ?hr ?hp (fun _ hk => hk) trivial (Below.refl _ _) (Nat.le_refl _) (by simp) ?_; (case hd => rfl); (case hg => rfl); (case hr => first | (go_simp; done) | (go_simp; rfl)); (case hp => exact (Reps.one (show Kd.M (Kd.int .u32) _ _ _ 1 [.int .u32 1] from rfl) (Reps.one (show Kd.M (Kd.int .u32) _ _ _ 2 [.int .u32 2] from rfl) (Reps.none _ _)))); intro v118 w31 ho32 hb hg_ hnew_; clear hg_ hnew_; (first | rw [← Ny117.out] at ho32 | (simp only [Int.reduceToNat] at ho32; rw [← Ny117.out] at ho32)); have n0_ := Aside0.mk (Kd.R_elder' (by (with_reducible repeat (first | apply Kd.R_alloc | apply Kd.R_drewN | apply Kd.R_drew)); exact HO115.out) (Kd.R_base ho32) hb); have n1_ := Aside0.mk (Kd.R_lower (Kd.R_new' ho32 (Kd.R_lt (by (with_reducible repeat (first | apply Kd.R_alloc | apply Kd.R_drewN | apply Kd.R_drew)); exact HO115.out))) (below_size (by repeat (first | (with_reducible first | exact HB.out | apply below_alloc | apply pw_below_drewN | apply below_drew1) | exact HB.out)))); have n2_ := Aside0.mk (below_step (by repeat (first | (with_reducible first | exact HB.out | apply below_alloc | apply pw_below_drewN | apply below_drew1) | exact HB.out)) hb); clear HO115; clear HB; have HO115 := n0_; have HO119 := n1_; have HB := n2_; clear n0_ n1_ n2_; clear hb ho32) | ((with_reducible refine gate_dst (N := 20) rfl ?_); (try (refine gate_guard (by rfl) ?_; dsimp only)); refine Kd.R_lit (Kd.int .u32) _ 22 ?hg (N := 20) ?hd (xs := ([1, 2, 0] : List Int)) (inner := [.int .u32 1, .int .u32 2, .int .u32 0]) (ok := fun _ => True) (okp := fun _ => True) ?hr ?hp (fun _ hk => hk) trivial (Below.refl _ _) (Nat.le_refl _) (by simp) ?_; (case hd => rfl); (case hg => rfl); (case hr => first | (go_simp; done) | (go_simp; rfl)); (case hp => exact (Reps.one (show Kd.M (Kd.int .u32) _ _ _ 1 [.int .u32 1] from rfl) (Reps.one (show Kd.M (Kd.int .u32) _ _ _ 2 [.int .u32 2] from rfl) (Reps.one (show Kd.M (Kd.int .u32) _ _ _ 0 [.int .u32 0] from rfl) (Reps.none _ _))))); intro v121 w33 ho34 hb hg_ hnew_; clear hg_ hnew_; (first | rw [← Ny120.out] at ho34 | (simp only [Int.reduceToNat] at ho34; rw [← Ny120.out] at ho34)); have n0_ := Aside0.mk (Kd.R_elder' (by (with_reducible repeat (first | apply Kd.R_alloc | apply Kd.R_drewN | apply Kd.R_drew)); exact HO115.out) (Kd.R_base ho34) hb); have n1_ := Aside0.mk (Kd.R_elder' (by (with_reducible repeat (first | apply Kd.R_alloc | apply Kd.R_drewN | apply Kd.R_drew)); exact HO119.out) (Kd.R_base ho34) hb); have n2_ := Aside0.mk (Kd.R_lower (Kd.R_new' (Kd.R_new' ho34 (Kd.R_lt (by (with_reducible repeat (first | apply Kd.R_alloc | apply Kd.R_drewN | apply Kd.R_drew)); exact HO115.out))) (Kd.R_lt (by (with_reducible repeat (first | apply Kd.R_alloc | apply Kd.R_drewN | apply Kd.R_drew)); exact HO119.out))) (below_size (by repeat (first | (with_reducible first | exact HB.out | apply below_alloc | apply pw_below_drewN | apply below_drew1) | exact HB.out)))); have n3_ := Aside0.mk (below_step (by repeat (first | (with_reducible first | exact HB.out | apply below_alloc | apply pw_below_drewN | apply below_drew1) | exact HB.out)) hb); clear HO115; clear HO119; clear HB; have HO115 := n0_; have HO119 := n1_; have HO122 := n2_; have HB := n3_; clear n0_ n1_ n2_ n3_; clear hb ho34; obtain ⟨Ao35, co35, eo35⟩ := Kd.R_slice HO119.out; subst eo35; obtain ⟨Ao36, co36, eo36⟩ := Kd.R_slice HO122.out; subst eo36) | (go_at_call 17; (with_reducible refine (scalar_Order.calls k _ _ y117 _ _ y120 t123 _ ?side1 ?side2 ?side3 ?side4 A11.out).mono ?_); (case side1 => repeat (first | exact (Kd.R_reads' HO119.out).2.2 | (with_reducible refine Kd.C_alloc ?_ _) | (with_reducible refine Kd.C_drewN ?_ _) | (with_reducible refine Kd.C_drew ?_))); (case side2 => exact (Kd.R_reads' HO119.out).2.1); (case side3 => repeat (first | exact (Kd.R_reads' HO122.out).2.2 | (with_reducible refine Kd.C_alloc ?_ _) | (with_reducible refine Kd.C_drewN ?_ _) | (with_reducible refine Kd.C_drew ?_))); (case side4 => exact (Kd.R_reads' HO122.out).2.1); rintro e w' ⟨rfl, ⟨nd, rfl⟩⟩) | (go_at_call 11; (with_reducible refine (scalar_Class.calls k 160 t124 _ A13.out).mono ?_); rintro e w' ⟨rfl, ⟨nd, rfl⟩⟩))
                go_ret
                exact ⟨by first | rfl | (simp [errW_none, errW_some] <;> rfl) | (simp [*, errW_none, errW_some] <;> rfl), by repeat (first | (with_reducible first | exact HB.out | apply below_alloc | apply pw_below_drewN | apply below_drew1) | exact HB.out)⟩
            · rw [if_neg c12] at H
              have c12b0 : (t123 == (-1)) = false := beq_eq_false_iff_ne.mpr c12
              have c12b1 : (t123 != (-1)) = true := bne_iff_ne.mpr c12
              obtain rfl := Option.some.inj H
              go_enter Try.func8, Try.ntmps8
              go_wp2_with (first | ((with_reducible refine gate_callee (f := 9) rfl ?_); refine goesL_ (some 1) rfl rfl Try.func9 (by kernel_rfl) rfl #[.int .u32 55295] rfl (by (try simp only [List.map_toArray, List.map_cons, List.map_nil]); first | done | rfl | (simp only [List.length_drop, List.length_take]; rfl)) ?_; (with_reducible refine (scalar_Is.calls 55295 true _ A1.out).mono ?_); rintro e w' ⟨rfl, ⟨nd, rfl⟩⟩; refine ⟨_, rfl, ?_⟩) | (go_at_call 9; (with_reducible refine (scalar_Is.calls 57344 true _ A3.out).mono ?_); rintro e w' ⟨rfl, ⟨nd, rfl⟩⟩) | (go_at_call 9; (with_reducible refine (scalar_Is.calls 55296 false _ A5.out).mono ?_); rintro e w' ⟨rfl, ⟨nd, rfl⟩⟩) | (go_at_call 9; (with_reducible refine (scalar_Is.calls 1114112 false _ A7.out).mono ?_); rintro e w' ⟨rfl, ⟨nd, rfl⟩⟩) | ((with_reducible refine gate_dst (N := 14) rfl ?_); (try (refine gate_guard (by rfl) ?_; dsimp only)); refine Kd.R_lit (Kd.int .u32) _ 22 ?hg (N := 14) ?hd (xs := ([65, 128512] : List Int)) (inner := [.int .u32 65, .int .u32 128512]) (ok := fun _ => True) (okp := fun _ => True) ?hr ?hp (fun _ hk => hk) trivial (Below.refl _ _) (Nat.le_refl _) (by simp) ?_; (case hd => rfl); (case hg => rfl); (case hr => first | (go_simp; done) | (go_simp; rfl)); (case hp => exact (Reps.one (show Kd.M (Kd.int .u32) _ _ _ 65 [.int .u32 65] from rfl) (Reps.one (show Kd.M (Kd.int .u32) _ _ _ 128512 [.int .u32 128512] from rfl) (Reps.none _ _)))); intro v114 w37 ho38 hb hg_ hnew_; clear hg_ hnew_; (first | rw [← Ny113.out] at ho38 | (simp only [Int.reduceToNat] at ho38; rw [← Ny113.out] at ho38)); have n0_ := Aside0.mk (Kd.R_lower ho38 (below_size (by repeat (first | (with_reducible first | exact HB.out | apply below_alloc | apply pw_below_drewN | apply below_drew1) | exact HB.out)))); have n1_ := Aside0.mk (below_step (by repeat (first | (with_reducible first | exact HB.out | apply below_alloc | apply pw_below_drewN | apply below_drew1) | exact HB.out)) hb); clear HB; have HO115 := n0_; have HB := n1_; clear n0_ n1_; clear hb ho38; obtain ⟨Ao39, co39, eo39⟩ := Kd.R_slice HO115.out; subst eo39) | (go_at_call 15; (with_reducible refine (scalar_Units.calls k _ _ y113 t116 _ ?side1 ?side2 A9.out).mono ?_); (case side1 => repeat (first | exact (Kd.R_reads' HO115.out).2.2 | (with_reducible refine Kd.C_alloc ?_ _) | (with_reducible refine Kd.C_drewN ?_ _) | (with_reducible refine Kd.C_drew ?_))); (case side2 => exact (Kd.R_reads' HO115.out).2.1); rintro e w' ⟨rfl, ⟨nd, rfl⟩⟩) | ((with_reducible refine gate_dst (N := 19) rfl ?_); (try (refine gate_guard (by rfl) ?_; dsimp only)); refine Kd.R_lit (Kd.int .u32) _ 22 ?hg (N := 19) ?hd (xs := ([1, 2] : List Int)) (inner := [.int .u32 1, .int .u32 2]) (ok := fun _ => True) (okp := fun _ => True) ?hr ?hp (fun _ hk => hk) trivial (Below.refl _ _) (Nat.le_refl _) (by simp) ?_; (case hd => rfl); (case hg => rfl); (case hr => first | (go_simp; done) | (go_simp; rfl)); (case hp => exact (Reps.one (show Kd.M (Kd.int .u32) _ _ _ 1 [.int .u32 1] from rfl) (Reps.one (show Kd.M (Kd.int .u32) _ _ _ 2 [.int .u32 2] from rfl) (Reps.none _ _)))); intro v118 w40 ho41 hb hg_ hnew_; clear hg_ hnew_; (first | rw [← Ny117.out] at ho41 | (simp only [Int.reduceToNat] at ho41; rw [← Ny117.out] at ho41)); have n0_ := Aside0.mk (Kd.R_elder' (by (with_reducible repeat (first | apply Kd.R_alloc | apply Kd.R_drewN | apply Kd.R_drew)); exact HO115.out) (Kd.R_base ho41) hb); have n1_ := Aside0.mk (Kd.R_lower (Kd.R_new' ho41 (Kd.R_lt (by (with_reducible repeat (first | apply Kd.R_alloc | apply Kd.R_drewN | apply Kd.R_drew)); exact HO115.out))) (below_size (by repeat (first | (with_reducible first | exact HB.out | apply below_alloc | apply pw_below_drewN | apply below_drew1) | exact HB.out)))); have n2_ := Aside0.mk (below_step (by repeat (first | (with_reducible first | exact HB.out | apply below_alloc | apply pw_below_drewN | apply below_drew1) | exact HB.out)) hb); clear HO115; clear HB; have HO115 := n0_; have HO119 := n1_; have HB := n2_; clear n0_ n1_ n2_; clear hb ho41) | ((with_reducible refine gate_dst (N := 20) rfl ?_); (try (refine gate_guard (by rfl) ?_; dsimp only)); refine Kd.R_lit (Kd.int .u32) _ 22 ?hg (N := 20) ?hd (xs := ([1, 2, 0] : List Int)) (inner := [.int .u32 1, .int .u32 2, .int .u32 0]) (ok := fun _ => True) (okp := fun _ => True) ?hr ?hp (fun _ hk => hk) trivial (Below.refl _ _) (Nat.le_refl _) (by simp) ?_; (case hd => rfl); (case hg => rfl); (case hr => first | (go_simp; done) | (go_simp; rfl)); (case hp => exact (Reps.one (show Kd.M (Kd.int .u32) _ _ _ 1 [.int .u32 1] from rfl) (Reps.one (show Kd.M (Kd.int .u32) _ _ _ 2 [.int .u32 2] from rfl) (Reps.one (show Kd.M (Kd.int .u32) _ _ _ 0 [.int .u32 0] from rfl) (Reps.none _ _))))); intro v121 w42 ho43 hb hg_ hnew_; clear hg_ hnew_; (first | rw [← Ny120.out] at ho43 | (simp only [Int.reduceToNat] at ho43; rw [← Ny120.out] at ho43)); have n0_ := Aside0.mk (Kd.R_elder' (by (with_reducible repeat (first | apply Kd.R_alloc | apply Kd.R_drewN | apply Kd.R_drew)); exact HO115.out) (Kd.R_base ho43) hb); have n1_ := Aside0.mk (Kd.R_elder' (by (with_reducible repeat (first | apply Kd.R_alloc | apply Kd.R_drewN | apply Kd.R_drew)); exact HO119.out) (Kd.R_base ho43) hb); have n2_ := Aside0.mk (Kd.R_lower (Kd.R_new' (Kd.R_new' ho43 (Kd.R_lt (by (with_reducible repeat (first | apply Kd.R_alloc | apply Kd.R_drewN | apply Kd.R_drew)); exact HO115.out))) (Kd.R_lt (by (with_reducible repeat (first | apply Kd.R_alloc | apply Kd.R_drewN | apply Kd.R_drew)); exact HO119.out))) (below_size (by repeat (first | (with_reducible first | exact HB.out | apply below_alloc | apply pw_below_drewN | apply below_drew1) | exact HB.out)))); have n3_ := Aside0.mk (below_step (by repeat (first | (with_reducible first | exact HB.out | apply below_alloc | apply pw_below_drewN | apply below_drew1) | exact HB.out)) hb); clear HO115; clear HO119; clear HB; have HO115 := n0_; have HO119 := n1_; have HO122 := n2_; have HB := n3_; clear n0_ n1_ n2_ n3_; clear hb ho43; obtain ⟨Ao44, co44, eo44⟩ := Kd.R_slice HO119.out; subst eo44; obtain ⟨Ao45, co45, eo45⟩ := Kd.R_slice HO122.out; subst eo45) | (go_at_call 17; (with_reducible refine (scalar_Order.calls k _ _ y117 _ _ y120 t123 _ ?side1 ?side2 ?side3 ?side4 A11.out).mono ?_); (case side1 => repeat (first | exact (Kd.R_reads' HO119.out).2.2 | (with_reducible refine Kd.C_alloc ?_ _) | (with_reducible refine Kd.C_drewN ?_ _) | (with_reducible refine Kd.C_drew ?_))); (case side2 => exact (Kd.R_reads' HO119.out).2.1); (case side3 => repeat (first | exact (Kd.R_reads' HO122.out).2.2 | (with_reducible refine Kd.C_alloc ?_ _) | (with_reducible refine Kd.C_drewN ?_ _) | (with_reducible refine Kd.C_drew ?_))); (case side4 => exact (Kd.R_reads' HO122.out).2.1); rintro e w' ⟨rfl, ⟨nd, rfl⟩⟩))
              go_ret
              exact ⟨by first | rfl | (simp [errW_none, errW_some] <;> rfl) | (simp [*, errW_none, errW_some] <;> rfl), by repeat (first | (with_reducible first | exact HB.out | apply below_alloc | apply pw_below_drewN | apply below_drew1) | exact HB.out)⟩
          · rw [if_neg c10] at H
            have c10b0 : (t116 == 3) = false := beq_eq_false_iff_ne.mpr c10
            have c10b1 : (t116 != 3) = true := bne_iff_ne.mpr c10
            obtain rfl := Option.some.inj H
            go_enter Try.func8, Try.ntmps8
            go_wp2_with (first | ((with_reducible refine gate_callee (f := 9) rfl ?_); refine goesL_ (some 1) rfl rfl Try.func9 (by kernel_rfl) rfl #[.int .u32 55295] rfl (by (try simp only [List.map_toArray, List.map_cons, List.map_nil]); first | done | rfl | (simp only [List.length_drop, List.length_take]; rfl)) ?_; (with_reducible refine (scalar_Is.calls 55295 true _ A1.out).mono ?_); rintro e w' ⟨rfl, ⟨nd, rfl⟩⟩; refine ⟨_, rfl, ?_⟩) | (go_at_call 9; (with_reducible refine (scalar_Is.calls 57344 true _ A3.out).mono ?_); rintro e w' ⟨rfl, ⟨nd, rfl⟩⟩) | (go_at_call 9; (with_reducible refine (scalar_Is.calls 55296 false _ A5.out).mono ?_); rintro e w' ⟨rfl, ⟨nd, rfl⟩⟩) | (go_at_call 9; (with_reducible refine (scalar_Is.calls 1114112 false _ A7.out).mono ?_); rintro e w' ⟨rfl, ⟨nd, rfl⟩⟩) | ((with_reducible refine gate_dst (N := 14) rfl ?_); (try (refine gate_guard (by rfl) ?_; dsimp only)); refine Kd.R_lit (Kd.int .u32) _ 22 ?hg (N := 14) ?hd (xs := ([65, 128512] : List Int)) (inner := [.int .u32 65, .int .u32 128512]) (ok := fun _ => True) (okp := fun _ => True) ?hr ?hp (fun _ hk => hk) trivial (Below.refl _ _) (Nat.le_refl _) (by simp) ?_; (case hd => rfl); (case hg => rfl); (case hr => first | (go_simp; done) | (go_simp; rfl)); (case hp => exact (Reps.one (show Kd.M (Kd.int .u32) _ _ _ 65 [.int .u32 65] from rfl) (Reps.one (show Kd.M (Kd.int .u32) _ _ _ 128512 [.int .u32 128512] from rfl) (Reps.none _ _)))); intro v114 w46 ho47 hb hg_ hnew_; clear hg_ hnew_; (first | rw [← Ny113.out] at ho47 | (simp only [Int.reduceToNat] at ho47; rw [← Ny113.out] at ho47)); have n0_ := Aside0.mk (Kd.R_lower ho47 (below_size (by repeat (first | (with_reducible first | exact HB.out | apply below_alloc | apply pw_below_drewN | apply below_drew1) | exact HB.out)))); have n1_ := Aside0.mk (below_step (by repeat (first | (with_reducible first | exact HB.out | apply below_alloc | apply pw_below_drewN | apply below_drew1) | exact HB.out)) hb); clear HB; have HO115 := n0_; have HB := n1_; clear n0_ n1_; clear hb ho47; obtain ⟨Ao48, co48, eo48⟩ := Kd.R_slice HO115.out; subst eo48) | (go_at_call 15; (with_reducible refine (scalar_Units.calls k _ _ y113 t116 _ ?side1 ?side2 A9.out).mono ?_); (case side1 => repeat (first | exact (Kd.R_reads' HO115.out).2.2 | (with_reducible refine Kd.C_alloc ?_ _) | (with_reducible refine Kd.C_drewN ?_ _) | (with_reducible refine Kd.C_drew ?_))); (case side2 => exact (Kd.R_reads' HO115.out).2.1); rintro e w' ⟨rfl, ⟨nd, rfl⟩⟩))
            go_ret
            exact ⟨by first | rfl | (simp [errW_none, errW_some] <;> rfl) | (simp [*, errW_none, errW_some] <;> rfl), by repeat (first | (with_reducible first | exact HB.out | apply below_alloc | apply pw_below_drewN | apply below_drew1) | exact HB.out)⟩
    · replace c4 := Bool.eq_false_iff.mpr c4
      subst c4
      have H1 : (some false) = some r := by rw [if_neg (show ¬ (false = true) by decide)] at H; exact H
      clear H
      have H := H1
      clear H1
      obtain rfl := Option.some.inj H
      go_enter Try.func8, Try.ntmps8
      go_wp2_with (first | ((with_reducible refine gate_callee (f := 9) rfl ?_); refine goesL_ (some 1) rfl rfl Try.func9 (by kernel_rfl) rfl #[.int .u32 55295] rfl (by (try simp only [List.map_toArray, List.map_cons, List.map_nil]); first | done | rfl | (simp only [List.length_drop, List.length_take]; rfl)) ?_; (with_reducible refine (scalar_Is.calls 55295 true _ A1.out).mono ?_); rintro e w' ⟨rfl, ⟨nd, rfl⟩⟩; refine ⟨_, rfl, ?_⟩) | (go_at_call 9; (with_reducible refine (scalar_Is.calls 57344 false _ A3.out).mono ?_); rintro e w' ⟨rfl, ⟨nd, rfl⟩⟩))
      go_ret
      exact ⟨by first | rfl | (simp [errW_none, errW_some] <;> rfl) | (simp [*, errW_none, errW_some] <;> rfl), by repeat (first | (with_reducible first | exact HB.out | apply below_alloc | apply pw_below_drewN | apply below_drew1) | exact HB.out)⟩
  · replace c2 := Bool.eq_false_iff.mpr c2
    subst c2
    have H1 : (some false) = some r := by rw [if_neg (show ¬ (false = true) by decide)] at H; exact H
    clear H
    have H := H1
    clear H1
    obtain rfl := Option.some.inj H
    go_enter Try.func8, Try.ntmps8
    go_wp2_with (first | ((with_reducible refine gate_callee (f := 9) rfl ?_); refine goesL_ (some 1) rfl rfl Try.func9 (by kernel_rfl) rfl #[.int .u32 55295] rfl (by (try simp only [List.map_toArray, List.map_cons, List.map_nil]); first | done | rfl | (simp only [List.length_drop, List.length_take]; rfl)) ?_; (with_reducible refine (scalar_Is.calls 55295 false _ A1.out).mono ?_); rintro e w' ⟨rfl, ⟨nd, rfl⟩⟩; refine ⟨_, rfl, ?_⟩))
    go_ret
    exact ⟨by first | rfl | (simp [errW_none, errW_some] <;> rfl) | (simp [*, errW_none, errW_some] <;> rfl), by repeat (first | (with_reducible first | exact HB.out | apply below_alloc | apply pw_below_drewN | apply below_drew1) | exact HB.out)⟩

/-! ### pilcrowref01_Is: function 10 -/
def pilcrowref01_Is.f (a0 : Int) : Option (Bool) := if a0 ≥ 55296 then (if a0 ≤ 57343 then (some false) else (some (decide (a0 ≤ 1114111)))) else (some (decide (a0 ≤ 1114111)))
set_option maxHeartbeats 8000000 in
set_option maxRecDepth 100000 in
theorem pilcrowref01_Is.calls (a0 : Int) (r : Bool) (w : World) (h : pilcrowref01_Is.f a0 = some r) :
    Calls Try.prog 10 #[.int .u32 a0] w fun e w' => e = .returned (.bool r) ∧ Drawn0 w w' := by
  have H : (if a0 ≥ 55296 then (if a0 ≤ 57343 then (some false) else (some (decide (a0 ≤ 1114111)))) else (some (decide (a0 ≤ 1114111)))) = some r := h
  clear h
  by_cases c2 : a0 ≥ 55296
  · rw [if_pos c2] at H
    have c2b0 : decide (55296 ≤ a0) = true := decide_eq_true c2
    clear c2
    by_cases c3 : a0 ≤ 57343
    · rw [if_pos c3] at H
      have c3b0 : decide (a0 ≤ 57343) = true := decide_eq_true c3
      clear c3
      obtain rfl := Option.some.inj H
      go_enter Try.func10, Try.ntmps10
      go_wp2
      go_ret
      exact ⟨by first | rfl | (simp; done) | (simp [*]; done), by repeat (first | exact Drawn0.refl _ | apply Drawn0.step)⟩
    · rw [if_neg c3] at H
      have c3b0 : decide (a0 ≤ 57343) = false := decide_eq_false c3
      clear c3
      obtain rfl := Option.some.inj H
      go_enter Try.func10, Try.ntmps10
      go_wp2
      go_ret
      exact ⟨by first | rfl | (simp; done) | (simp [*]; done), by repeat (first | exact Drawn0.refl _ | apply Drawn0.step)⟩
  · rw [if_neg c2] at H
    have c2b0 : decide (55296 ≤ a0) = false := decide_eq_false c2
    clear c2
    obtain rfl := Option.some.inj H
    go_enter Try.func10, Try.ntmps10
    go_wp2
    go_ret
    exact ⟨by first | rfl | (simp; done) | (simp [*]; done), by repeat (first | exact Drawn0.refl _ | apply Drawn0.step)⟩

/-! ### pilcrowref01_Class: function 12 -/
mutual
def pilcrowref01_Class.j0 : Nat → Int → Bool → Option (Int)
  | 0, _, _ => none
  | k + 1, x0, x15 => if x15 = true then (some 1) else (if x0 ≤ 126 then (some 2) else (if x0 ≤ 255 then (some 3) else (if x0 ≥ 57344 then (pilcrowref01_Class.j1 k x0 (decide (x0 ≤ 63743))) else (pilcrowref01_Class.j1 k x0 false))))
def pilcrowref01_Class.j1 : Nat → Int → Bool → Option (Int)
  | 0, _, _ => none
  | k + 1, x0, x25 => if x25 = true then (some 5) else (if x0 > 65535 then (some 6) else (some 4))
end
def pilcrowref01_Class.f (k : Nat) (a0 : Int) : Option (Int) := (pilcrowref01_Is.f a0).bind fun t129 => (if t129 = true then (if a0 ≤ 31 then (pilcrowref01_Class.j0 k a0 true) else (if a0 ≥ 127 then (pilcrowref01_Class.j0 k a0 (decide (a0 ≤ 159))) else (pilcrowref01_Class.j0 k a0 false))) else (some 0))
theorem pilcrowref01_Class.mono_l : ∀ k, (∀ y0 y1, LeO (pilcrowref01_Class.j0 k y0 y1) (pilcrowref01_Class.j0 (k + 1) y0 y1)) ∧ (∀ y0 y1, LeO (pilcrowref01_Class.j1 k y0 y1) (pilcrowref01_Class.j1 (k + 1) y0 y1))
  | 0 => ⟨fun _ _ r h => by simp [pilcrowref01_Class.j0] at h, fun _ _ r h => by simp [pilcrowref01_Class.j1] at h⟩
  | k + 1 => by
    obtain ⟨ih0, ih1⟩ := pilcrowref01_Class.mono_l k
    refine ⟨?_, ?_⟩
    · intro y0 y1
      unfold pilcrowref01_Class.j0
      repeat' first
      | (with_reducible exact ih0 _ _)
      | (with_reducible exact ih1 _ _)
      | (with_reducible exact LeO.refl _)
      | (with_reducible exact LeO.none _)
      | (with_reducible refine LeO.ite ?_ ?_)
      | (with_reducible refine LeO.bind ?_ (fun _ => ?_))
      | exact ih0 _ _
      | exact ih1 _ _
      | exact LeO.none _
      | refine LeO.ite ?_ ?_
      | refine LeO.bind ?_ (fun _ => ?_)
    · intro y0 y1
      unfold pilcrowref01_Class.j1
      repeat' first
      | (with_reducible exact ih0 _ _)
      | (with_reducible exact ih1 _ _)
      | (with_reducible exact LeO.refl _)
      | (with_reducible exact LeO.none _)
      | (with_reducible refine LeO.ite ?_ ?_)
      | (with_reducible refine LeO.bind ?_ (fun _ => ?_))
      | exact ih0 _ _
      | exact ih1 _ _
      | exact LeO.none _
      | refine LeO.ite ?_ ?_
      | refine LeO.bind ?_ (fun _ => ?_)
theorem pilcrowref01_Class.mono : ∀ a0 k, LeO (pilcrowref01_Class.f k a0) (pilcrowref01_Class.f (k + 1) a0) := by
  intro a0 k
  obtain ⟨ih0, ih1⟩ := pilcrowref01_Class.mono_l k
  unfold pilcrowref01_Class.f
  repeat' first
      | (with_reducible exact ih0 _ _)
      | (with_reducible exact ih1 _ _)
      | (with_reducible exact LeO.refl _)
      | (with_reducible exact LeO.none _)
      | (with_reducible refine LeO.ite ?_ ?_)
      | (with_reducible refine LeO.bind ?_ (fun _ => ?_))
      | exact ih0 _ _
      | exact ih1 _ _
      | exact LeO.none _
      | refine LeO.ite ?_ ?_
      | refine LeO.bind ?_ (fun _ => ?_)
set_option maxHeartbeats 8000000 in
set_option maxRecDepth 100000 in
theorem pilcrowref01_Class.calls (k : Nat) (a0 : Int) (r : Int) (w : World) (h : pilcrowref01_Class.f k a0 = some r) :
    Calls Try.prog 12 #[.int .u32 a0] w fun e w' => e = .returned (.int .i64 r) ∧ Drawn0 w w' := by
  have H : ((pilcrowref01_Is.f a0).bind fun t129 => (if t129 = true then (if a0 ≤ 31 then (pilcrowref01_Class.j0 k a0 true) else (if a0 ≥ 127 then (pilcrowref01_Class.j0 k a0 (decide (a0 ≤ 159))) else (pilcrowref01_Class.j0 k a0 false))) else (some 0))) = some r := h
  clear h
  replace H := Option.bind_eq_some_iff.mp H
  obtain ⟨t129, A20, H⟩ := H
  replace H : (if t129 = true then (if a0 ≤ 31 then (pilcrowref01_Class.j0 k a0 true) else (if a0 ≥ 127 then (pilcrowref01_Class.j0 k a0 (decide (a0 ≤ 159))) else (pilcrowref01_Class.j0 k a0 false))) else (some 0)) = some r := H
  have A2 := Aside0.mk A20
  clear A20
  by_cases c3 : t129 = true
  · subst c3
    have H1 : (if a0 ≤ 31 then (pilcrowref01_Class.j0 k a0 true) else (if a0 ≥ 127 then (pilcrowref01_Class.j0 k a0 (decide (a0 ≤ 159))) else (pilcrowref01_Class.j0 k a0 false))) = some r := by rw [if_pos rfl] at H; exact H
    clear H
    have H := H1
    clear H1
    have HC4 := Aside0.mk H
    clear H
    go_enter Try.func12, Try.ntmps12
    go_upto_region 3 with (first | ((with_reducible refine gate_callee (f := 10) rfl ?_); refine goesL_ (some 4) rfl rfl Try.func10 (by kernel_rfl) rfl #[.int .u32 a0] rfl (by (try simp only [List.map_toArray, List.map_cons, List.map_nil]); first | done | rfl | (simp only [List.length_drop, List.length_take]; rfl)) ?_; (with_reducible refine (pilcrowref01_Is.calls a0 true _ A2.out).mono ?_); rintro e w' ⟨rfl, ⟨nd, rfl⟩⟩; refine ⟨_, rfl, ?_⟩))
    (try simp only [Act.put, List.setIfInBounds_toArray, List.set_cons_zero, List.set_cons_succ])
    go_cut [15] (fun v15 wc => ∃ (kq : Nat) (x15_3 : Bool), v15 = .bool x15_3 ∧ Aside0 (pilcrowref01_Class.j0 kq a0 x15_3 = some r) ∧ Aside0 (kq ≤ k) ∧ Drawn0 w wc)
    case first =>
      have H := HC4.out
      clear HC4
      by_cases c5 : a0 ≤ 31
      · rw [if_pos c5] at H
        have c5b0 : decide (a0 ≤ 31) = true := decide_eq_true c5
        clear c5
        (first | rw [c5b0] | (simp only [i64_w, i32_w]; rw [c5b0]) | skip)
        have H' := Aside0.mk H
        clear H
        go_wp2
        go_meet
        case rel => exact ⟨_, (true), (by first | rfl | (simp; done) | (simp [*]; done)), H', ⟨by first | omega | exact Nat.le_refl _⟩, by repeat (first | exact Drawn0.refl _ | apply Drawn0.step)⟩
      · rw [if_neg c5] at H
        have c5b0 : decide (a0 ≤ 31) = false := decide_eq_false c5
        clear c5
        (first | rw [c5b0] | (simp only [i64_w, i32_w]; rw [c5b0]) | skip)
        by_cases c6 : a0 ≥ 127
        · rw [if_pos c6] at H
          have c6b0 : decide (127 ≤ a0) = true := decide_eq_true c6
          clear c6
          have H' := Aside0.mk H
          clear H
          go_wp2
          go_meet
          case rel => exact ⟨_, (decide (a0 ≤ 159)), (by first | rfl | (simp; done) | (simp [*]; done)), H', ⟨by first | omega | exact Nat.le_refl _⟩, by repeat (first | exact Drawn0.refl _ | apply Drawn0.step)⟩
        · rw [if_neg c6] at H
          have c6b0 : decide (127 ≤ a0) = false := decide_eq_false c6
          clear c6
          have H' := Aside0.mk H
          clear H
          go_wp2
          go_meet
          case rel => exact ⟨_, (false), (by first | rfl | (simp; done) | (simp [*]; done)), H', ⟨by first | omega | exact Nat.le_refl _⟩, by repeat (first | exact Drawn0.refl _ | apply Drawn0.step)⟩
    case rest =>
      clear HC4
      try clear c1
      try clear p2
      try clear c3
      try clear c5
      try clear c5b0
      try clear c6
      try clear c6b0
      obtain ⟨kq, x15_3, rfl, HA, HJ3, ⟨mc3, rfl⟩⟩ := hcut
      cases kq with
      | zero => exact absurd HA.out (by simp [pilcrowref01_Class.j0])
      | succ kj3 =>
        have H := HA.out
        clear HA
        simp only [pilcrowref01_Class.j0] at H
        by_cases c7 : x15_3 = true
        · subst c7
          have H1 : (some 1) = some r := by rw [if_pos rfl] at H; exact H
          clear H
          have H := H1
          clear H1
          obtain rfl := Option.some.inj H
          go_wp2
          go_ret
          exact ⟨by first | rfl | (simp; done) | (simp [*]; done), by repeat (first | exact Drawn0.refl _ | apply Drawn0.step)⟩
        · replace c7 := Bool.eq_false_iff.mpr c7
          subst c7
          have H1 : (if a0 ≤ 126 then (some 2) else (if a0 ≤ 255 then (some 3) else (if a0 ≥ 57344 then (pilcrowref01_Class.j1 kj3 a0 (decide (a0 ≤ 63743))) else (pilcrowref01_Class.j1 kj3 a0 false)))) = some r := by rw [if_neg (show ¬ (false = true) by decide)] at H; exact H
          clear H
          have H := H1
          clear H1
          by_cases c8 : a0 ≤ 126
          · rw [if_pos c8] at H
            have c8b0 : decide (a0 ≤ 126) = true := decide_eq_true c8
            clear c8
            obtain rfl := Option.some.inj H
            go_wp2
            go_ret
            exact ⟨by first | rfl | (simp; done) | (simp [*]; done), by repeat (first | exact Drawn0.refl _ | apply Drawn0.step)⟩
          · rw [if_neg c8] at H
            have c8b0 : decide (a0 ≤ 126) = false := decide_eq_false c8
            clear c8
            by_cases c9 : a0 ≤ 255
            · rw [if_pos c9] at H
              have c9b0 : decide (a0 ≤ 255) = true := decide_eq_true c9
              clear c9
              obtain rfl := Option.some.inj H
              go_wp2
              go_ret
              exact ⟨by first | rfl | (simp; done) | (simp [*]; done), by repeat (first | exact Drawn0.refl _ | apply Drawn0.step)⟩
            · rw [if_neg c9] at H
              have c9b0 : decide (a0 ≤ 255) = false := decide_eq_false c9
              clear c9
              have HC10 := Aside0.mk H
              clear H
              go_upto_region 9 with (fail)
              go_cut [25] (fun v25 wc => ∃ (kq : Nat) (x25_9 : Bool), v25 = .bool x25_9 ∧ Aside0 (pilcrowref01_Class.j1 kq a0 x25_9 = some r) ∧ Aside0 (kq ≤ kj3) ∧ Drawn0 w wc)
              case first =>
                have H := HC10.out
                clear HC10
                by_cases c11 : a0 ≥ 57344
                · rw [if_pos c11] at H
                  have c11b0 : decide (57344 ≤ a0) = true := decide_eq_true c11
                  clear c11
                  (first | rw [c11b0] | (simp only [i64_w, i32_w]; rw [c11b0]) | skip)
                  have H' := Aside0.mk H
                  clear H
                  go_wp2
                  go_meet
                  case rel => exact ⟨_, (decide (a0 ≤ 63743)), (by first | rfl | (simp; done) | (simp [*]; done)), H', ⟨by have := HJ3.out; first | omega | exact Nat.le_refl _⟩, by repeat (first | exact Drawn0.refl _ | apply Drawn0.step)⟩
                · rw [if_neg c11] at H
                  have c11b0 : decide (57344 ≤ a0) = false := decide_eq_false c11
                  clear c11
                  (first | rw [c11b0] | (simp only [i64_w, i32_w]; rw [c11b0]) | skip)
                  have H' := Aside0.mk H
                  clear H
                  go_wp2
                  go_meet
                  case rel => exact ⟨_, (false), (by first | rfl | (simp; done) | (simp [*]; done)), H', ⟨by have := HJ3.out; first | omega | exact Nat.le_refl _⟩, by repeat (first | exact Drawn0.refl _ | apply Drawn0.step)⟩
              case rest =>
                clear HC10
                try clear c1
                try clear p2
                try clear c3
                try clear c5
                try clear c5b0
                try clear c6
                try clear c6b0
                try clear c7
                try clear c8
                try clear c8b0
                try clear c9
                try clear c9b0
                try clear c10
                try clear c11
                try clear c11b0
                try clear p2
                obtain ⟨kq, x25_9, rfl, HA, HJ9, ⟨mc9, rfl⟩⟩ := hcut
                cases kq with
                | zero => exact absurd HA.out (by simp [pilcrowref01_Class.j1])
                | succ kj9 =>
                  have H := HA.out
                  clear HA
                  simp only [pilcrowref01_Class.j1] at H
                  by_cases c12 : x25_9 = true
                  · subst c12
                    have H1 : (some 5) = some r := by rw [if_pos rfl] at H; exact H
                    clear H
                    have H := H1
                    clear H1
                    obtain rfl := Option.some.inj H
                    go_wp2
                    go_ret
                    exact ⟨by first | rfl | (simp; done) | (simp [*]; done), by repeat (first | exact Drawn0.refl _ | apply Drawn0.step)⟩
                  · replace c12 := Bool.eq_false_iff.mpr c12
                    subst c12
                    have H1 : (if a0 > 65535 then (some 6) else (some 4)) = some r := by rw [if_neg (show ¬ (false = true) by decide)] at H; exact H
                    clear H
                    have H := H1
                    clear H1
                    by_cases c13 : a0 > 65535
                    · rw [if_pos c13] at H
                      have c13b0 : decide (65535 < a0) = true := decide_eq_true c13
                      clear c13
                      obtain rfl := Option.some.inj H
                      go_wp2
                      go_ret
                      exact ⟨by first | rfl | (simp; done) | (simp [*]; done), by repeat (first | exact Drawn0.refl _ | apply Drawn0.step)⟩
                    · rw [if_neg c13] at H
                      have c13b0 : decide (65535 < a0) = false := decide_eq_false c13
                      clear c13
                      obtain rfl := Option.some.inj H
                      go_wp2
                      go_ret
                      exact ⟨by first | rfl | (simp; done) | (simp [*]; done), by repeat (first | exact Drawn0.refl _ | apply Drawn0.step)⟩
  · replace c3 := Bool.eq_false_iff.mpr c3
    subst c3
    have H1 : (some 0) = some r := by rw [if_neg (show ¬ (false = true) by decide)] at H; exact H
    clear H
    have H := H1
    clear H1
    obtain rfl := Option.some.inj H
    go_enter Try.func12, Try.ntmps12
    go_wp2_with (first | ((with_reducible refine gate_callee (f := 10) rfl ?_); refine goesL_ (some 4) rfl rfl Try.func10 (by kernel_rfl) rfl #[.int .u32 a0] rfl (by (try simp only [List.map_toArray, List.map_cons, List.map_nil]); first | done | rfl | (simp only [List.length_drop, List.length_take]; rfl)) ?_; (with_reducible refine (pilcrowref01_Is.calls a0 false _ A2.out).mono ?_); rintro e w' ⟨rfl, ⟨nd, rfl⟩⟩; refine ⟨_, rfl, ?_⟩))
    go_ret
    exact ⟨by first | rfl | (simp; done) | (simp [*]; done), by repeat (first | exact Drawn0.refl _ | apply Drawn0.step)⟩

/-! ### pilcrowlaw01_ScalarTells: function 3 -/
def pilcrowlaw01_ScalarTells.f (k : Nat) (a0 : Int) : Option (Bool) := (pilcrowlaw01_awake.f k).bind fun t130 => (if t130 = true then ((scalar_Is.f a0).bind fun t131 => ((pilcrowref01_Is.f a0).bind fun t132 => (if (t131 == t132) = true then ((scalar_Class.f k a0).bind fun t133 => ((pilcrowref01_Class.f k a0).bind fun t134 => (if t133 = t134 then ((scalar_Class.f k a0).bind fun t135 => ((scalar_Is.f a0).bind fun t136 => (some ((t135 == 0) == (!t136))))) else (some false)))) else (some false)))) else (some false))
theorem pilcrowlaw01_ScalarTells.mono : ∀ a0 k, LeO (pilcrowlaw01_ScalarTells.f k a0) (pilcrowlaw01_ScalarTells.f (k + 1) a0) := by
  intro a0 k
  unfold pilcrowlaw01_ScalarTells.f
  repeat' first
      | (with_reducible exact pilcrowlaw01_awake.mono _)
      | (with_reducible exact pilcrowref01_Class.mono _ _)
      | (with_reducible exact scalar_Class.mono _ _)
      | (with_reducible exact LeO.refl _)
      | (with_reducible exact LeO.none _)
      | (with_reducible refine LeO.ite ?_ ?_)
      | (with_reducible refine LeO.bind ?_ (fun _ => ?_))
      | exact pilcrowlaw01_awake.mono _
      | exact pilcrowref01_Class.mono _ _
      | exact scalar_Class.mono _ _
      | exact LeO.none _
      | refine LeO.ite ?_ ?_
      | refine LeO.bind ?_ (fun _ => ?_)
set_option maxHeartbeats 8000000 in
set_option maxRecDepth 100000 in
theorem pilcrowlaw01_ScalarTells.calls (k : Nat) (a0 : Int) (r : Bool) (w : World) (h : pilcrowlaw01_ScalarTells.f k a0 = some r) :
    Calls Try.prog 3 #[.int .u32 a0] w fun e w' => e = .returned (.bool r) ∧ Below w.heap.size w w' := by
  have HB := Aside0.mk (Below.refl w.heap.size w)
  have H : ((pilcrowlaw01_awake.f k).bind fun t130 => (if t130 = true then ((scalar_Is.f a0).bind fun t131 => ((pilcrowref01_Is.f a0).bind fun t132 => (if (t131 == t132) = true then ((scalar_Class.f k a0).bind fun t133 => ((pilcrowref01_Class.f k a0).bind fun t134 => (if t133 = t134 then ((scalar_Class.f k a0).bind fun t135 => ((scalar_Is.f a0).bind fun t136 => (some ((t135 == 0) == (!t136))))) else (some false)))) else (some false)))) else (some false))) = some r := h
  clear h
  replace H := Option.bind_eq_some_iff.mp H
  obtain ⟨t130, A20, H⟩ := H
  replace H : (if t130 = true then ((scalar_Is.f a0).bind fun t131 => ((pilcrowref01_Is.f a0).bind fun t132 => (if (t131 == t132) = true then ((scalar_Class.f k a0).bind fun t133 => ((pilcrowref01_Class.f k a0).bind fun t134 => (if t133 = t134 then ((scalar_Class.f k a0).bind fun t135 => ((scalar_Is.f a0).bind fun t136 => (some ((t135 == 0) == (!t136))))) else (some false)))) else (some false)))) else (some false)) = some r := H
  have A2 := Aside0.mk A20
  clear A20
  by_cases c3 : t130 = true
  · subst c3
    have H1 : ((scalar_Is.f a0).bind fun t131 => ((pilcrowref01_Is.f a0).bind fun t132 => (if (t131 == t132) = true then ((scalar_Class.f k a0).bind fun t133 => ((pilcrowref01_Class.f k a0).bind fun t134 => (if t133 = t134 then ((scalar_Class.f k a0).bind fun t135 => ((scalar_Is.f a0).bind fun t136 => (some ((t135 == 0) == (!t136))))) else (some false)))) else (some false)))) = some r := by rw [if_pos rfl] at H; exact H
    clear H
    have H := H1
    clear H1
    replace H := Option.bind_eq_some_iff.mp H
    obtain ⟨t131, A40, H⟩ := H
    replace H : ((pilcrowref01_Is.f a0).bind fun t132 => (if (t131 == t132) = true then ((scalar_Class.f k a0).bind fun t133 => ((pilcrowref01_Class.f k a0).bind fun t134 => (if t133 = t134 then ((scalar_Class.f k a0).bind fun t135 => ((scalar_Is.f a0).bind fun t136 => (some ((t135 == 0) == (!t136))))) else (some false)))) else (some false))) = some r := H
    have A4 := Aside0.mk A40
    clear A40
    replace H := Option.bind_eq_some_iff.mp H
    obtain ⟨t132, A50, H⟩ := H
    replace H : (if (t131 == t132) = true then ((scalar_Class.f k a0).bind fun t133 => ((pilcrowref01_Class.f k a0).bind fun t134 => (if t133 = t134 then ((scalar_Class.f k a0).bind fun t135 => ((scalar_Is.f a0).bind fun t136 => (some ((t135 == 0) == (!t136))))) else (some false)))) else (some false)) = some r := H
    have A5 := Aside0.mk A50
    clear A50
    by_cases c6 : (t131 == t132) = true
    · rw [if_pos c6] at H
      have c6b0 : (t131 == t132) = true := c6
      (try (have c6b1 : decide (t131 = t132) = true := by simpa using c6))
      (try (have c6b2 : (t131 == t132) = true := by simpa using c6))
      clear c6
      replace H := Option.bind_eq_some_iff.mp H
      obtain ⟨t133, A70, H⟩ := H
      replace H : ((pilcrowref01_Class.f k a0).bind fun t134 => (if t133 = t134 then ((scalar_Class.f k a0).bind fun t135 => ((scalar_Is.f a0).bind fun t136 => (some ((t135 == 0) == (!t136))))) else (some false))) = some r := H
      have A7 := Aside0.mk A70
      clear A70
      replace H := Option.bind_eq_some_iff.mp H
      obtain ⟨t134, A80, H⟩ := H
      replace H : (if t133 = t134 then ((scalar_Class.f k a0).bind fun t135 => ((scalar_Is.f a0).bind fun t136 => (some ((t135 == 0) == (!t136))))) else (some false)) = some r := H
      have A8 := Aside0.mk A80
      clear A80
      by_cases c9 : t133 = t134
      · rw [if_pos c9] at H
        have c9b0 : (t133 == t134) = true := beq_iff_eq.mpr c9
        have c9b1 : (t133 != t134) = false := bne_eq_false_iff_eq.mpr c9
        clear c9
        replace H := Option.bind_eq_some_iff.mp H
        obtain ⟨t135, A100, H⟩ := H
        replace H : ((scalar_Is.f a0).bind fun t136 => (some ((t135 == 0) == (!t136)))) = some r := H
        have A10 := Aside0.mk A100
        clear A100
        replace H := Option.bind_eq_some_iff.mp H
        obtain ⟨t136, A110, H⟩ := H
        replace H : (some ((t135 == 0) == (!t136))) = some r := H
        have A11 := Aside0.mk A110
        clear A110
        obtain rfl := Option.some.inj H
        obtain rfl : t133 = t135 := Option.some.inj (A7.out.symm.trans A10.out)
        obtain rfl : t131 = t136 := Option.some.inj (A4.out.symm.trans A11.out)
        go_enter Try.func3, Try.ntmps3
        go_wp2_with (first | ((with_reducible refine gate_callee (f := 8) rfl ?_); refine goesL_ (some 3) rfl rfl Try.func8 (by kernel_rfl) rfl #[] rfl (by (try simp only [List.map_toArray, List.map_cons, List.map_nil]); first | done | rfl | (simp only [List.length_drop, List.length_take]; rfl)) ?_; (with_reducible refine (pilcrowlaw01_awake.calls k  true _ A2.out).mono ?_); rintro e w12 ⟨rfl, hb⟩; refine ⟨_, rfl, ?_⟩; have n0_ := Aside0.mk (below_step (by repeat (first | (with_reducible first | exact HB.out | apply below_alloc | apply pw_below_drewN | apply below_drew1) | exact HB.out)) hb); clear HB; have HB := n0_; clear n0_; (try clear hb); (try clear hb2); (try clear hk); (try clear hi)) | (go_at_call 9; (with_reducible refine (scalar_Is.calls a0 t131 _ A4.out).mono ?_); rintro e w' ⟨rfl, ⟨nd, rfl⟩⟩) | (go_at_call 10; (with_reducible refine (pilcrowref01_Is.calls a0 t132 _ A5.out).mono ?_); rintro e w' ⟨rfl, ⟨nd, rfl⟩⟩) | (go_at_call 11; (with_reducible refine (scalar_Class.calls k a0 t133 _ A7.out).mono ?_); rintro e w' ⟨rfl, ⟨nd, rfl⟩⟩) | (go_at_call 12; (with_reducible refine (pilcrowref01_Class.calls k a0 t134 _ A8.out).mono ?_); rintro e w' ⟨rfl, ⟨nd, rfl⟩⟩) | (go_at_call 11; (with_reducible refine (scalar_Class.calls k a0 t135 _ A10.out).mono ?_); rintro e w' ⟨rfl, ⟨nd, rfl⟩⟩) | (go_at_call 9; (with_reducible refine (scalar_Is.calls a0 t136 _ A11.out).mono ?_); rintro e w' ⟨rfl, ⟨nd, rfl⟩⟩))
        go_ret
        exact ⟨by first | rfl | (simp [errW_none, errW_some] <;> rfl) | (simp [*, errW_none, errW_some] <;> rfl), by repeat (first | (with_reducible first | exact HB.out | apply below_alloc | apply pw_below_drewN | apply below_drew1) | exact HB.out)⟩
      · rw [if_neg c9] at H
        have c9b0 : (t133 == t134) = false := beq_eq_false_iff_ne.mpr c9
        have c9b1 : (t133 != t134) = true := bne_iff_ne.mpr c9
        obtain rfl := Option.some.inj H
        go_enter Try.func3, Try.ntmps3
        go_wp2_with (first | ((with_reducible refine gate_callee (f := 8) rfl ?_); refine goesL_ (some 3) rfl rfl Try.func8 (by kernel_rfl) rfl #[] rfl (by (try simp only [List.map_toArray, List.map_cons, List.map_nil]); first | done | rfl | (simp only [List.length_drop, List.length_take]; rfl)) ?_; (with_reducible refine (pilcrowlaw01_awake.calls k  true _ A2.out).mono ?_); rintro e w13 ⟨rfl, hb⟩; refine ⟨_, rfl, ?_⟩; have n0_ := Aside0.mk (below_step (by repeat (first | (with_reducible first | exact HB.out | apply below_alloc | apply pw_below_drewN | apply below_drew1) | exact HB.out)) hb); clear HB; have HB := n0_; clear n0_; (try clear hb); (try clear hb2); (try clear hk); (try clear hi)) | (go_at_call 9; (with_reducible refine (scalar_Is.calls a0 t131 _ A4.out).mono ?_); rintro e w' ⟨rfl, ⟨nd, rfl⟩⟩) | (go_at_call 10; (with_reducible refine (pilcrowref01_Is.calls a0 t132 _ A5.out).mono ?_); rintro e w' ⟨rfl, ⟨nd, rfl⟩⟩) | (go_at_call 11; (with_reducible refine (scalar_Class.calls k a0 t133 _ A7.out).mono ?_); rintro e w' ⟨rfl, ⟨nd, rfl⟩⟩) | (go_at_call 12; (with_reducible refine (pilcrowref01_Class.calls k a0 t134 _ A8.out).mono ?_); rintro e w' ⟨rfl, ⟨nd, rfl⟩⟩))
        go_ret
        exact ⟨by first | rfl | (simp [errW_none, errW_some] <;> rfl) | (simp [*, errW_none, errW_some] <;> rfl), by repeat (first | (with_reducible first | exact HB.out | apply below_alloc | apply pw_below_drewN | apply below_drew1) | exact HB.out)⟩
    · rw [if_neg c6] at H
      have c6b0 : (t131 == t132) = false := by simpa using c6
      (try (have c6b1 : decide (t131 = t132) = false := by simpa using c6))
      (try (have c6b2 : (t131 == t132) = false := by simpa using c6))
      (try (have c6b3 : ¬ (t131 = t132) := by simpa using c6))
      clear c6
      obtain rfl := Option.some.inj H
      go_enter Try.func3, Try.ntmps3
      go_wp2_with (first | ((with_reducible refine gate_callee (f := 8) rfl ?_); refine goesL_ (some 3) rfl rfl Try.func8 (by kernel_rfl) rfl #[] rfl (by (try simp only [List.map_toArray, List.map_cons, List.map_nil]); first | done | rfl | (simp only [List.length_drop, List.length_take]; rfl)) ?_; (with_reducible refine (pilcrowlaw01_awake.calls k  true _ A2.out).mono ?_); rintro e w14 ⟨rfl, hb⟩; refine ⟨_, rfl, ?_⟩; have n0_ := Aside0.mk (below_step (by repeat (first | (with_reducible first | exact HB.out | apply below_alloc | apply pw_below_drewN | apply below_drew1) | exact HB.out)) hb); clear HB; have HB := n0_; clear n0_; (try clear hb); (try clear hb2); (try clear hk); (try clear hi)) | (go_at_call 9; (with_reducible refine (scalar_Is.calls a0 t131 _ A4.out).mono ?_); rintro e w' ⟨rfl, ⟨nd, rfl⟩⟩) | (go_at_call 10; (with_reducible refine (pilcrowref01_Is.calls a0 t132 _ A5.out).mono ?_); rintro e w' ⟨rfl, ⟨nd, rfl⟩⟩))
      go_ret
      exact ⟨by first | rfl | (simp [errW_none, errW_some] <;> rfl) | (simp [*, errW_none, errW_some] <;> rfl), by repeat (first | (with_reducible first | exact HB.out | apply below_alloc | apply pw_below_drewN | apply below_drew1) | exact HB.out)⟩
  · replace c3 := Bool.eq_false_iff.mpr c3
    subst c3
    have H1 : (some false) = some r := by rw [if_neg (show ¬ (false = true) by decide)] at H; exact H
    clear H
    have H := H1
    clear H1
    obtain rfl := Option.some.inj H
    go_enter Try.func3, Try.ntmps3
    go_wp2_with (first | ((with_reducible refine gate_callee (f := 8) rfl ?_); refine goesL_ (some 3) rfl rfl Try.func8 (by kernel_rfl) rfl #[] rfl (by (try simp only [List.map_toArray, List.map_cons, List.map_nil]); first | done | rfl | (simp only [List.length_drop, List.length_take]; rfl)) ?_; (with_reducible refine (pilcrowlaw01_awake.calls k  false _ A2.out).mono ?_); rintro e w15 ⟨rfl, hb⟩; refine ⟨_, rfl, ?_⟩; have n0_ := Aside0.mk (below_step (by repeat (first | (with_reducible first | exact HB.out | apply below_alloc | apply pw_below_drewN | apply below_drew1) | exact HB.out)) hb); clear HB; have HB := n0_; clear n0_; (try clear hb); (try clear hb2); (try clear hk); (try clear hi)))
    go_ret
    exact ⟨by first | rfl | (simp [errW_none, errW_some] <;> rfl) | (simp [*, errW_none, errW_some] <;> rfl), by repeat (first | (with_reducible first | exact HB.out | apply below_alloc | apply pw_below_drewN | apply below_drew1) | exact HB.out)⟩

/-- THE ONE PURE STATEMENT of pilcrowlaw01_ScalarTells: yours. -/
def pilcrowlaw01_ScalarTells.Pure : Prop := ∀ (a0 : Int), (Lit.int .u32 a0).wf = true → ∃ k, pilcrowlaw01_ScalarTells.f k a0 = some true
theorem pilcrowlaw01_ScalarTells.walk (P : pilcrowlaw01_ScalarTells.Pure) (a0 : Int) (w : World) (w0 : (Lit.int .u32 a0).wf = true) :
    Calls Try.prog 3 #[.int .u32 a0] w fun e w' => e = .returned (.bool true) ∧ Below w.heap.size w w' := by
  obtain ⟨k, h⟩ := P a0 w0
  refine (pilcrowlaw01_ScalarTells.calls k a0 true w h).mono ?_
  rintro e w' ⟨rfl, hd⟩
  exact ⟨rfl, hd⟩

end Go.Proofs.Ytdjpaahjmkbcjaa.PScalarTells
