/- Written by a program of this session: functions, and their walks. -/
import Derived.Test.YtakjkgjbjannbaaQSignSniffsx0
import Derived.Test.YtakjkgjbjannbaaQSignSniffsx1
import Derived.Test.YtakjkgjbjannbaaQSignSniffsx2
import Derived.Test.YtakjkgjbjannbaaQSignSniffsx3
import Derived.Test.YtakjkgjbjannbaaQSignSniffsx4
import Derived.Test.YtakjkgjbjannbaaQSignSniffsx5
namespace Go.Proofs.Ytakjkgjbjannbaa.QSignSniffs
open Go.RowKit Go.Proofs.YtakjkgjbjannbaaW.PrintWords Go.Proofs.YtakjkgjbjannbaaW.PrintLast Go.Proofs.YtakjkgjbjannbaaW.PrintMore Go.Proofs.Ytakjkgjbjannbaa.Hand
attribute [local go_sem] max2_int min2_int max_two min_two max_three min_three max_four min_four   -- for this text's walks alone
set_option linter.unusedVariables false
set_option linter.unusedSimpArgs false

/-! ### pilcrowref17_Of: function 10 -/
def pilcrowref17_Of.f (k : Nat) (a0 : Int) : Option (ByteArray) := (some (([65279] : List Int) : List Int)).bind fun y304 => (if a0 = 1 then ((pilcrowref03_Bytes.f k y304).bind fun t307 => (some t307)) else (if a0 = 2 then ((pilcrowref04_Bytes.f k y304 true).bind fun t308 => (some t308)) else (if a0 = 3 then ((pilcrowref04_Bytes.f k y304 false).bind fun t309 => (some t309)) else (if a0 = 4 then ((pilcrowref05_Bytes.f k y304 true).bind fun t310 => (some t310)) else (if a0 = 5 then ((pilcrowref05_Bytes.f k y304 false).bind fun t311 => (some t311)) else (if a0 = 6 then ((pilcrowref08_Bytes.f k y304).bind fun t312 => (some t312)) else (if a0 = 8 then ((pilcrowref12_Bytes.f k y304).bind fun t313 => (some t313)) else (if a0 = 9 then ((pilcrowref15_Bytes.f y304 false).bind fun t314 => (some t314)) else (some (⟨#[]⟩ : ByteArray))))))))))
theorem pilcrowref17_Of.mono : ∀ a0 k, LeO (pilcrowref17_Of.f k a0) (pilcrowref17_Of.f (k + 1) a0) := by
  intro a0 k
  unfold pilcrowref17_Of.f
  repeat' first
      | (with_reducible exact pilcrowref03_Bytes.mono _ _)
      | (with_reducible exact pilcrowref04_Bytes.mono _ _ _)
      | (with_reducible exact pilcrowref05_Bytes.mono _ _ _)
      | (with_reducible exact pilcrowref08_Bytes.mono _ _)
      | (with_reducible exact pilcrowref12_Bytes.mono _ _)
      | (with_reducible exact LeO.refl _)
      | (with_reducible exact LeO.none _)
      | (with_reducible refine LeO.ite ?_ ?_)
      | (with_reducible refine LeO.bind ?_ (fun _ => ?_))
      | exact pilcrowref03_Bytes.mono _ _
      | exact pilcrowref04_Bytes.mono _ _ _
      | exact pilcrowref05_Bytes.mono _ _ _
      | exact pilcrowref08_Bytes.mono _ _
      | exact pilcrowref12_Bytes.mono _ _
      | exact LeO.none _
      | refine LeO.ite ?_ ?_
      | refine LeO.bind ?_ (fun _ => ?_)
set_option maxHeartbeats 8000000 in
set_option maxRecDepth 100000 in
theorem pilcrowref17_Of.calls (k : Nat) (a0 : Int) (r : ByteArray) (w : World) (h : pilcrowref17_Of.f k a0 = some r) :
    Calls Try.prog 10 #[.int .i64 a0] w fun e w' => e = .returned (.string r) ∧ Below w.heap.size w w' := by
  have HB := Aside0.mk (Below.refl w.heap.size w)
  have H : ((some (([65279] : List Int) : List Int)).bind fun y304 => (if a0 = 1 then ((pilcrowref03_Bytes.f k y304).bind fun t307 => (some t307)) else (if a0 = 2 then ((pilcrowref04_Bytes.f k y304 true).bind fun t308 => (some t308)) else (if a0 = 3 then ((pilcrowref04_Bytes.f k y304 false).bind fun t309 => (some t309)) else (if a0 = 4 then ((pilcrowref05_Bytes.f k y304 true).bind fun t310 => (some t310)) else (if a0 = 5 then ((pilcrowref05_Bytes.f k y304 false).bind fun t311 => (some t311)) else (if a0 = 6 then ((pilcrowref08_Bytes.f k y304).bind fun t312 => (some t312)) else (if a0 = 8 then ((pilcrowref12_Bytes.f k y304).bind fun t313 => (some t313)) else (if a0 = 9 then ((pilcrowref15_Bytes.f y304 false).bind fun t314 => (some t314)) else (some (⟨#[]⟩ : ByteArray))))))))))) = some r := h
  clear h
  obtain ⟨y304, hy304⟩ : ∃ y_ : List Int, y_ = (([65279] : List Int)) := ⟨_, rfl⟩
  replace H : (if a0 = 1 then ((pilcrowref03_Bytes.f k y304).bind fun t307 => (some t307)) else (if a0 = 2 then ((pilcrowref04_Bytes.f k y304 true).bind fun t308 => (some t308)) else (if a0 = 3 then ((pilcrowref04_Bytes.f k y304 false).bind fun t309 => (some t309)) else (if a0 = 4 then ((pilcrowref05_Bytes.f k y304 true).bind fun t310 => (some t310)) else (if a0 = 5 then ((pilcrowref05_Bytes.f k y304 false).bind fun t311 => (some t311)) else (if a0 = 6 then ((pilcrowref08_Bytes.f k y304).bind fun t312 => (some t312)) else (if a0 = 8 then ((pilcrowref12_Bytes.f k y304).bind fun t313 => (some t313)) else (if a0 = 9 then ((pilcrowref15_Bytes.f y304 false).bind fun t314 => (some t314)) else (some (⟨#[]⟩ : ByteArray)))))))))) = some r := by first | (rw [hy304]; with_reducible exact H) | (have H2_ := (Option.bind_some _ _).symm.trans H; rw [hy304]; with_reducible exact H2_) | (have H2_ := (Option.bind_some _ _).symm.trans H; with_reducible exact H2_) | with_reducible exact H | (rw [hy304]; exact H) | exact H
  have Ny304 := Aside0.mk hy304
  clear hy304
  by_cases c2 : a0 = 1
  · rw [if_pos c2] at H
    have c2b0 : (a0 == 1) = true := beq_iff_eq.mpr c2
    have c2b1 : (a0 != 1) = false := bne_eq_false_iff_eq.mpr c2
    clear c2
    replace H := Option.bind_eq_some_iff.mp H
    obtain ⟨t307, A30, H⟩ := H
    replace H : (some t307) = some r := H
    have A3 := Aside0.mk A30
    clear A30
    obtain rfl := Option.some.inj H
    go_enter Try.func10, Try.ntmps10
    go_wp2_with (first | ((with_reducible refine gate_dst (N := 4) rfl ?_); refine Kd.R_lit (Kd.int .u32) _ 35 ?hg (N := 4) ?hd (xs := ([65279] : List Int)) (inner := [.int .u32 65279]) (ok := fun _ => True) (okp := fun _ => True) ?hr ?hp (fun _ hk => hk) trivial (Below.refl _ _) (Nat.le_refl _) (by simp) ?_; (case hd => rfl); (case hg => rfl); (case hr => first | (go_simp; done) | (go_simp; with_reducible rfl) | (go_simp; simp only [IntKind.wrap_u8, IntKind.wrap_u32, Int.emod_emod_of_dvd _ (show (256 : Int) ∣ 4294967296 by decide)]; done) | (go_simp; repeat (first | (with_reducible rfl) | omega | congr 1))); (case hp => exact (Reps.one (show Kd.M (Kd.int .u32) _ _ _ 65279 [.int .u32 65279] from rfl) (Reps.none _ _))); intro v305 w4 ho5 hb hg_ hnew_; clear hg_ hnew_; (first | rw [← Ny304.out] at ho5 | (simp only [Int.reduceToNat] at ho5; rw [← Ny304.out] at ho5)); have n0_ := Aside0.mk (Kd.R_lower ho5 (below_size (by repeat (first | (with_reducible first | exact HB.out | apply below_alloc | apply pw_below_drewN | apply below_drew1) | exact HB.out)))); have n1_ := Aside0.mk (below_step (by repeat (first | (with_reducible first | exact HB.out | apply below_alloc | apply pw_below_drewN | apply below_drew1) | exact HB.out)) hb); clear HB; have HO306 := n0_; have HB := n1_; clear n0_ n1_; clear hb ho5; obtain ⟨Ao6, co6, eo6⟩ := Kd.R_slice HO306.out; subst eo6) | ((with_reducible refine gate_callee (f := 15) rfl ?_); refine goesL_ (some 9) rfl rfl Try.func15 (by kernel_rfl) rfl #[.slice Ao6 y304.length co6] rfl (by (try simp only [List.map_toArray, List.map_cons, List.map_nil]); first | done | rfl | (simp only [List.length_drop, List.length_take]; rfl)) ?_; (with_reducible refine (pilcrowref03_Bytes.calls k _ _ y304 t307 _ ?side1 ?side2 A3.out).mono ?_); (case side1 => repeat (first | exact (Kd.R_reads' HO306.out).2.2 | (with_reducible refine Kd.C_alloc ?_ _) | (with_reducible refine Kd.C_drewN ?_ _) | (with_reducible refine Kd.C_drew ?_))); (case side2 => exact (Kd.R_reads' HO306.out).2.1); rintro e w7 ⟨rfl, hb⟩; refine ⟨_, rfl, ?_⟩; have n0_ := Aside0.mk (Kd.R_below (by (with_reducible repeat (first | apply Kd.R_alloc | apply Kd.R_drewN | apply Kd.R_drew)); exact HO306.out) hb); have n1_ := Aside0.mk (below_step (by repeat (first | (with_reducible first | exact HB.out | apply below_alloc | apply pw_below_drewN | apply below_drew1) | exact HB.out)) hb); clear HO306; clear HB; have HO306 := n0_; have HB := n1_; clear n0_ n1_; (try clear hb); (try clear hb2); (try clear hk); (try clear hi)))
    go_ret
    exact ⟨by first | rfl | (simp [errW_none, errW_some] <;> rfl) | (simp [*, errW_none, errW_some] <;> rfl), by repeat (first | (with_reducible first | exact HB.out | apply below_alloc | apply pw_below_drewN | apply below_drew1) | exact HB.out)⟩
  · rw [if_neg c2] at H
    have c2b0 : (a0 == 1) = false := beq_eq_false_iff_ne.mpr c2
    have c2b1 : (a0 != 1) = true := bne_iff_ne.mpr c2
    by_cases c8 : a0 = 2
    · rw [if_pos c8] at H
      have c8b0 : (a0 == 2) = true := beq_iff_eq.mpr c8
      have c8b1 : (a0 != 2) = false := bne_eq_false_iff_eq.mpr c8
      clear c8
      replace H := Option.bind_eq_some_iff.mp H
      obtain ⟨t308, A90, H⟩ := H
      replace H : (some t308) = some r := H
      have A9 := Aside0.mk A90
      clear A90
      obtain rfl := Option.some.inj H
      go_enter Try.func10, Try.ntmps10
      go_wp2_with (first | ((with_reducible refine gate_dst (N := 4) rfl ?_); refine Kd.R_lit (Kd.int .u32) _ 35 ?hg (N := 4) ?hd (xs := ([65279] : List Int)) (inner := [.int .u32 65279]) (ok := fun _ => True) (okp := fun _ => True) ?hr ?hp (fun _ hk => hk) trivial (Below.refl _ _) (Nat.le_refl _) (by simp) ?_; (case hd => rfl); (case hg => rfl); (case hr => first | (go_simp; done) | (go_simp; with_reducible rfl) | (go_simp; simp only [IntKind.wrap_u8, IntKind.wrap_u32, Int.emod_emod_of_dvd _ (show (256 : Int) ∣ 4294967296 by decide)]; done) | (go_simp; repeat (first | (with_reducible rfl) | omega | congr 1))); (case hp => exact (Reps.one (show Kd.M (Kd.int .u32) _ _ _ 65279 [.int .u32 65279] from rfl) (Reps.none _ _))); intro v305 w10 ho11 hb hg_ hnew_; clear hg_ hnew_; (first | rw [← Ny304.out] at ho11 | (simp only [Int.reduceToNat] at ho11; rw [← Ny304.out] at ho11)); have n0_ := Aside0.mk (Kd.R_lower ho11 (below_size (by repeat (first | (with_reducible first | exact HB.out | apply below_alloc | apply pw_below_drewN | apply below_drew1) | exact HB.out)))); have n1_ := Aside0.mk (below_step (by repeat (first | (with_reducible first | exact HB.out | apply below_alloc | apply pw_below_drewN | apply below_drew1) | exact HB.out)) hb); clear HB; have HO306 := n0_; have HB := n1_; clear n0_ n1_; clear hb ho11; obtain ⟨Ao12, co12, eo12⟩ := Kd.R_slice HO306.out; subst eo12) | ((with_reducible refine gate_callee (f := 16) rfl ?_); refine goesL_ (some 13) rfl rfl Try.func16 (by kernel_rfl) rfl #[.slice Ao12 y304.length co12, .bool true] rfl (by (try simp only [List.map_toArray, List.map_cons, List.map_nil]); first | done | rfl | (simp only [List.length_drop, List.length_take]; rfl)) ?_; (with_reducible refine (pilcrowref04_Bytes.calls k _ _ y304 true t308 _ ?side1 ?side2 A9.out).mono ?_); (case side1 => repeat (first | exact (Kd.R_reads' HO306.out).2.2 | (with_reducible refine Kd.C_alloc ?_ _) | (with_reducible refine Kd.C_drewN ?_ _) | (with_reducible refine Kd.C_drew ?_))); (case side2 => exact (Kd.R_reads' HO306.out).2.1); rintro e w13 ⟨rfl, hb⟩; refine ⟨_, rfl, ?_⟩; have n0_ := Aside0.mk (Kd.R_below (by (with_reducible repeat (first | apply Kd.R_alloc | apply Kd.R_drewN | apply Kd.R_drew)); exact HO306.out) hb); have n1_ := Aside0.mk (below_step (by repeat (first | (with_reducible first | exact HB.out | apply below_alloc | apply pw_below_drewN | apply below_drew1) | exact HB.out)) hb); clear HO306; clear HB; have HO306 := n0_; have HB := n1_; clear n0_ n1_; (try clear hb); (try clear hb2); (try clear hk); (try clear hi)))
      go_ret
      exact ⟨by first | rfl | (simp [errW_none, errW_some] <;> rfl) | (simp [*, errW_none, errW_some] <;> rfl), by repeat (first | (with_reducible first | exact HB.out | apply below_alloc | apply pw_below_drewN | apply below_drew1) | exact HB.out)⟩
    · rw [if_neg c8] at H
      have c8b0 : (a0 == 2) = false := beq_eq_false_iff_ne.mpr c8
      have c8b1 : (a0 != 2) = true := bne_iff_ne.mpr c8
      by_cases c14 : a0 = 3
      · rw [if_pos c14] at H
        have c14b0 : (a0 == 3) = true := beq_iff_eq.mpr c14
        have c14b1 : (a0 != 3) = false := bne_eq_false_iff_eq.mpr c14
        clear c14
        replace H := Option.bind_eq_some_iff.mp H
        obtain ⟨t309, A150, H⟩ := H
        replace H : (some t309) = some r := H
        have A15 := Aside0.mk A150
        clear A150
        obtain rfl := Option.some.inj H
        go_enter Try.func10, Try.ntmps10
        go_wp2_with (first | ((with_reducible refine gate_dst (N := 4) rfl ?_); refine Kd.R_lit (Kd.int .u32) _ 35 ?hg (N := 4) ?hd (xs := ([65279] : List Int)) (inner := [.int .u32 65279]) (ok := fun _ => True) (okp := fun _ => True) ?hr ?hp (fun _ hk => hk) trivial (Below.refl _ _) (Nat.le_refl _) (by simp) ?_; (case hd => rfl); (case hg => rfl); (case hr => first | (go_simp; done) | (go_simp; with_reducible rfl) | (go_simp; simp only [IntKind.wrap_u8, IntKind.wrap_u32, Int.emod_emod_of_dvd _ (show (256 : Int) ∣ 4294967296 by decide)]; done) | (go_simp; repeat (first | (with_reducible rfl) | omega | congr 1))); (case hp => exact (Reps.one (show Kd.M (Kd.int .u32) _ _ _ 65279 [.int .u32 65279] from rfl) (Reps.none _ _))); intro v305 w16 ho17 hb hg_ hnew_; clear hg_ hnew_; (first | rw [← Ny304.out] at ho17 | (simp only [Int.reduceToNat] at ho17; rw [← Ny304.out] at ho17)); have n0_ := Aside0.mk (Kd.R_lower ho17 (below_size (by repeat (first | (with_reducible first | exact HB.out | apply below_alloc | apply pw_below_drewN | apply below_drew1) | exact HB.out)))); have n1_ := Aside0.mk (below_step (by repeat (first | (with_reducible first | exact HB.out | apply below_alloc | apply pw_below_drewN | apply below_drew1) | exact HB.out)) hb); clear HB; have HO306 := n0_; have HB := n1_; clear n0_ n1_; clear hb ho17; obtain ⟨Ao18, co18, eo18⟩ := Kd.R_slice HO306.out; subst eo18) | ((with_reducible refine gate_callee (f := 16) rfl ?_); refine goesL_ (some 17) rfl rfl Try.func16 (by kernel_rfl) rfl #[.slice Ao18 y304.length co18, .bool false] rfl (by (try simp only [List.map_toArray, List.map_cons, List.map_nil]); first | done | rfl | (simp only [List.length_drop, List.length_take]; rfl)) ?_; (with_reducible refine (pilcrowref04_Bytes.calls k _ _ y304 false t309 _ ?side1 ?side2 A15.out).mono ?_); (case side1 => repeat (first | exact (Kd.R_reads' HO306.out).2.2 | (with_reducible refine Kd.C_alloc ?_ _) | (with_reducible refine Kd.C_drewN ?_ _) | (with_reducible refine Kd.C_drew ?_))); (case side2 => exact (Kd.R_reads' HO306.out).2.1); rintro e w19 ⟨rfl, hb⟩; refine ⟨_, rfl, ?_⟩; have n0_ := Aside0.mk (Kd.R_below (by (with_reducible repeat (first | apply Kd.R_alloc | apply Kd.R_drewN | apply Kd.R_drew)); exact HO306.out) hb); have n1_ := Aside0.mk (below_step (by repeat (first | (with_reducible first | exact HB.out | apply below_alloc | apply pw_below_drewN | apply below_drew1) | exact HB.out)) hb); clear HO306; clear HB; have HO306 := n0_; have HB := n1_; clear n0_ n1_; (try clear hb); (try clear hb2); (try clear hk); (try clear hi)))
        go_ret
        exact ⟨by first | rfl | (simp [errW_none, errW_some] <;> rfl) | (simp [*, errW_none, errW_some] <;> rfl), by repeat (first | (with_reducible first | exact HB.out | apply below_alloc | apply pw_below_drewN | apply below_drew1) | exact HB.out)⟩
      · rw [if_neg c14] at H
        have c14b0 : (a0 == 3) = false := beq_eq_false_iff_ne.mpr c14
        have c14b1 : (a0 != 3) = true := bne_iff_ne.mpr c14
        by_cases c20 : a0 = 4
        · rw [if_pos c20] at H
          have c20b0 : (a0 == 4) = true := beq_iff_eq.mpr c20
          have c20b1 : (a0 != 4) = false := bne_eq_false_iff_eq.mpr c20
          clear c20
          replace H := Option.bind_eq_some_iff.mp H
          obtain ⟨t310, A210, H⟩ := H
          replace H : (some t310) = some r := H
          have A21 := Aside0.mk A210
          clear A210
          obtain rfl := Option.some.inj H
          go_enter Try.func10, Try.ntmps10
          go_wp2_with (first | ((with_reducible refine gate_dst (N := 4) rfl ?_); refine Kd.R_lit (Kd.int .u32) _ 35 ?hg (N := 4) ?hd (xs := ([65279] : List Int)) (inner := [.int .u32 65279]) (ok := fun _ => True) (okp := fun _ => True) ?hr ?hp (fun _ hk => hk) trivial (Below.refl _ _) (Nat.le_refl _) (by simp) ?_; (case hd => rfl); (case hg => rfl); (case hr => first | (go_simp; done) | (go_simp; with_reducible rfl) | (go_simp; simp only [IntKind.wrap_u8, IntKind.wrap_u32, Int.emod_emod_of_dvd _ (show (256 : Int) ∣ 4294967296 by decide)]; done) | (go_simp; repeat (first | (with_reducible rfl) | omega | congr 1))); (case hp => exact (Reps.one (show Kd.M (Kd.int .u32) _ _ _ 65279 [.int .u32 65279] from rfl) (Reps.none _ _))); intro v305 w22 ho23 hb hg_ hnew_; clear hg_ hnew_; (first | rw [← Ny304.out] at ho23 | (simp only [Int.reduceToNat] at ho23; rw [← Ny304.out] at ho23)); have n0_ := Aside0.mk (Kd.R_lower ho23 (below_size (by repeat (first | (with_reducible first | exact HB.out | apply below_alloc | apply pw_below_drewN | apply below_drew1) | exact HB.out)))); have n1_ := Aside0.mk (below_step (by repeat (first | (with_reducible first | exact HB.out | apply below_alloc | apply pw_below_drewN | apply below_drew1) | exact HB.out)) hb); clear HB; have HO306 := n0_; have HB := n1_; clear n0_ n1_; clear hb ho23; obtain ⟨Ao24, co24, eo24⟩ := Kd.R_slice HO306.out; subst eo24) | ((with_reducible refine gate_callee (f := 17) rfl ?_); refine goesL_ (some 21) rfl rfl Try.func17 (by kernel_rfl) rfl #[.slice Ao24 y304.length co24, .bool true] rfl (by (try simp only [List.map_toArray, List.map_cons, List.map_nil]); first | done | rfl | (simp only [List.length_drop, List.length_take]; rfl)) ?_; (with_reducible refine (pilcrowref05_Bytes.calls k _ _ y304 true t310 _ ?side1 ?side2 A21.out).mono ?_); (case side1 => repeat (first | exact (Kd.R_reads' HO306.out).2.2 | (with_reducible refine Kd.C_alloc ?_ _) | (with_reducible refine Kd.C_drewN ?_ _) | (with_reducible refine Kd.C_drew ?_))); (case side2 => exact (Kd.R_reads' HO306.out).2.1); rintro e w25 ⟨rfl, hb⟩; refine ⟨_, rfl, ?_⟩; have n0_ := Aside0.mk (Kd.R_below (by (with_reducible repeat (first | apply Kd.R_alloc | apply Kd.R_drewN | apply Kd.R_drew)); exact HO306.out) hb); have n1_ := Aside0.mk (below_step (by repeat (first | (with_reducible first | exact HB.out | apply below_alloc | apply pw_below_drewN | apply below_drew1) | exact HB.out)) hb); clear HO306; clear HB; have HO306 := n0_; have HB := n1_; clear n0_ n1_; (try clear hb); (try clear hb2); (try clear hk); (try clear hi)))
          go_ret
          exact ⟨by first | rfl | (simp [errW_none, errW_some] <;> rfl) | (simp [*, errW_none, errW_some] <;> rfl), by repeat (first | (with_reducible first | exact HB.out | apply below_alloc | apply pw_below_drewN | apply below_drew1) | exact HB.out)⟩
        · rw [if_neg c20] at H
          have c20b0 : (a0 == 4) = false := beq_eq_false_iff_ne.mpr c20
          have c20b1 : (a0 != 4) = true := bne_iff_ne.mpr c20
          by_cases c26 : a0 = 5
          · rw [if_pos c26] at H
            have c26b0 : (a0 == 5) = true := beq_iff_eq.mpr c26
            have c26b1 : (a0 != 5) = false := bne_eq_false_iff_eq.mpr c26
            clear c26
            replace H := Option.bind_eq_some_iff.mp H
            obtain ⟨t311, A270, H⟩ := H
            replace H : (some t311) = some r := H
            have A27 := Aside0.mk A270
            clear A270
            obtain rfl := Option.some.inj H
            go_enter Try.func10, Try.ntmps10
            go_wp2_with (first | ((with_reducible refine gate_dst (N := 4) rfl ?_); refine Kd.R_lit (Kd.int .u32) _ 35 ?hg (N := 4) ?hd (xs := ([65279] : List Int)) (inner := [.int .u32 65279]) (ok := fun _ => True) (okp := fun _ => True) ?hr ?hp (fun _ hk => hk) trivial (Below.refl _ _) (Nat.le_refl _) (by simp) ?_; (case hd => rfl); (case hg => rfl); (case hr => first | (go_simp; done) | (go_simp; with_reducible rfl) | (go_simp; simp only [IntKind.wrap_u8, IntKind.wrap_u32, Int.emod_emod_of_dvd _ (show (256 : Int) ∣ 4294967296 by decide)]; done) | (go_simp; repeat (first | (with_reducible rfl) | omega | congr 1))); (case hp => exact (Reps.one (show Kd.M (Kd.int .u32) _ _ _ 65279 [.int .u32 65279] from rfl) (Reps.none _ _))); intro v305 w28 ho29 hb hg_ hnew_; clear hg_ hnew_; (first | rw [← Ny304.out] at ho29 | (simp only [Int.reduceToNat] at ho29; rw [← Ny304.out] at ho29)); have n0_ := Aside0.mk (Kd.R_lower ho29 (below_size (by repeat (first | (with_reducible first | exact HB.out | apply below_alloc | apply pw_below_drewN | apply below_drew1) | exact HB.out)))); have n1_ := Aside0.mk (below_step (by repeat (first | (with_reducible first | exact HB.out | apply below_alloc | apply pw_below_drewN | apply below_drew1) | exact HB.out)) hb); clear HB; have HO306 := n0_; have HB := n1_; clear n0_ n1_; clear hb ho29; obtain ⟨Ao30, co30, eo30⟩ := Kd.R_slice HO306.out; subst eo30) | ((with_reducible refine gate_callee (f := 17) rfl ?_); refine goesL_ (some 25) rfl rfl Try.func17 (by kernel_rfl) rfl #[.slice Ao30 y304.length co30, .bool false] rfl (by (try simp only [List.map_toArray, List.map_cons, List.map_nil]); first | done | rfl | (simp only [List.length_drop, List.length_take]; rfl)) ?_; (with_reducible refine (pilcrowref05_Bytes.calls k _ _ y304 false t311 _ ?side1 ?side2 A27.out).mono ?_); (case side1 => repeat (first | exact (Kd.R_reads' HO306.out).2.2 | (with_reducible refine Kd.C_alloc ?_ _) | (with_reducible refine Kd.C_drewN ?_ _) | (with_reducible refine Kd.C_drew ?_))); (case side2 => exact (Kd.R_reads' HO306.out).2.1); rintro e w31 ⟨rfl, hb⟩; refine ⟨_, rfl, ?_⟩; have n0_ := Aside0.mk (Kd.R_below (by (with_reducible repeat (first | apply Kd.R_alloc | apply Kd.R_drewN | apply Kd.R_drew)); exact HO306.out) hb); have n1_ := Aside0.mk (below_step (by repeat (first | (with_reducible first | exact HB.out | apply below_alloc | apply pw_below_drewN | apply below_drew1) | exact HB.out)) hb); clear HO306; clear HB; have HO306 := n0_; have HB := n1_; clear n0_ n1_; (try clear hb); (try clear hb2); (try clear hk); (try clear hi)))
            go_ret
            exact ⟨by first | rfl | (simp [errW_none, errW_some] <;> rfl) | (simp [*, errW_none, errW_some] <;> rfl), by repeat (first | (with_reducible first | exact HB.out | apply below_alloc | apply pw_below_drewN | apply below_drew1) | exact HB.out)⟩
          · rw [if_neg c26] at H
            have c26b0 : (a0 == 5) = false := beq_eq_false_iff_ne.mpr c26
            have c26b1 : (a0 != 5) = true := bne_iff_ne.mpr c26
            by_cases c32 : a0 = 6
            · rw [if_pos c32] at H
              have c32b0 : (a0 == 6) = true := beq_iff_eq.mpr c32
              have c32b1 : (a0 != 6) = false := bne_eq_false_iff_eq.mpr c32
              clear c32
              replace H := Option.bind_eq_some_iff.mp H
              obtain ⟨t312, A330, H⟩ := H
              replace H : (some t312) = some r := H
              have A33 := Aside0.mk A330
              clear A330
              obtain rfl := Option.some.inj H
              go_enter Try.func10, Try.ntmps10
              go_wp2_with (first | ((with_reducible refine gate_dst (N := 4) rfl ?_); refine Kd.R_lit (Kd.int .u32) _ 35 ?hg (N := 4) ?hd (xs := ([65279] : List Int)) (inner := [.int .u32 65279]) (ok := fun _ => True) (okp := fun _ => True) ?hr ?hp (fun _ hk => hk) trivial (Below.refl _ _) (Nat.le_refl _) (by simp) ?_; (case hd => rfl); (case hg => rfl); (case hr => first | (go_simp; done) | (go_simp; with_reducible rfl) | (go_simp; simp only [IntKind.wrap_u8, IntKind.wrap_u32, Int.emod_emod_of_dvd _ (show (256 : Int) ∣ 4294967296 by decide)]; done) | (go_simp; repeat (first | (with_reducible rfl) | omega | congr 1))); (case hp => exact (Reps.one (show Kd.M (Kd.int .u32) _ _ _ 65279 [.int .u32 65279] from rfl) (Reps.none _ _))); intro v305 w34 ho35 hb hg_ hnew_; clear hg_ hnew_; (first | rw [← Ny304.out] at ho35 | (simp only [Int.reduceToNat] at ho35; rw [← Ny304.out] at ho35)); have n0_ := Aside0.mk (Kd.R_lower ho35 (below_size (by repeat (first | (with_reducible first | exact HB.out | apply below_alloc | apply pw_below_drewN | apply below_drew1) | exact HB.out)))); have n1_ := Aside0.mk (below_step (by repeat (first | (with_reducible first | exact HB.out | apply below_alloc | apply pw_below_drewN | apply below_drew1) | exact HB.out)) hb); clear HB; have HO306 := n0_; have HB := n1_; clear n0_ n1_; clear hb ho35; obtain ⟨Ao36, co36, eo36⟩ := Kd.R_slice HO306.out; subst eo36) | ((with_reducible refine gate_callee (f := 18) rfl ?_); refine goesL_ (some 29) rfl rfl Try.func18 (by kernel_rfl) rfl #[.slice Ao36 y304.length co36] rfl (by (try simp only [List.map_toArray, List.map_cons, List.map_nil]); first | done | rfl | (simp only [List.length_drop, List.length_take]; rfl)) ?_; (with_reducible refine (pilcrowref08_Bytes.calls k _ _ y304 t312 _ ?side1 ?side2 A33.out).mono ?_); (case side1 => repeat (first | exact (Kd.R_reads' HO306.out).2.2 | (with_reducible refine Kd.C_alloc ?_ _) | (with_reducible refine Kd.C_drewN ?_ _) | (with_reducible refine Kd.C_drew ?_))); (case side2 => exact (Kd.R_reads' HO306.out).2.1); rintro e w37 ⟨rfl, hb⟩; refine ⟨_, rfl, ?_⟩; have n0_ := Aside0.mk (Kd.R_below (by (with_reducible repeat (first | apply Kd.R_alloc | apply Kd.R_drewN | apply Kd.R_drew)); exact HO306.out) hb); have n1_ := Aside0.mk (below_step (by repeat (first | (with_reducible first | exact HB.out | apply below_alloc | apply pw_below_drewN | apply below_drew1) | exact HB.out)) hb); clear HO306; clear HB; have HO306 := n0_; have HB := n1_; clear n0_ n1_; (try clear hb); (try clear hb2); (try clear hk); (try clear hi)))
              go_ret
              exact ⟨by first | rfl | (simp [errW_none, errW_some] <;> rfl) | (simp [*, errW_none, errW_some] <;> rfl), by repeat (first | (with_reducible first | exact HB.out | apply below_alloc | apply pw_below_drewN | apply below_drew1) | exact HB.out)⟩
            · rw [if_neg c32] at H
              have c32b0 : (a0 == 6) = false := beq_eq_false_iff_ne.mpr c32
              have c32b1 : (a0 != 6) = true := bne_iff_ne.mpr c32
              by_cases c38 : a0 = 8
              · rw [if_pos c38] at H
                have c38b0 : (a0 == 8) = true := beq_iff_eq.mpr c38
                have c38b1 : (a0 != 8) = false := bne_eq_false_iff_eq.mpr c38
                clear c38
                replace H := Option.bind_eq_some_iff.mp H
                obtain ⟨t313, A390, H⟩ := H
                replace H : (some t313) = some r := H
                have A39 := Aside0.mk A390
                clear A390
                obtain rfl := Option.some.inj H
                go_enter Try.func10, Try.ntmps10
                go_wp2_with (first | ((with_reducible refine gate_dst (N := 4) rfl ?_); refine Kd.R_lit (Kd.int .u32) _ 35 ?hg (N := 4) ?hd (xs := ([65279] : List Int)) (inner := [.int .u32 65279]) (ok := fun _ => True) (okp := fun _ => True) ?hr ?hp (fun _ hk => hk) trivial (Below.refl _ _) (Nat.le_refl _) (by simp) ?_; (case hd => rfl); (case hg => rfl); (case hr => first | (go_simp; done) | (go_simp; with_reducible rfl) | (go_simp; simp only [IntKind.wrap_u8, IntKind.wrap_u32, Int.emod_emod_of_dvd _ (show (256 : Int) ∣ 4294967296 by decide)]; done) | (go_simp; repeat (first | (with_reducible rfl) | omega | congr 1))); (case hp => exact (Reps.one (show Kd.M (Kd.int .u32) _ _ _ 65279 [.int .u32 65279] from rfl) (Reps.none _ _))); intro v305 w40 ho41 hb hg_ hnew_; clear hg_ hnew_; (first | rw [← Ny304.out] at ho41 | (simp only [Int.reduceToNat] at ho41; rw [← Ny304.out] at ho41)); have n0_ := Aside0.mk (Kd.R_lower ho41 (below_size (by repeat (first | (with_reducible first | exact HB.out | apply below_alloc | apply pw_below_drewN | apply below_drew1) | exact HB.out)))); have n1_ := Aside0.mk (below_step (by repeat (first | (with_reducible first | exact HB.out | apply below_alloc | apply pw_below_drewN | apply below_drew1) | exact HB.out)) hb); clear HB; have HO306 := n0_; have HB := n1_; clear n0_ n1_; clear hb ho41; obtain ⟨Ao42, co42, eo42⟩ := Kd.R_slice HO306.out; subst eo42) | ((with_reducible refine gate_callee (f := 19) rfl ?_); refine goesL_ (some 33) rfl rfl Try.func19 (by kernel_rfl) rfl #[.slice Ao42 y304.length co42] rfl (by (try simp only [List.map_toArray, List.map_cons, List.map_nil]); first | done | rfl | (simp only [List.length_drop, List.length_take]; rfl)) ?_; (with_reducible refine (pilcrowref12_Bytes.calls k _ _ y304 t313 _ ?side1 ?side2 A39.out).mono ?_); (case side1 => repeat (first | exact (Kd.R_reads' HO306.out).2.2 | (with_reducible refine Kd.C_alloc ?_ _) | (with_reducible refine Kd.C_drewN ?_ _) | (with_reducible refine Kd.C_drew ?_))); (case side2 => exact (Kd.R_reads' HO306.out).2.1); rintro e w43 ⟨rfl, hb⟩; refine ⟨_, rfl, ?_⟩; have n0_ := Aside0.mk (Kd.R_below (by (with_reducible repeat (first | apply Kd.R_alloc | apply Kd.R_drewN | apply Kd.R_drew)); exact HO306.out) hb); have n1_ := Aside0.mk (below_step (by repeat (first | (with_reducible first | exact HB.out | apply below_alloc | apply pw_below_drewN | apply below_drew1) | exact HB.out)) hb); clear HO306; clear HB; have HO306 := n0_; have HB := n1_; clear n0_ n1_; (try clear hb); (try clear hb2); (try clear hk); (try clear hi)))
                go_ret
                exact ⟨by first | rfl | (simp [errW_none, errW_some] <;> rfl) | (simp [*, errW_none, errW_some] <;> rfl), by repeat (first | (with_reducible first | exact HB.out | apply below_alloc | apply pw_below_drewN | apply below_drew1) | exact HB.out)⟩
              · rw [if_neg c38] at H
                have c38b0 : (a0 == 8) = false := beq_eq_false_iff_ne.mpr c38
                have c38b1 : (a0 != 8) = true := bne_iff_ne.mpr c38
                by_cases c44 : a0 = 9
                · rw [if_pos c44] at H
                  have c44b0 : (a0 == 9) = true := beq_iff_eq.mpr c44
                  have c44b1 : (a0 != 9) = false := bne_eq_false_iff_eq.mpr c44
                  clear c44
                  replace H := Option.bind_eq_some_iff.mp H
                  obtain ⟨t314, A450, H⟩ := H
                  replace H : (some t314) = some r := H
                  have A45 := Aside0.mk A450
                  clear A450
                  obtain rfl := Option.some.inj H
                  go_enter Try.func10, Try.ntmps10
                  go_wp2_with (first | ((with_reducible refine gate_dst (N := 4) rfl ?_); refine Kd.R_lit (Kd.int .u32) _ 35 ?hg (N := 4) ?hd (xs := ([65279] : List Int)) (inner := [.int .u32 65279]) (ok := fun _ => True) (okp := fun _ => True) ?hr ?hp (fun _ hk => hk) trivial (Below.refl _ _) (Nat.le_refl _) (by simp) ?_; (case hd => rfl); (case hg => rfl); (case hr => first | (go_simp; done) | (go_simp; with_reducible rfl) | (go_simp; simp only [IntKind.wrap_u8, IntKind.wrap_u32, Int.emod_emod_of_dvd _ (show (256 : Int) ∣ 4294967296 by decide)]; done) | (go_simp; repeat (first | (with_reducible rfl) | omega | congr 1))); (case hp => exact (Reps.one (show Kd.M (Kd.int .u32) _ _ _ 65279 [.int .u32 65279] from rfl) (Reps.none _ _))); intro v305 w46 ho47 hb hg_ hnew_; clear hg_ hnew_; (first | rw [← Ny304.out] at ho47 | (simp only [Int.reduceToNat] at ho47; rw [← Ny304.out] at ho47)); have n0_ := Aside0.mk (Kd.R_lower ho47 (below_size (by repeat (first | (with_reducible first | exact HB.out | apply below_alloc | apply pw_below_drewN | apply below_drew1) | exact HB.out)))); have n1_ := Aside0.mk (below_step (by repeat (first | (with_reducible first | exact HB.out | apply below_alloc | apply pw_below_drewN | apply below_drew1) | exact HB.out)) hb); clear HB; have HO306 := n0_; have HB := n1_; clear n0_ n1_; clear hb ho47; obtain ⟨Ao48, co48, eo48⟩ := Kd.R_slice HO306.out; subst eo48) | ((with_reducible refine gate_callee (f := 20) rfl ?_); refine goesL_ (some 37) rfl rfl Try.func20 (by kernel_rfl) rfl #[.slice Ao48 y304.length co48, .bool false] rfl (by (try simp only [List.map_toArray, List.map_cons, List.map_nil]); first | done | rfl | (simp only [List.length_drop, List.length_take]; rfl)) ?_; (with_reducible refine (pilcrowref15_Bytes.calls _ _ y304 false t314 _ ?side1 ?side2 A45.out).mono ?_); (case side1 => repeat (first | exact (Kd.R_reads' HO306.out).2.2 | (with_reducible refine Kd.C_alloc ?_ _) | (with_reducible refine Kd.C_drewN ?_ _) | (with_reducible refine Kd.C_drew ?_))); (case side2 => exact (Kd.R_reads' HO306.out).2.1); rintro e w49 ⟨rfl, hb⟩; refine ⟨_, rfl, ?_⟩; have n0_ := Aside0.mk (Kd.R_below (by (with_reducible repeat (first | apply Kd.R_alloc | apply Kd.R_drewN | apply Kd.R_drew)); exact HO306.out) hb); have n1_ := Aside0.mk (below_step (by repeat (first | (with_reducible first | exact HB.out | apply below_alloc | apply pw_below_drewN | apply below_drew1) | exact HB.out)) hb); clear HO306; clear HB; have HO306 := n0_; have HB := n1_; clear n0_ n1_; (try clear hb); (try clear hb2); (try clear hk); (try clear hi)))
                  go_ret
                  exact ⟨by first | rfl | (simp [errW_none, errW_some] <;> rfl) | (simp [*, errW_none, errW_some] <;> rfl), by repeat (first | (with_reducible first | exact HB.out | apply below_alloc | apply pw_below_drewN | apply below_drew1) | exact HB.out)⟩
                · rw [if_neg c44] at H
                  have c44b0 : (a0 == 9) = false := beq_eq_false_iff_ne.mpr c44
                  have c44b1 : (a0 != 9) = true := bne_iff_ne.mpr c44
                  obtain rfl := Option.some.inj H
                  go_enter Try.func10, Try.ntmps10
                  go_wp2_with (first | ((with_reducible refine gate_dst (N := 4) rfl ?_); refine Kd.R_lit (Kd.int .u32) _ 35 ?hg (N := 4) ?hd (xs := ([65279] : List Int)) (inner := [.int .u32 65279]) (ok := fun _ => True) (okp := fun _ => True) ?hr ?hp (fun _ hk => hk) trivial (Below.refl _ _) (Nat.le_refl _) (by simp) ?_; (case hd => rfl); (case hg => rfl); (case hr => first | (go_simp; done) | (go_simp; with_reducible rfl) | (go_simp; simp only [IntKind.wrap_u8, IntKind.wrap_u32, Int.emod_emod_of_dvd _ (show (256 : Int) ∣ 4294967296 by decide)]; done) | (go_simp; repeat (first | (with_reducible rfl) | omega | congr 1))); (case hp => exact (Reps.one (show Kd.M (Kd.int .u32) _ _ _ 65279 [.int .u32 65279] from rfl) (Reps.none _ _))); intro v305 w50 ho51 hb hg_ hnew_; clear hg_ hnew_; (first | rw [← Ny304.out] at ho51 | (simp only [Int.reduceToNat] at ho51; rw [← Ny304.out] at ho51)); have n0_ := Aside0.mk (Kd.R_lower ho51 (below_size (by repeat (first | (with_reducible first | exact HB.out | apply below_alloc | apply pw_below_drewN | apply below_drew1) | exact HB.out)))); have n1_ := Aside0.mk (below_step (by repeat (first | (with_reducible first | exact HB.out | apply below_alloc | apply pw_below_drewN | apply below_drew1) | exact HB.out)) hb); clear HB; have HO306 := n0_; have HB := n1_; clear n0_ n1_; clear hb ho51))
                  go_ret
                  exact ⟨by first | rfl | (simp [errW_none, errW_some] <;> rfl) | (simp [*, errW_none, errW_some] <;> rfl), by repeat (first | (with_reducible first | exact HB.out | apply below_alloc | apply pw_below_drewN | apply below_drew1) | exact HB.out)⟩

/-! ### pilcrowref17_Has: function 13 -/
def pilcrowref17_Has.f (k : Nat) (a0 : ByteArray) (a1 : Int) : Option (Bool) := (pilcrowref17_Of.f k a1).bind fun t315 => (if t315.toList = ([] : List UInt8) then (some false) else (if (a0.size : Int) < (t315.size : Int) then (some false) else (if 0 ≤ (t315.size : Int) then (if (t315.size : Int) ≤ (a0.size : Int) then (some ((a0.extract 0 ((t315.size : Int) : Int).toNat).toList == t315.toList)) else (none)) else (none))))
theorem pilcrowref17_Has.mono : ∀ a0 a1 k, LeO (pilcrowref17_Has.f k a0 a1) (pilcrowref17_Has.f (k + 1) a0 a1) := by
  intro a0 a1 k
  unfold pilcrowref17_Has.f
  repeat' first
      | (with_reducible exact pilcrowref17_Of.mono _ _)
      | (with_reducible exact LeO.refl _)
      | (with_reducible exact LeO.none _)
      | (with_reducible refine LeO.ite ?_ ?_)
      | (with_reducible refine LeO.bind ?_ (fun _ => ?_))
      | exact pilcrowref17_Of.mono _ _
      | exact LeO.none _
      | refine LeO.ite ?_ ?_
      | refine LeO.bind ?_ (fun _ => ?_)
set_option maxHeartbeats 8000000 in
set_option maxRecDepth 100000 in
theorem pilcrowref17_Has.calls (k : Nat) (a0 : ByteArray) (a1 : Int) (r : Bool) (w : World) (h : pilcrowref17_Has.f k a0 a1 = some r) :
    Calls Try.prog 13 #[.string a0, .int .i64 a1] w fun e w' => e = .returned (.bool r) ∧ Below w.heap.size w w' := by
  have HB := Aside0.mk (Below.refl w.heap.size w)
  have H : ((pilcrowref17_Of.f k a1).bind fun t315 => (if t315.toList = ([] : List UInt8) then (some false) else (if (a0.size : Int) < (t315.size : Int) then (some false) else (if 0 ≤ (t315.size : Int) then (if (t315.size : Int) ≤ (a0.size : Int) then (some ((a0.extract 0 ((t315.size : Int) : Int).toNat).toList == t315.toList)) else (none)) else (none))))) = some r := h
  clear h
  replace H := Option.bind_eq_some_iff.mp H
  obtain ⟨t315, A30, H⟩ := H
  replace H : (if t315.toList = ([] : List UInt8) then (some false) else (if (a0.size : Int) < (t315.size : Int) then (some false) else (if 0 ≤ (t315.size : Int) then (if (t315.size : Int) ≤ (a0.size : Int) then (some ((a0.extract 0 ((t315.size : Int) : Int).toNat).toList == t315.toList)) else (none)) else (none)))) = some r := H
  have A3 := Aside0.mk A30
  clear A30
  by_cases c4 : t315.toList = ([] : List UInt8)
  · rw [if_pos c4] at H
    have c4b0 : (t315.toList == ([] : List UInt8)) = true := beq_iff_eq.mpr c4
    have c4b1 : (t315.toList != ([] : List UInt8)) = false := bne_eq_false_iff_eq.mpr c4
    clear c4
    obtain rfl := Option.some.inj H
    go_enter Try.func13, Try.ntmps13
    go_wp2_with (first | ((with_reducible refine gate_callee (f := 10) rfl ?_); refine goesL_ (some 7) rfl rfl Try.func10 (by kernel_rfl) rfl #[.int .i64 a1] rfl (by (try simp only [List.map_toArray, List.map_cons, List.map_nil]); first | done | rfl | (simp only [List.length_drop, List.length_take]; rfl)) ?_; (with_reducible refine (pilcrowref17_Of.calls k a1 t315 _ A3.out).mono ?_); rintro e w5 ⟨rfl, hb⟩; refine ⟨_, rfl, ?_⟩; have n0_ := Aside0.mk (below_step (by repeat (first | (with_reducible first | exact HB.out | apply below_alloc | apply pw_below_drewN | apply below_drew1) | exact HB.out)) hb); clear HB; have HB := n0_; clear n0_; (try clear hb); (try clear hb2); (try clear hk); (try clear hi)))
    go_ret
    exact ⟨by first | rfl | (simp [errW_none, errW_some] <;> rfl) | (simp [*, errW_none, errW_some] <;> rfl), by repeat (first | (with_reducible first | exact HB.out | apply below_alloc | apply pw_below_drewN | apply below_drew1) | exact HB.out)⟩
  · rw [if_neg c4] at H
    have c4b0 : (t315.toList == ([] : List UInt8)) = false := beq_eq_false_iff_ne.mpr c4
    have c4b1 : (t315.toList != ([] : List UInt8)) = true := bne_iff_ne.mpr c4
    by_cases c6 : (a0.size : Int) < (t315.size : Int)
    · rw [if_pos c6] at H
      have c6b0 : decide ((a0.size : Int) < (t315.size : Int)) = true := decide_eq_true c6
      have c6b1 : decide (a0.size < t315.size) = true := decide_eq_true (Int.ofNat_lt.mp c6)
      clear c6
      obtain rfl := Option.some.inj H
      go_enter Try.func13, Try.ntmps13
      go_wp2_with (first | ((with_reducible refine gate_callee (f := 10) rfl ?_); refine goesL_ (some 7) rfl rfl Try.func10 (by kernel_rfl) rfl #[.int .i64 a1] rfl (by (try simp only [List.map_toArray, List.map_cons, List.map_nil]); first | done | rfl | (simp only [List.length_drop, List.length_take]; rfl)) ?_; (with_reducible refine (pilcrowref17_Of.calls k a1 t315 _ A3.out).mono ?_); rintro e w7 ⟨rfl, hb⟩; refine ⟨_, rfl, ?_⟩; have n0_ := Aside0.mk (below_step (by repeat (first | (with_reducible first | exact HB.out | apply below_alloc | apply pw_below_drewN | apply below_drew1) | exact HB.out)) hb); clear HB; have HB := n0_; clear n0_; (try clear hb); (try clear hb2); (try clear hk); (try clear hi)))
      go_ret
      exact ⟨by first | rfl | (simp [errW_none, errW_some] <;> rfl) | (simp [*, errW_none, errW_some] <;> rfl), by repeat (first | (with_reducible first | exact HB.out | apply below_alloc | apply pw_below_drewN | apply below_drew1) | exact HB.out)⟩
    · rw [if_neg c6] at H
      have c6b0 : decide ((a0.size : Int) < (t315.size : Int)) = false := decide_eq_false c6
      have c6b1 : decide (a0.size < t315.size) = false := decide_eq_false (fun h => c6 (Int.ofNat_lt.mpr h))
      clear c6
      by_cases c8 : 0 ≤ (t315.size : Int)
      · rw [if_pos c8] at H
        have c8b0 := eq_true c8
        have c8b1 : decide (0 ≤ (t315.size : Int)) = true := decide_eq_true c8
        clear c8
        by_cases c9 : (t315.size : Int) ≤ (a0.size : Int)
        · rw [if_pos c9] at H
          have c9b0 := eq_true c9
          have c9b1 : decide ((t315.size : Int) ≤ (a0.size : Int)) = true := decide_eq_true c9
          clear c9
          obtain rfl := Option.some.inj H
          go_enter Try.func13, Try.ntmps13
          go_wp2_with (first | ((with_reducible refine gate_callee (f := 10) rfl ?_); refine goesL_ (some 7) rfl rfl Try.func10 (by kernel_rfl) rfl #[.int .i64 a1] rfl (by (try simp only [List.map_toArray, List.map_cons, List.map_nil]); first | done | rfl | (simp only [List.length_drop, List.length_take]; rfl)) ?_; (with_reducible refine (pilcrowref17_Of.calls k a1 t315 _ A3.out).mono ?_); rintro e w10 ⟨rfl, hb⟩; refine ⟨_, rfl, ?_⟩; have n0_ := Aside0.mk (below_step (by repeat (first | (with_reducible first | exact HB.out | apply below_alloc | apply pw_below_drewN | apply below_drew1) | exact HB.out)) hb); clear HB; have HB := n0_; clear n0_; (try clear hb); (try clear hb2); (try clear hk); (try clear hi)))
          go_ret
          exact ⟨by first | rfl | (simp [errW_none, errW_some] <;> rfl) | (simp [*, errW_none, errW_some] <;> rfl), by repeat (first | (with_reducible first | exact HB.out | apply below_alloc | apply pw_below_drewN | apply below_drew1) | exact HB.out)⟩
        · rw [if_neg c9] at H
          exact absurd H (by simp)
      · rw [if_neg c8] at H
        exact absurd H (by simp)

/-! ### pilcrowref17_Sniff: function 12 -/
def pilcrowref17_Sniff.l0 : Nat → ByteArray → Int → Int → Option (Int)
  | 0, _, _, _ => none
  | k + 1, x0, x3, x4 => if x4 ≤ 10 then ((pilcrowref17_Has.f k x0 x4).bind fun t316 => (if t316 = true then (if x3 = 0 then (pilcrowref17_Sniff.l0 k x0 x4 (wrap64 (x4 + 1))) else ((pilcrowref17_Of.f k x4).bind fun t317 => ((pilcrowref17_Of.f k x3).bind fun t318 => (if (t317.size : Int) > (t318.size : Int) then (pilcrowref17_Sniff.l0 k x0 x4 (wrap64 (x4 + 1))) else (pilcrowref17_Sniff.l0 k x0 x3 (wrap64 (x4 + 1))))))) else (pilcrowref17_Sniff.l0 k x0 x3 (wrap64 (x4 + 1))))) else (some x3)
def pilcrowref17_Sniff.f (k : Nat) (a0 : ByteArray) : Option (Int) := pilcrowref17_Sniff.l0 k a0 0 1
theorem pilcrowref17_Sniff.mono_l : ∀ k, (∀ y0 y1 y2, LeO (pilcrowref17_Sniff.l0 k y0 y1 y2) (pilcrowref17_Sniff.l0 (k + 1) y0 y1 y2))
  | 0 => fun _ _ _ r h => by simp [pilcrowref17_Sniff.l0] at h
  | k + 1 => by
    have ih0 := pilcrowref17_Sniff.mono_l k
    · intro y0 y1 y2
      unfold pilcrowref17_Sniff.l0
      repeat' first
      | (with_reducible exact ih0 _ _ _)
      | (with_reducible exact pilcrowref17_Has.mono _ _ _)
      | (with_reducible exact pilcrowref17_Of.mono _ _)
      | (with_reducible exact LeO.refl _)
      | (with_reducible exact LeO.none _)
      | (with_reducible refine LeO.ite ?_ ?_)
      | (with_reducible refine LeO.bind ?_ (fun _ => ?_))
      | exact ih0 _ _ _
      | exact pilcrowref17_Has.mono _ _ _
      | exact pilcrowref17_Of.mono _ _
      | exact LeO.none _
      | refine LeO.ite ?_ ?_
      | refine LeO.bind ?_ (fun _ => ?_)
theorem pilcrowref17_Sniff.mono : ∀ a0 k, LeO (pilcrowref17_Sniff.f k a0) (pilcrowref17_Sniff.f (k + 1) a0) := by
  intro a0 k
  have ih0 := pilcrowref17_Sniff.mono_l k
  unfold pilcrowref17_Sniff.f
  repeat' first
      | (with_reducible exact ih0 _ _ _)
      | (with_reducible exact pilcrowref17_Has.mono _ _ _)
      | (with_reducible exact pilcrowref17_Of.mono _ _)
      | (with_reducible exact LeO.refl _)
      | (with_reducible exact LeO.none _)
      | (with_reducible refine LeO.ite ?_ ?_)
      | (with_reducible refine LeO.bind ?_ (fun _ => ?_))
      | exact ih0 _ _ _
      | exact pilcrowref17_Has.mono _ _ _
      | exact pilcrowref17_Of.mono _ _
      | exact LeO.none _
      | refine LeO.ite ?_ ?_
      | refine LeO.bind ?_ (fun _ => ?_)
set_option maxHeartbeats 8000000 in
set_option maxRecDepth 100000 in
theorem pilcrowref17_Sniff.calls (k : Nat) (a0 : ByteArray) (r : Int) (w : World) (h : pilcrowref17_Sniff.f k a0 = some r) :
    Calls Try.prog 12 #[.string a0] w fun e w' => e = .returned (.int .i64 r) ∧ Below w.heap.size w w' := by
  have HB := Aside0.mk (Below.refl w.heap.size w)
  have H : (pilcrowref17_Sniff.l0 k a0 0 1) = some r := h
  clear h
  have H' := Aside0.mk H
  clear H
  go_enter Try.func12, Try.ntmps12
  go_wp2
  go_loopg [3, 4] k (fun kq v3 v4 w' => ∃ (x3_1 : Int) (x4_1 : Int), v3 = .int .i64 x3_1 ∧ v4 = .int .i64 x4_1 ∧ Aside0 (pilcrowref17_Sniff.l0 kq a0 x3_1 x4_1 = some r) ∧ Aside0 (kq ≤ k) ∧ Aside0 (Below w.heap.size w w'))
  case atStart => exact ⟨(0), (1), (by first | rfl | (simp; done) | (simp [*]; done)), (by first | rfl | (simp; done) | (simp [*]; done)), H', ⟨Nat.le_refl _⟩, ⟨by repeat (first | (with_reducible first | exact HB.out | apply below_alloc | apply pw_below_drewN | apply below_drew1) | exact HB.out)⟩⟩
  case round =>
    clear H'
    try clear c1
    obtain ⟨x3_1, x4_1, rfl, rfl, HA, HK1, HB⟩ := hrel
    cases gk with
    | zero => exact absurd HA.out (by simp [pilcrowref17_Sniff.l0])
    | succ k1 =>
      have H := HA.out
      clear HA
      simp only [pilcrowref17_Sniff.l0] at H
      by_cases c2 : x4_1 ≤ 10
      · rw [if_pos c2] at H
        have c2b0 : decide (x4_1 ≤ 10) = true := decide_eq_true c2
        clear c2
        replace H := Option.bind_eq_some_iff.mp H
        obtain ⟨t316, A30, H⟩ := H
        replace H : (if t316 = true then (if x3_1 = 0 then (pilcrowref17_Sniff.l0 k1 a0 x4_1 (wrap64 (x4_1 + 1))) else ((pilcrowref17_Of.f k1 x4_1).bind fun t317 => ((pilcrowref17_Of.f k1 x3_1).bind fun t318 => (if (t317.size : Int) > (t318.size : Int) then (pilcrowref17_Sniff.l0 k1 a0 x4_1 (wrap64 (x4_1 + 1))) else (pilcrowref17_Sniff.l0 k1 a0 x3_1 (wrap64 (x4_1 + 1))))))) else (pilcrowref17_Sniff.l0 k1 a0 x3_1 (wrap64 (x4_1 + 1)))) = some r := H
        have A3 := Aside0.mk A30
        clear A30
        by_cases c4 : t316 = true
        · subst c4
          have H1 : (if x3_1 = 0 then (pilcrowref17_Sniff.l0 k1 a0 x4_1 (wrap64 (x4_1 + 1))) else ((pilcrowref17_Of.f k1 x4_1).bind fun t317 => ((pilcrowref17_Of.f k1 x3_1).bind fun t318 => (if (t317.size : Int) > (t318.size : Int) then (pilcrowref17_Sniff.l0 k1 a0 x4_1 (wrap64 (x4_1 + 1))) else (pilcrowref17_Sniff.l0 k1 a0 x3_1 (wrap64 (x4_1 + 1))))))) = some r := by rw [if_pos rfl] at H; exact H
          clear H
          have H := H1
          clear H1
          by_cases c5 : x3_1 = 0
          · rw [if_pos c5] at H
            have c5b0 : (x3_1 == 0) = true := beq_iff_eq.mpr c5
            have c5b1 : (x3_1 != 0) = false := bne_eq_false_iff_eq.mpr c5
            clear c5
            have H' := Aside0.mk H
            clear H
            go_wp2_with (first | ((with_reducible refine gate_callee (f := 13) rfl ?_); refine goesL_ (some 11) rfl rfl Try.func13 (by kernel_rfl) rfl #[.string a0, .int .i64 x4_1] rfl (by (try simp only [List.map_toArray, List.map_cons, List.map_nil]); first | done | rfl | (simp only [List.length_drop, List.length_take]; rfl)) ?_; (with_reducible refine (pilcrowref17_Has.calls k1 a0 x4_1 true _ A3.out).mono ?_); rintro e w6 ⟨rfl, hb⟩; refine ⟨_, rfl, ?_⟩; have n0_ := Aside0.mk (below_step (by repeat (first | (with_reducible first | exact HB.out | apply below_alloc | apply pw_below_drewN | apply below_drew1) | exact HB.out)) hb); clear HB; have HB := n0_; clear n0_; (try clear hb); (try clear hb2); (try clear hk); (try clear hi)))
            go_roundg k1
            case measure => have := HK1.out; omega
            case rel => exact ⟨(x4_1), (wrap64 (x4_1 + 1)), (by first | rfl | (simp; done) | (simp [*]; done)), (by first | rfl | (simp; done) | (simp [*]; done)), H', ⟨by have := HK1.out; omega⟩, ⟨by repeat (first | (with_reducible first | exact HB.out | apply below_alloc | apply pw_below_drewN | apply below_drew1) | exact HB.out)⟩⟩
          · rw [if_neg c5] at H
            have c5b0 : (x3_1 == 0) = false := beq_eq_false_iff_ne.mpr c5
            have c5b1 : (x3_1 != 0) = true := bne_iff_ne.mpr c5
            replace H := Option.bind_eq_some_iff.mp H
            obtain ⟨t317, A70, H⟩ := H
            replace H : ((pilcrowref17_Of.f k1 x3_1).bind fun t318 => (if (t317.size : Int) > (t318.size : Int) then (pilcrowref17_Sniff.l0 k1 a0 x4_1 (wrap64 (x4_1 + 1))) else (pilcrowref17_Sniff.l0 k1 a0 x3_1 (wrap64 (x4_1 + 1))))) = some r := H
            have A7 := Aside0.mk A70
            clear A70
            replace H := Option.bind_eq_some_iff.mp H
            obtain ⟨t318, A80, H⟩ := H
            replace H : (if (t317.size : Int) > (t318.size : Int) then (pilcrowref17_Sniff.l0 k1 a0 x4_1 (wrap64 (x4_1 + 1))) else (pilcrowref17_Sniff.l0 k1 a0 x3_1 (wrap64 (x4_1 + 1)))) = some r := H
            have A8 := Aside0.mk A80
            clear A80
            by_cases c9 : (t317.size : Int) > (t318.size : Int)
            · rw [if_pos c9] at H
              have c9b0 : decide ((t318.size : Int) < (t317.size : Int)) = true := decide_eq_true c9
              have c9b1 : decide (t318.size < t317.size) = true := decide_eq_true (Int.ofNat_lt.mp c9)
              clear c9
              have H' := Aside0.mk H
              clear H
              go_wp2_with (first | ((with_reducible refine gate_callee (f := 13) rfl ?_); refine goesL_ (some 11) rfl rfl Try.func13 (by kernel_rfl) rfl #[.string a0, .int .i64 x4_1] rfl (by (try simp only [List.map_toArray, List.map_cons, List.map_nil]); first | done | rfl | (simp only [List.length_drop, List.length_take]; rfl)) ?_; (with_reducible refine (pilcrowref17_Has.calls k1 a0 x4_1 true _ A3.out).mono ?_); rintro e w10 ⟨rfl, hb⟩; refine ⟨_, rfl, ?_⟩; have n0_ := Aside0.mk (below_step (by repeat (first | (with_reducible first | exact HB.out | apply below_alloc | apply pw_below_drewN | apply below_drew1) | exact HB.out)) hb); clear HB; have HB := n0_; clear n0_; (try clear hb); (try clear hb2); (try clear hk); (try clear hi)) | (go_at_call 10; (with_reducible refine (pilcrowref17_Of.calls k1 x4_1 t317 _ A7.out).mono ?_); rintro e w11 ⟨rfl, hb⟩; have n0_ := Aside0.mk (below_step (by repeat (first | (with_reducible first | exact HB.out | apply below_alloc | apply pw_below_drewN | apply below_drew1) | exact HB.out)) hb); clear HB; have HB := n0_; clear n0_; (try clear hb); (try clear hb2); (try clear hk); (try clear hi)) | (go_at_call 10; (with_reducible refine (pilcrowref17_Of.calls k1 x3_1 t318 _ A8.out).mono ?_); rintro e w12 ⟨rfl, hb⟩; have n0_ := Aside0.mk (below_step (by repeat (first | (with_reducible first | exact HB.out | apply below_alloc | apply pw_below_drewN | apply below_drew1) | exact HB.out)) hb); clear HB; have HB := n0_; clear n0_; (try clear hb); (try clear hb2); (try clear hk); (try clear hi)))
              go_roundg k1
              case measure => have := HK1.out; omega
              case rel => exact ⟨(x4_1), (wrap64 (x4_1 + 1)), (by first | rfl | (simp; done) | (simp [*]; done)), (by first | rfl | (simp; done) | (simp [*]; done)), H', ⟨by have := HK1.out; omega⟩, ⟨by repeat (first | (with_reducible first | exact HB.out | apply below_alloc | apply pw_below_drewN | apply below_drew1) | exact HB.out)⟩⟩
            · rw [if_neg c9] at H
              have c9b0 : decide ((t318.size : Int) < (t317.size : Int)) = false := decide_eq_false c9
              have c9b1 : decide (t318.size < t317.size) = false := decide_eq_false (fun h => c9 (Int.ofNat_lt.mpr h))
              clear c9
              have H' := Aside0.mk H
              clear H
              go_wp2_with (first | ((with_reducible refine gate_callee (f := 13) rfl ?_); refine goesL_ (some 11) rfl rfl Try.func13 (by kernel_rfl) rfl #[.string a0, .int .i64 x4_1] rfl (by (try simp only [List.map_toArray, List.map_cons, List.map_nil]); first | done | rfl | (simp only [List.length_drop, List.length_take]; rfl)) ?_; (with_reducible refine (pilcrowref17_Has.calls k1 a0 x4_1 true _ A3.out).mono ?_); rintro e w13 ⟨rfl, hb⟩; refine ⟨_, rfl, ?_⟩; have n0_ := Aside0.mk (below_step (by repeat (first | (with_reducible first | exact HB.out | apply below_alloc | apply pw_below_drewN | apply below_drew1) | exact HB.out)) hb); clear HB; have HB := n0_; clear n0_; (try clear hb); (try clear hb2); (try clear hk); (try clear hi)) | (go_at_call 10; (with_reducible refine (pilcrowref17_Of.calls k1 x4_1 t317 _ A7.out).mono ?_); rintro e w14 ⟨rfl, hb⟩; have n0_ := Aside0.mk (below_step (by repeat (first | (with_reducible first | exact HB.out | apply below_alloc | apply pw_below_drewN | apply below_drew1) | exact HB.out)) hb); clear HB; have HB := n0_; clear n0_; (try clear hb); (try clear hb2); (try clear hk); (try clear hi)) | (go_at_call 10; (with_reducible refine (pilcrowref17_Of.calls k1 x3_1 t318 _ A8.out).mono ?_); rintro e w15 ⟨rfl, hb⟩; have n0_ := Aside0.mk (below_step (by repeat (first | (with_reducible first | exact HB.out | apply below_alloc | apply pw_below_drewN | apply below_drew1) | exact HB.out)) hb); clear HB; have HB := n0_; clear n0_; (try clear hb); (try clear hb2); (try clear hk); (try clear hi)))
              go_roundg k1
              case measure => have := HK1.out; omega
              case rel => exact ⟨(x3_1), (wrap64 (x4_1 + 1)), (by first | rfl | (simp; done) | (simp [*]; done)), (by first | rfl | (simp; done) | (simp [*]; done)), H', ⟨by have := HK1.out; omega⟩, ⟨by repeat (first | (with_reducible first | exact HB.out | apply below_alloc | apply pw_below_drewN | apply below_drew1) | exact HB.out)⟩⟩
        · replace c4 := Bool.eq_false_iff.mpr c4
          subst c4
          have H1 : (pilcrowref17_Sniff.l0 k1 a0 x3_1 (wrap64 (x4_1 + 1))) = some r := by rw [if_neg (show ¬ (false = true) by decide)] at H; exact H
          clear H
          have H := H1
          clear H1
          have H' := Aside0.mk H
          clear H
          go_wp2_with (first | ((with_reducible refine gate_callee (f := 13) rfl ?_); refine goesL_ (some 11) rfl rfl Try.func13 (by kernel_rfl) rfl #[.string a0, .int .i64 x4_1] rfl (by (try simp only [List.map_toArray, List.map_cons, List.map_nil]); first | done | rfl | (simp only [List.length_drop, List.length_take]; rfl)) ?_; (with_reducible refine (pilcrowref17_Has.calls k1 a0 x4_1 false _ A3.out).mono ?_); rintro e w16 ⟨rfl, hb⟩; refine ⟨_, rfl, ?_⟩; have n0_ := Aside0.mk (below_step (by repeat (first | (with_reducible first | exact HB.out | apply below_alloc | apply pw_below_drewN | apply below_drew1) | exact HB.out)) hb); clear HB; have HB := n0_; clear n0_; (try clear hb); (try clear hb2); (try clear hk); (try clear hi)))
          go_roundg k1
          case measure => have := HK1.out; omega
          case rel => exact ⟨(x3_1), (wrap64 (x4_1 + 1)), (by first | rfl | (simp; done) | (simp [*]; done)), (by first | rfl | (simp; done) | (simp [*]; done)), H', ⟨by have := HK1.out; omega⟩, ⟨by repeat (first | (with_reducible first | exact HB.out | apply below_alloc | apply pw_below_drewN | apply below_drew1) | exact HB.out)⟩⟩
      · rw [if_neg c2] at H
        have c2b0 : decide (x4_1 ≤ 10) = false := decide_eq_false c2
        clear c2
        obtain rfl := Option.some.inj H
        go_wp2
        go_ret
        exact ⟨by first | rfl | (simp [errW_none, errW_some] <;> rfl) | (simp [*, errW_none, errW_some] <;> rfl), by repeat (first | (with_reducible first | exact HB.out | apply below_alloc | apply pw_below_drewN | apply below_drew1) | exact HB.out)⟩

/-! ### pilcrowlaw17_SignSniffs: function 4 -/
def pilcrowlaw17_SignSniffs.f (k : Nat) (a0 : ByteArray) : Option (Bool) := (pilcrowlaw17_awake.f k).bind fun t319 => (if t319 = true then ((sign_Sniff.f k a0).bind fun bt320 => ((pilcrowref17_Sniff.f k a0).bind fun t323 => (if bt320.1 = t323 then (if (bt320.2.2 == (decide (t323 > 0))) = true then ((pilcrowref17_Of.f k t323).bind fun t324 => (some (bt320.2.1 == (t324.size : Int)))) else (some false)) else (some false)))) else (some false))
theorem pilcrowlaw17_SignSniffs.mono : ∀ a0 k, LeO (pilcrowlaw17_SignSniffs.f k a0) (pilcrowlaw17_SignSniffs.f (k + 1) a0) := by
  intro a0 k
  unfold pilcrowlaw17_SignSniffs.f
  repeat' first
      | (with_reducible exact pilcrowlaw17_awake.mono _)
      | (with_reducible exact pilcrowref17_Of.mono _ _)
      | (with_reducible exact pilcrowref17_Sniff.mono _ _)
      | (with_reducible exact sign_Sniff.mono _ _)
      | (with_reducible exact LeO.refl _)
      | (with_reducible exact LeO.none _)
      | (with_reducible refine LeO.ite ?_ ?_)
      | (with_reducible refine LeO.bind ?_ (fun _ => ?_))
      | exact pilcrowlaw17_awake.mono _
      | exact pilcrowref17_Of.mono _ _
      | exact pilcrowref17_Sniff.mono _ _
      | exact sign_Sniff.mono _ _
      | exact LeO.none _
      | refine LeO.ite ?_ ?_
      | refine LeO.bind ?_ (fun _ => ?_)
set_option maxHeartbeats 8000000 in
set_option maxRecDepth 100000 in
theorem pilcrowlaw17_SignSniffs.calls (k : Nat) (a0 : ByteArray) (r : Bool) (w : World) (h : pilcrowlaw17_SignSniffs.f k a0 = some r) :
    Calls Try.prog 4 #[.string a0] w fun e w' => e = .returned (.bool r) ∧ Below w.heap.size w w' := by
  have HB := Aside0.mk (Below.refl w.heap.size w)
  have H : ((pilcrowlaw17_awake.f k).bind fun t319 => (if t319 = true then ((sign_Sniff.f k a0).bind fun bt320 => ((pilcrowref17_Sniff.f k a0).bind fun t323 => (if bt320.1 = t323 then (if (bt320.2.2 == (decide (t323 > 0))) = true then ((pilcrowref17_Of.f k t323).bind fun t324 => (some (bt320.2.1 == (t324.size : Int)))) else (some false)) else (some false)))) else (some false))) = some r := h
  clear h
  replace H := Option.bind_eq_some_iff.mp H
  obtain ⟨t319, A20, H⟩ := H
  replace H : (if t319 = true then ((sign_Sniff.f k a0).bind fun bt320 => ((pilcrowref17_Sniff.f k a0).bind fun t323 => (if bt320.1 = t323 then (if (bt320.2.2 == (decide (t323 > 0))) = true then ((pilcrowref17_Of.f k t323).bind fun t324 => (some (bt320.2.1 == (t324.size : Int)))) else (some false)) else (some false)))) else (some false)) = some r := H
  have A2 := Aside0.mk A20
  clear A20
  by_cases c3 : t319 = true
  · subst c3
    have H1 : ((sign_Sniff.f k a0).bind fun bt320 => ((pilcrowref17_Sniff.f k a0).bind fun t323 => (if bt320.1 = t323 then (if (bt320.2.2 == (decide (t323 > 0))) = true then ((pilcrowref17_Of.f k t323).bind fun t324 => (some (bt320.2.1 == (t324.size : Int)))) else (some false)) else (some false)))) = some r := by rw [if_pos rfl] at H; exact H
    clear H
    have H := H1
    clear H1
    replace H := Option.bind_eq_some_iff.mp H
    obtain ⟨⟨t320, t321, t322⟩, A40, H⟩ := H
    replace H : ((pilcrowref17_Sniff.f k a0).bind fun t323 => (if t320 = t323 then (if (t322 == (decide (t323 > 0))) = true then ((pilcrowref17_Of.f k t323).bind fun t324 => (some (t321 == (t324.size : Int)))) else (some false)) else (some false))) = some r := H
    have A4 := Aside0.mk A40
    clear A40
    replace H := Option.bind_eq_some_iff.mp H
    obtain ⟨t323, A50, H⟩ := H
    replace H : (if t320 = t323 then (if (t322 == (decide (t323 > 0))) = true then ((pilcrowref17_Of.f k t323).bind fun t324 => (some (t321 == (t324.size : Int)))) else (some false)) else (some false)) = some r := H
    have A5 := Aside0.mk A50
    clear A50
    by_cases c6 : t320 = t323
    · rw [if_pos c6] at H
      have c6b0 : (t320 == t323) = true := beq_iff_eq.mpr c6
      have c6b1 : (t320 != t323) = false := bne_eq_false_iff_eq.mpr c6
      clear c6
      by_cases c7 : (t322 == (decide (t323 > 0))) = true
      · rw [if_pos c7] at H
        have c7b0 : (t322 == (decide (t323 > 0))) = true := c7
        (try (have c7b1 : decide (t322 = (decide (t323 > 0))) = true := by simpa using c7))
        (try (have c7b2 : (t322 == (decide (t323 > 0))) = true := by simpa using c7))
        clear c7
        replace H := Option.bind_eq_some_iff.mp H
        obtain ⟨t324, A80, H⟩ := H
        replace H : (some (t321 == (t324.size : Int))) = some r := H
        have A8 := Aside0.mk A80
        clear A80
        obtain rfl := Option.some.inj H
        go_enter Try.func4, Try.ntmps4
        go_wp2_with (first | ((with_reducible refine gate_callee (f := 8) rfl ?_); refine goesL_ (some 7) rfl rfl Try.func8 (by kernel_rfl) rfl #[] rfl (by (try simp only [List.map_toArray, List.map_cons, List.map_nil]); first | done | rfl | (simp only [List.length_drop, List.length_take]; rfl)) ?_; (with_reducible refine (pilcrowlaw17_awake.calls k  true _ A2.out).mono ?_); rintro e w' ⟨rfl, ⟨nd, rfl⟩⟩; refine ⟨_, rfl, ?_⟩) | ((with_reducible refine gate_callee (f := 11) rfl ?_); refine goesL_ (some 11) rfl rfl Try.func11 (by kernel_rfl) rfl #[.string a0] rfl (by (try simp only [List.map_toArray, List.map_cons, List.map_nil]); first | done | rfl | (simp only [List.length_drop, List.length_take]; rfl)) ?_; (with_reducible refine (sign_Sniff.calls k a0 t320 t321 t322 _ A4.out).mono ?_); rintro e w' ⟨rfl, ⟨nd, rfl⟩⟩; refine ⟨_, rfl, ?_⟩) | ((with_reducible refine gate_callee (f := 12) rfl ?_); refine goesL_ (some 16) rfl rfl Try.func12 (by kernel_rfl) rfl #[.string a0] rfl (by (try simp only [List.map_toArray, List.map_cons, List.map_nil]); first | done | rfl | (simp only [List.length_drop, List.length_take]; rfl)) ?_; (with_reducible refine (pilcrowref17_Sniff.calls k a0 t323 _ A5.out).mono ?_); rintro e w9 ⟨rfl, hb⟩; refine ⟨_, rfl, ?_⟩; have n0_ := Aside0.mk (below_step (by repeat (first | (with_reducible first | exact HB.out | apply below_alloc | apply pw_below_drewN | apply below_drew1) | exact HB.out)) hb); clear HB; have HB := n0_; clear n0_; (try clear hb); (try clear hb2); (try clear hk); (try clear hi)) | (go_at_call 10; (with_reducible refine (pilcrowref17_Of.calls k t323 t324 _ A8.out).mono ?_); rintro e w10 ⟨rfl, hb⟩; have n0_ := Aside0.mk (below_step (by repeat (first | (with_reducible first | exact HB.out | apply below_alloc | apply pw_below_drewN | apply below_drew1) | exact HB.out)) hb); clear HB; have HB := n0_; clear n0_; (try clear hb); (try clear hb2); (try clear hk); (try clear hi)))
        go_ret
        exact ⟨by first | rfl | (simp [errW_none, errW_some] <;> rfl) | (simp [*, errW_none, errW_some] <;> rfl), by repeat (first | (with_reducible first | exact HB.out | apply below_alloc | apply pw_below_drewN | apply below_drew1) | exact HB.out)⟩
      · rw [if_neg c7] at H
        have c7b0 : (t322 == (decide (t323 > 0))) = false := by simpa using c7
        (try (have c7b1 : decide (t322 = (decide (t323 > 0))) = false := by simpa using c7))
        (try (have c7b2 : (t322 == (decide (t323 > 0))) = false := by simpa using c7))
        (try (have c7b3 : ¬ (t322 = (decide (t323 > 0))) := by simpa using c7))
        clear c7
        obtain rfl := Option.some.inj H
        go_enter Try.func4, Try.ntmps4
        go_wp2_with (first | ((with_reducible refine gate_callee (f := 8) rfl ?_); refine goesL_ (some 7) rfl rfl Try.func8 (by kernel_rfl) rfl #[] rfl (by (try simp only [List.map_toArray, List.map_cons, List.map_nil]); first | done | rfl | (simp only [List.length_drop, List.length_take]; rfl)) ?_; (with_reducible refine (pilcrowlaw17_awake.calls k  true _ A2.out).mono ?_); rintro e w' ⟨rfl, ⟨nd, rfl⟩⟩; refine ⟨_, rfl, ?_⟩) | ((with_reducible refine gate_callee (f := 11) rfl ?_); refine goesL_ (some 11) rfl rfl Try.func11 (by kernel_rfl) rfl #[.string a0] rfl (by (try simp only [List.map_toArray, List.map_cons, List.map_nil]); first | done | rfl | (simp only [List.length_drop, List.length_take]; rfl)) ?_; (with_reducible refine (sign_Sniff.calls k a0 t320 t321 t322 _ A4.out).mono ?_); rintro e w' ⟨rfl, ⟨nd, rfl⟩⟩; refine ⟨_, rfl, ?_⟩) | ((with_reducible refine gate_callee (f := 12) rfl ?_); refine goesL_ (some 16) rfl rfl Try.func12 (by kernel_rfl) rfl #[.string a0] rfl (by (try simp only [List.map_toArray, List.map_cons, List.map_nil]); first | done | rfl | (simp only [List.length_drop, List.length_take]; rfl)) ?_; (with_reducible refine (pilcrowref17_Sniff.calls k a0 t323 _ A5.out).mono ?_); rintro e w11 ⟨rfl, hb⟩; refine ⟨_, rfl, ?_⟩; have n0_ := Aside0.mk (below_step (by repeat (first | (with_reducible first | exact HB.out | apply below_alloc | apply pw_below_drewN | apply below_drew1) | exact HB.out)) hb); clear HB; have HB := n0_; clear n0_; (try clear hb); (try clear hb2); (try clear hk); (try clear hi)))
        go_ret
        exact ⟨by first | rfl | (simp [errW_none, errW_some] <;> rfl) | (simp [*, errW_none, errW_some] <;> rfl), by repeat (first | (with_reducible first | exact HB.out | apply below_alloc | apply pw_below_drewN | apply below_drew1) | exact HB.out)⟩
    · rw [if_neg c6] at H
      have c6b0 : (t320 == t323) = false := beq_eq_false_iff_ne.mpr c6
      have c6b1 : (t320 != t323) = true := bne_iff_ne.mpr c6
      obtain rfl := Option.some.inj H
      go_enter Try.func4, Try.ntmps4
      go_wp2_with (first | ((with_reducible refine gate_callee (f := 8) rfl ?_); refine goesL_ (some 7) rfl rfl Try.func8 (by kernel_rfl) rfl #[] rfl (by (try simp only [List.map_toArray, List.map_cons, List.map_nil]); first | done | rfl | (simp only [List.length_drop, List.length_take]; rfl)) ?_; (with_reducible refine (pilcrowlaw17_awake.calls k  true _ A2.out).mono ?_); rintro e w' ⟨rfl, ⟨nd, rfl⟩⟩; refine ⟨_, rfl, ?_⟩) | ((with_reducible refine gate_callee (f := 11) rfl ?_); refine goesL_ (some 11) rfl rfl Try.func11 (by kernel_rfl) rfl #[.string a0] rfl (by (try simp only [List.map_toArray, List.map_cons, List.map_nil]); first | done | rfl | (simp only [List.length_drop, List.length_take]; rfl)) ?_; (with_reducible refine (sign_Sniff.calls k a0 t320 t321 t322 _ A4.out).mono ?_); rintro e w' ⟨rfl, ⟨nd, rfl⟩⟩; refine ⟨_, rfl, ?_⟩) | ((with_reducible refine gate_callee (f := 12) rfl ?_); refine goesL_ (some 16) rfl rfl Try.func12 (by kernel_rfl) rfl #[.string a0] rfl (by (try simp only [List.map_toArray, List.map_cons, List.map_nil]); first | done | rfl | (simp only [List.length_drop, List.length_take]; rfl)) ?_; (with_reducible refine (pilcrowref17_Sniff.calls k a0 t323 _ A5.out).mono ?_); rintro e w12 ⟨rfl, hb⟩; refine ⟨_, rfl, ?_⟩; have n0_ := Aside0.mk (below_step (by repeat (first | (with_reducible first | exact HB.out | apply below_alloc | apply pw_below_drewN | apply below_drew1) | exact HB.out)) hb); clear HB; have HB := n0_; clear n0_; (try clear hb); (try clear hb2); (try clear hk); (try clear hi)))
      go_ret
      exact ⟨by first | rfl | (simp [errW_none, errW_some] <;> rfl) | (simp [*, errW_none, errW_some] <;> rfl), by repeat (first | (with_reducible first | exact HB.out | apply below_alloc | apply pw_below_drewN | apply below_drew1) | exact HB.out)⟩
  · replace c3 := Bool.eq_false_iff.mpr c3
    subst c3
    have H1 : (some false) = some r := by rw [if_neg (show ¬ (false = true) by decide)] at H; exact H
    clear H
    have H := H1
    clear H1
    obtain rfl := Option.some.inj H
    go_enter Try.func4, Try.ntmps4
    go_wp2_with (first | ((with_reducible refine gate_callee (f := 8) rfl ?_); refine goesL_ (some 7) rfl rfl Try.func8 (by kernel_rfl) rfl #[] rfl (by (try simp only [List.map_toArray, List.map_cons, List.map_nil]); first | done | rfl | (simp only [List.length_drop, List.length_take]; rfl)) ?_; (with_reducible refine (pilcrowlaw17_awake.calls k  false _ A2.out).mono ?_); rintro e w' ⟨rfl, ⟨nd, rfl⟩⟩; refine ⟨_, rfl, ?_⟩))
    go_ret
    exact ⟨by first | rfl | (simp [errW_none, errW_some] <;> rfl) | (simp [*, errW_none, errW_some] <;> rfl), by repeat (first | (with_reducible first | exact HB.out | apply below_alloc | apply pw_below_drewN | apply below_drew1) | exact HB.out)⟩

/-- THE ONE PURE STATEMENT of pilcrowlaw17_SignSniffs: yours. -/
def pilcrowlaw17_SignSniffs.Pure : Prop := ∀ (a0 : ByteArray), a0.size ≤ 140737488351232 → ∃ k, pilcrowlaw17_SignSniffs.f k a0 = some true
theorem pilcrowlaw17_SignSniffs.walk (P : pilcrowlaw17_SignSniffs.Pure) (a0 : ByteArray) (w : World) (w0 : a0.size ≤ 140737488351232) :
    Calls Try.prog 4 #[.string a0] w fun e w' => e = .returned (.bool true) ∧ Below w.heap.size w w' := by
  obtain ⟨k, h⟩ := P a0 w0
  refine (pilcrowlaw17_SignSniffs.calls k a0 true w h).mono ?_
  rintro e w' ⟨rfl, hd⟩
  exact ⟨rfl, hd⟩

end Go.Proofs.Ytakjkgjbjannbaa.QSignSniffs
