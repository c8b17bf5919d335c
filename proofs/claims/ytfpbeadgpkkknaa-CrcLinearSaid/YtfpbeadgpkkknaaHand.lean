/- What the laws on sums reach: the sum of parts, whether bytes have a sum, and that the program is awake: contracts by hand, in the printed form. -/
import Derived.Below
import Derived.Deep.Draws
import Derived.Deep.AppendLies
import Derived.Maps.AppendAt
import Derived.OwnWalk
import Derived.Laws.BytesArg
import Derived.Laws.MakeOwn
import Derived.Laws.OwnMore
import Derived.Deep.OwnRows
import Derived.Tactics
import Derived.Lib.ConvBytes
import Derived.Laws.Slices
import Derived.WalkKit
import Derived.KernelRfl
import Derived.RowKit3
import Derived.Deep.LoopGhost
import Derived.Deep.QuietTactic
import Derived.BigQuiet
import Derived.WideLaws
import Derived.Deep.DeepCutAuto
import Derived.Deep.CutBlock
import Derived.Deep.RegionHeld3
import Derived.Laws.Rows
import Derived.Lib.AppendStr
import Derived.ArgAppend
import Derived.Laws.IdiomCopy
import Derived.OrdersHeld
import Derived.Laws.BitsLemmas
import Derived.RowKit
import Derived.Test.YtfpbeadgpkkknaaWWords
import Derived.Test.YtfpbeadgpkkknaaWLast
import Derived.Test.YtfpbeadgpkkknaaWTab
import Derived.Test.YtfpbeadgpkkknaaWFour
import Derived.Test.YtfpbeadgpkkknaaWQPut
import Derived.Test.YtfpbeadgpkkknaaWApart
import Derived.Test.YtfpbeadgpkkknaaWArr
import Derived.Test.YtfpbeadgpkkknaaWZeros
import Derived.Test.YtfpbeadgpkkknaaWFoot
import Derived.Test.YtfpbeadgpkkknaaWKept
import Derived.Test.YtfpbeadgpkkknaaWShare
import Derived.Test.YtfpbeadgpkkknaaWN
import Derived.Test.YtfpbeadgpkkknaaWFootNe
import Derived.Test.YtfpbeadgpkkknaaWAt
import Derived.Test.YtfpbeadgpkkknaaWEqStruct
import Derived.Test.YtfpbeadgpkkknaaWRepsOne
import Derived.Test.YtfpbeadgpkkknaaWInv
import Derived.Test.YtfpbeadgpkkknaaWInvWords
import Derived.Test.YtfpbeadgpkkknaaWGuard
import Derived.Test.YtfpbeadgpkkknaaWNEv
import Derived.Test.YtfpbeadgpkkknaaWMore
import Derived.Test.YtfpbeadgpkkknaaOf
namespace Go.Proofs.Ytfpbeadgpkkknaa.HandX
open Go.RowKit Go.Proofs.YtfpbeadgpkkknaaW.PrintWords Go.Proofs.YtfpbeadgpkkknaaW.PrintLast Go.Proofs.YtfpbeadgpkkknaaW.PrintMore
attribute [local go_sem] max2_int min2_int max_two min_two max_three min_three max_four min_four
set_option linter.unusedVariables false
set_option linter.unusedSimpArgs false
def errW : Option Int → Value
  | none => .nilIface
  | some c => .iface 0 (.int .i64 c)
theorem errW_none : errW none = .nilIface := rfl
theorem errW_some (c : Int) : errW (some c) = .iface 0 (.int .i64 c) := rfl

theorem info5 : (Try.prog.info? 5).map (fun i => (i.zero, i.size, i.bytes)) = some (some (.int .u8 0), 1, 1) := by kernel_rfl
-- the values' own types

/-! ### crc_Four: function 14 -/
def crc_Four.f (a0 : Int) : Option (ByteArray) := some (strOfNums (([(a0) % 256, (a0 / 256) % 256, (a0 / 65536) % 256, (a0 / 16777216) % 256] : List Int)))
set_option maxHeartbeats 8000000 in
set_option maxRecDepth 100000 in
theorem crc_Four.calls (a0 : Int) (r : ByteArray) (w : World) (h : crc_Four.f a0 = some r) :
    Calls Try.prog 14 #[.int .u32 a0] w fun e w' => e = .returned (.string r) ∧ Below w.heap.size w w' := by
  have HB := Aside0.mk (Below.refl w.heap.size w)
  have H : (some (strOfNums (([(a0) % 256, (a0 / 256) % 256, (a0 / 65536) % 256, (a0 / 16777216) % 256] : List Int)))) = some r := h
  clear h
  obtain ⟨y109, hy109⟩ : ∃ y_ : List Int, y_ = (([(a0) % 256, (a0 / 256) % 256, (a0 / 65536) % 256, (a0 / 16777216) % 256] : List Int)) := ⟨_, rfl⟩
  replace H : (some (strOfNums y109)) = some r := by first | (rw [hy109]; with_reducible exact H) | (have H2_ := (Option.bind_some _ _).symm.trans H; rw [hy109]; with_reducible exact H2_) | (have H2_ := (Option.bind_some _ _).symm.trans H; with_reducible exact H2_) | with_reducible exact H | (rw [hy109]; exact H) | exact H
  have Ny109 := Aside0.mk hy109
  clear hy109
  obtain rfl := Option.some.inj H
  go_enter Try.func14, Try.ntmps14
  go_wp2_with (first | ((with_reducible refine gate_dst (N := 14) rfl ?_); refine Kd.R_lit (Kd.int .u8) _ 5 ?hg (N := 14) ?hd (xs := ([(a0) % 256, (a0 / 256) % 256, (a0 / 65536) % 256, (a0 / 16777216) % 256] : List Int)) (inner := [.int .u8 ((a0) % 256), .int .u8 ((a0 / 256) % 256), .int .u8 ((a0 / 65536) % 256), .int .u8 ((a0 / 16777216) % 256)]) (ok := fun _ => True) (okp := fun _ => True) ?hr ?hp (fun _ hk => hk) trivial (Below.refl _ _) (Nat.le_refl _) (by simp) ?_; (case hd => rfl); (case hg => rfl); (case hr => first | (go_simp; done) | (go_simp; rfl)); (case hp => exact (Reps.one (show Kd.M (Kd.int .u8) _ _ _ ((a0) % 256) [.int .u8 ((a0) % 256)] from rfl) (Reps.one (show Kd.M (Kd.int .u8) _ _ _ ((a0 / 256) % 256) [.int .u8 ((a0 / 256) % 256)] from rfl) (Reps.one (show Kd.M (Kd.int .u8) _ _ _ ((a0 / 65536) % 256) [.int .u8 ((a0 / 65536) % 256)] from rfl) (Reps.one (show Kd.M (Kd.int .u8) _ _ _ ((a0 / 16777216) % 256) [.int .u8 ((a0 / 16777216) % 256)] from rfl) (Reps.none _ _)))))); intro v110 w2 ho3 hb hg_ hnew_; clear hg_ hnew_; (first | rw [← Ny109.out] at ho3 | (simp only [Int.reduceToNat] at ho3; rw [← Ny109.out] at ho3)); have n0_ := Aside0.mk (Kd.R_lower ho3 (below_size (by repeat (first | (with_reducible first | exact HB.out | apply below_alloc | apply pw_below_drewN | apply below_drew1) | exact HB.out)))); have n1_ := Aside0.mk (below_step (by repeat (first | (with_reducible first | exact HB.out | apply below_alloc | apply pw_below_drewN | apply below_drew1) | exact HB.out)) hb); clear HB; have HO111 := n0_; have HB := n1_; clear n0_ n1_; clear hb ho3; have hcv4 := own_string (P := Try.prog) Try.underlying38 Try.underlying5 Try.underlying9 (Kd.own_of_R HO111.out)))
  go_ret
  exact ⟨by first | rfl | (simp [errW_none, errW_some] <;> rfl) | (simp [*, errW_none, errW_some] <;> rfl), by repeat (first | (with_reducible first | exact HB.out | apply below_alloc | apply pw_below_drewN | apply below_drew1) | exact HB.out)⟩

/-! ### crc_Number: function 16 -/
def crc_Number.f (a0 : ByteArray) : Option (Int) := if (a0.size : Int) < 4 then (some 0) else (if 0 < (a0.size : Int) then (if 1 < (a0.size : Int) then (if 2 < (a0.size : Int) then (if 3 < (a0.size : Int) then (some (Go.bits .or .u32 (Go.bits .or .u32 (Go.bits .or .u32 ((bt a0 0) % 4294967296) ((((bt a0 1) % 4294967296) * 256) % 4294967296)) ((((bt a0 2) % 4294967296) * 65536) % 4294967296)) ((((bt a0 3) % 4294967296) * 16777216) % 4294967296))) else (none)) else (none)) else (none)) else (none))
set_option maxHeartbeats 8000000 in
set_option maxRecDepth 100000 in
theorem crc_Number.calls (a0 : ByteArray) (r : Int) (w : World) (h : crc_Number.f a0 = some r) :
    Calls Try.prog 16 #[.string a0] w fun e w' => e = .returned (.int .u32 r) ∧ Drawn0 w w' := by
  have H : (if (a0.size : Int) < 4 then (some 0) else (if 0 < (a0.size : Int) then (if 1 < (a0.size : Int) then (if 2 < (a0.size : Int) then (if 3 < (a0.size : Int) then (some (Go.bits .or .u32 (Go.bits .or .u32 (Go.bits .or .u32 ((bt a0 0) % 4294967296) ((((bt a0 1) % 4294967296) * 256) % 4294967296)) ((((bt a0 2) % 4294967296) * 65536) % 4294967296)) ((((bt a0 3) % 4294967296) * 16777216) % 4294967296))) else (none)) else (none)) else (none)) else (none))) = some r := h
  clear h
  by_cases c2 : (a0.size : Int) < 4
  · rw [if_pos c2] at H
    have c2b0 : decide ((a0.size : Int) < 4) = true := decide_eq_true c2
    have c2b1 : decide (a0.size < 4) = true := decide_eq_true (by omega)
    clear c2
    obtain rfl := Option.some.inj H
    go_enter Try.func16, Try.ntmps16
    go_wp2
    repeat (go_quiet (fail); try go_wp2)
    go_ret
    exact ⟨by first | rfl | (simp; done) | (simp [*]; done), by repeat (first | exact Drawn0.refl _ | apply Drawn0.step)⟩
  · rw [if_neg c2] at H
    have c2b0 : decide ((a0.size : Int) < 4) = false := decide_eq_false c2
    have c2b1 : decide (a0.size < 4) = false := decide_eq_false (by omega)
    clear c2
    by_cases c3 : 0 < (a0.size : Int)
    · rw [if_pos c3] at H
      have c3b0 : decide (0 < (a0.size : Int)) = true := decide_eq_true c3
      have c3b1 : decide (0 < a0.size) = true := decide_eq_true (by omega)
      clear c3
      by_cases c5 : 1 < (a0.size : Int)
      · rw [if_pos c5] at H
        have c5b0 : decide (1 < (a0.size : Int)) = true := decide_eq_true c5
        have c5b1 : decide (1 < a0.size) = true := decide_eq_true (by omega)
        clear c5
        by_cases c7 : 2 < (a0.size : Int)
        · rw [if_pos c7] at H
          have c7b0 : decide (2 < (a0.size : Int)) = true := decide_eq_true c7
          have c7b1 : decide (2 < a0.size) = true := decide_eq_true (by omega)
          clear c7
          by_cases c9 : 3 < (a0.size : Int)
          · rw [if_pos c9] at H
            have c9b0 : decide (3 < (a0.size : Int)) = true := decide_eq_true c9
            have c9b1 : decide (3 < a0.size) = true := decide_eq_true (by omega)
            clear c9
            obtain rfl := Option.some.inj H
            have p4 : 0 ≤ (0 : Int) := (by omega)
            have q4 : 0 < a0.size := (by have : (0 : Int) < (a0.size : Int) := of_decide_eq_true (by first | (with_reducible assumption) | assumption); omega)
            have hx4 : ∀ h : 0 < a0.size, ((a0[0]'h).toNat : Int) = bt a0 0 := bt_at a0 0
            clear p4
            have qi4 : (0 < (a0.size : Int)) = True := eq_true (of_decide_eq_true (by first | (with_reducible assumption) | assumption))
            replace q4 := eq_true q4
            have p6 : 0 ≤ (1 : Int) := (by omega)
            have q6 : 1 < a0.size := (by have : (1 : Int) < (a0.size : Int) := of_decide_eq_true (by first | (with_reducible assumption) | assumption); omega)
            have hx6 : ∀ h : 1 < a0.size, ((a0[1]'h).toNat : Int) = bt a0 1 := bt_at a0 1
            clear p6
            have qi6 : (1 < (a0.size : Int)) = True := eq_true (of_decide_eq_true (by first | (with_reducible assumption) | assumption))
            replace q6 := eq_true q6
            have p8 : 0 ≤ (2 : Int) := (by omega)
            have q8 : 2 < a0.size := (by have : (2 : Int) < (a0.size : Int) := of_decide_eq_true (by first | (with_reducible assumption) | assumption); omega)
            have hx8 : ∀ h : 2 < a0.size, ((a0[2]'h).toNat : Int) = bt a0 2 := bt_at a0 2
            clear p8
            have qi8 : (2 < (a0.size : Int)) = True := eq_true (of_decide_eq_true (by first | (with_reducible assumption) | assumption))
            replace q8 := eq_true q8
            have p10 : 0 ≤ (3 : Int) := (by omega)
            have q10 : 3 < a0.size := (by have : (3 : Int) < (a0.size : Int) := of_decide_eq_true (by first | (with_reducible assumption) | assumption); omega)
            have hx10 : ∀ h : 3 < a0.size, ((a0[3]'h).toNat : Int) = bt a0 3 := bt_at a0 3
            clear p10
            have qi10 : (3 < (a0.size : Int)) = True := eq_true (of_decide_eq_true (by first | (with_reducible assumption) | assumption))
            replace q10 := eq_true q10
            go_enter Try.func16, Try.ntmps16
            go_wp2
            repeat (go_quiet (fail); try go_wp2)
            go_ret
            exact ⟨by first | rfl | (simp; done) | (simp [*]; done), by repeat (first | exact Drawn0.refl _ | apply Drawn0.step)⟩
          · rw [if_neg c9] at H
            exact absurd H (by simp)
        · rw [if_neg c7] at H
          exact absurd H (by simp)
      · rw [if_neg c5] at H
        exact absurd H (by simp)
    · rw [if_neg c3] at H
      exact absurd H (by simp)

-- NOT PRINTED: function 8 (pilcrowlaw16_awake)

end Go.Proofs.Ytfpbeadgpkkknaa.HandX
namespace Go.Proofs.Ytfpbeadgpkkknaa.Hand
open Go.RowKit Go.Proofs.YtfpbeadgpkkknaaW.PrintWords Go.Proofs.Ytfpbeadgpkkknaa.Crc
set_option linter.unusedVariables false
def crc_Of.f (l : List ByteArray) : Option Int := if l.all (fun s => decide (s.size ≤ maxLen)) then some (n32 (sumB 0#32 l)) else none
theorem crc_Of.calls (A0 : Option Addr) (c0 : Nat) (l0 : List ByteArray) (r : Int) (w : World) (hr0 : Kd.C Kd.string w A0 l0.length l0) (hc0 : l0.length ≤ c0) (h : crc_Of.f l0 = some r) :
    Calls Try.prog 10 #[.slice A0 l0.length c0] w fun e w' => e = .returned (.int .u32 r) ∧ Below w.heap.size w w' := by
  unfold crc_Of.f at h
  split at h
  · rename_i hs
    injection h with h
    subst h
    exact of_calls A0 c0 l0 w hc0 hr0.2.1 hr0 (fun s hs' => by have := List.all_eq_true.1 hs s hs'; simpa using this)
  · cases h
theorem one_row (w : World) (s : ByteArray) (t : TypeId) : Kd.C Kd.string (w.alloc (.cells #[.string s] t)) (some ⟨w.heap.size, 0, none⟩) 1 [s] := by
  refine ⟨rfl, by decide, fun _ => ⟨_, rfl, fun j p hj => ?_⟩⟩
  match j, hj with
  | 0, hj =>
    simp at hj
    subst hj
    refine ⟨[.string s], rfl, rfl, fun i u hu => ?_⟩
    match i, hu with
    | 0, hu => simp at hu; subst hu; simp [Addr.add, Kd.string, Kd.scalar]
theorem of_one {s : ByteArray} (h : s.size ≤ maxLen) : crc_Of.f [s] = some (n32 (addB 0#32 s)) := by
  unfold crc_Of.f
  rw [if_pos (by simpa using h)]; rfl
theorem is_calls (s : ByteArray) (x : Int) (w : World) (h : s.size ≤ maxLen) :
    Calls Try.prog 11 #[.string s, .int .u32 x] w fun e w' => e = .returned (.bool (n32 (addB 0#32 s) == x)) ∧ Below w.heap.size w w' := by
  go_enter Try.func11, Try.ntmps11
  go_wp2_with fail
  refine (crc_Of.calls _ _ [s] _ _ (one_row w s 9) (Nat.le_refl _) (of_one h)).mono ?_
  rintro e w1 ⟨rfl, hB⟩
  go_wp2_with fail
  go_ret
  exact ⟨rfl, below_then (below_alloc (Below.refl _ _) _) (by simp) hB⟩
theorem str_eq (a b : ByteArray) (h : a.data.toList = b.data.toList) : a = b := by
  cases a; cases b; simp_all
theorem size_ok (s : ByteArray) (h : s.size ≤ 100) : s.size ≤ maxLen := by unfold maxLen; omega
def s1234 : ByteArray := { data := #[49, 50, 51, 52] }
def s56789 : ByteArray := { data := #[53, 54, 55, 56, 57] }
def sAll : ByteArray := { data := #[49, 50, 51, 52, 53, 54, 55, 56, 57] }
theorem two_adds : addB (addB 0#32 s1234) s56789 = 3421780262#32 := by decide +kernel
theorem one_add : addB 0#32 sAll = 3421780262#32 := by decide +kernel
theorem no_add : addB 0#32 { data := #[] } = 0#32 := by decide +kernel
theorem a_add : (addB 0#32 { data := #[97] } == 0#32) = false := by decide +kernel
theorem no_row (w : World) : Kd.C Kd.string w none 0 [] := ⟨rfl, by decide, fun h => absurd h (by decide)⟩
theorem of_none : crc_Of.f [] = some 0 := by decide +kernel
theorem four_one : HandX.crc_Four.f 1 = some { data := #[1, 0, 0, 0] } := by decide +kernel
theorem number_256 : HandX.crc_Number.f { data := #[0, 1, 0, 0, 120] } = some 256 := by decide +kernel
def pilcrowlaw16_awake.f : Option Bool := some true
/-- More bytes, in a world that is not written out. -/
theorem add_step {w0 w : World} {g : Nat} {v v' : BitVec 32} {s : ByteArray} (hs : s.size ≤ maxLen) (hv : addB v s = v') (hB : Below w0.heap.size w0 w) (hg : w0.heap.size ≤ g) (hz : g < w.heap.size) (hc : w.cell? ⟨g, 0, none⟩ = some (.int .u32 (n32 v))) (hf : w.frozen? ⟨g, 0, none⟩ = false) :
    Calls Try.prog 12 #[.pointer (some ⟨g, 0, none⟩), .string s] w fun e w' => e = .returned (.tuple #[]) ∧ Below w0.heap.size w0 w' ∧ g < w'.heap.size ∧ w'.cell? ⟨g, 0, none⟩ = some (.int .u32 (n32 v')) ∧ w'.frozen? ⟨g, 0, none⟩ = false := by
  refine (add_calls g v s w hs hc hf).mono ?_
  rintro e w' ⟨rfl, rfl⟩
  rw [hv]
  exact ⟨rfl, hB.setCell hg _, by simpa using hz, World.cell?_setCell_same _ _ _ hc, by simpa using hf⟩
set_option maxHeartbeats 1000000 in
theorem pilcrowlaw16_awake.calls (r : Bool) (w : World) (h : pilcrowlaw16_awake.f = some r) :
    Calls Try.prog 8 #[] w fun e w' => e = .returned (.bool r) ∧ Below w.heap.size w w' := by
  obtain rfl : true = r := by injection h
  clear h
  go_enter Try.func8, Try.ntmps8
  go_wp2_with fail
  refine (add_step (w0 := w) (g := w.heap.size) (v := 0#32) (size_ok s1234 (by decide)) rfl (below_alloc (Below.refl _ _) _) (Nat.le_refl _) ?h1 ?h2 ?h3).mono ?_
  case h1 => simp
  case h2 => simp [n32]
  case h3 => simp
  rintro e w1 ⟨rfl, hB, hz, hc, hf⟩
  have B1 := Aside0.mk hB
  clear hB
  go_wp2_with fail
  refine (add_step (w0 := w) (size_ok s56789 (by decide)) two_adds B1.out (Nat.le_refl _) hz hc hf).mono ?_
  clear hz hc hf B1
  rintro e w1 ⟨rfl, hB, hz, hc, hf⟩
  have B1 := Aside0.mk hB
  clear hB
  go_wp2_with fail
  refine (crc_Of.calls _ _ [sAll] _ _ (one_row w1 sAll 9) (Nat.le_refl _) (of_one (size_ok _ (by decide)))).mono ?_
  rintro e w2 ⟨rfl, hB⟩
  rw [one_add]
  have B2 := Aside0.mk (below_then (below_alloc B1.out (.cells #[.string sAll] 9)) (by simp; omega) hB)
  have hc2 : w2.cell? ⟨w.heap.size, 0, none⟩ = some (.int .u32 (n32 3421780262#32)) := pw_cell_below hB (by rw [World.cell?_alloc_lt _ _ _ hz]; exact hc)
  have hz2 : w.heap.size < w2.heap.size := by have := hB.size; simp at this; omega
  clear hB hc hz hf
  go_wp2_with fail
  refine (crc_Of.calls none 0 [] 0 _ (no_row _) (Nat.le_refl _) of_none).mono ?_
  rintro e w3 ⟨rfl, hB⟩
  have B3 := Aside0.mk (below_then B2.out (Nat.le_of_lt hz2) hB)
  have hc3 : w3.cell? ⟨w.heap.size, 0, none⟩ = some (.int .u32 (n32 3421780262#32)) := pw_cell_below hB hc2
  clear hB hc2 hz2
  go_wp2_with fail
  refine (now_calls _ _ _ hc3).mono ?_
  rintro e w4 ⟨rfl, rfl⟩
  clear hc3
  go_wp2_with fail
  refine (HandX.crc_Four.calls 1 _ w3 four_one).mono ?_
  rintro e w4 ⟨rfl, hB⟩
  have B4 := Aside0.mk (below_then B3.out B3.out.size hB)
  clear hB
  go_wp2_with fail
  refine (HandX.crc_Number.calls _ _ w4 number_256).mono ?_
  rintro e w5 ⟨rfl, ⟨n5, rfl⟩⟩
  go_wp2_with fail
  refine (is_calls { data := #[] } 0 _ (size_ok _ (by decide))).mono ?_
  rintro e w6 ⟨rfl, hB⟩
  rw [no_add]
  have B6 := Aside0.mk (below_then (pw_below_drewN B4.out n5) (pw_below_drewN B4.out n5).size hB)
  clear hB
  go_wp2_with fail
  refine (is_calls { data := #[97] } 0 _ (size_ok _ (by decide))).mono ?_
  rintro e w7 ⟨rfl, hB⟩
  have B7 := Aside0.mk (below_then B6.out B6.out.size hB)
  clear hB
  rw [show (n32 (addB 0#32 { data := #[97] }) == 0) = false from by decide +kernel]
  go_wp2_with fail
  go_ret
  exact ⟨rfl, B7.out⟩
end Go.Proofs.Ytfpbeadgpkkknaa.Hand
