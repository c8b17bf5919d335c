/- The answers that the document fixes. The reference's trail bytes; whether a byte stands for nothing but itself. What the laws of the whole program call beside it: the first that is no scalar; few scalars; the bytes of scalars. -/
import Derived.Test.YtooiooledeblmaaGreatM7
import Derived.Test.YtooiooledeblmaaGreatWEqStruct
section
namespace Go.Proofs.YtooiooledeblmaaGreat.Dcd
open Go.RowKit Go.Proofs.YtooiooledeblmaaGreat.Win Go.Proofs.YtooiooledeblmaaGreat.Stp Go.Proofs.YtooiooledeblmaaGreat.Mach Go.Proofs.YtooiooledeblmaaGreat.Dec Go.Proofs.YtooiooledeblmaaGreatW.PrintMore Go.Proofs.YtooiooledeblmaaGreat.Out Go.Proofs.YtooiooledeblmaaGreat.Lst
set_option linter.unusedVariables false
set_option linter.unusedSimpArgs false
theorem fld4 (w : World) : (Instr.field 50 (.agg #[.int .i64 1, .int .i64 1, .int .i64 1, .int .i64 0, .int .i64 1, .int .i64 0, .int .i64 0, .int .i64 0, .int .i64 0, .int .u32 65, .int .u32 65]) 4).run Tryz.prog w = .ok (.int .i64 1) w := by kernel_rfl
theorem fail_eq (w : World) : (binOp .eql 39 (.agg #[.int .i64 0, .int .i64 0]) (.agg #[.int .i64 0, .int .i64 0])).run Tryz.prog w = .ok (.bool true) w := by kernel_rfl
theorem lst_one {w : World} {x : Int} : ∀ wx, Below (w.alloc (.cells #[.int .u32 x] 31)).heap.size (w.alloc (.cells #[.int .u32 x] 31)) wx → Lst wx .u32 (some ⟨w.heap.size, 0, none⟩) [x] := fun wx hx => lst_new hx
def FailAt (w : World) (r : Nat) : Prop := w.heap[r]? = some (.cells #[.int .i64 0, .int .i64 0] 39 (0, 0))
theorem FailAt.below {w w' : World} {r : Nat} (h : FailAt w r) (hb : Below w.heap.size w w') : FailAt w' r := (hb.block r (Array.getElem?_eq_some_iff.1 h).1).trans h
theorem FailAt.c0 {w : World} {r : Nat} (h : FailAt w r) : w.cell? ⟨r, 0, none⟩ = some (.int .i64 0) := by rw [cell_of h]; rfl
theorem FailAt.c1 {w : World} {r : Nat} (h : FailAt w r) : w.cell? ⟨r, 1, none⟩ = some (.int .i64 0) := by rw [cell_of h]; rfl
theorem FailAt.lt {w : World} {r : Nat} (h : FailAt w r) : r < w.heap.size := (Array.getElem?_eq_some_iff.1 h).1
theorem FailAt.new (w : World) : FailAt (w.alloc (.cells #[.int .i64 0, .int .i64 0] 39)) w.heap.size := heap_alloc_new _ _
theorem bel_alloc {w : World} (o : Obj) : Below w.heap.size w (w.alloc o) := (Below.refl _ w).alloc (Nat.le_refl _) o
def LivePost (w : World) (e : Ending) (w' : World) : Prop := e = .returned (.bool true) ∧ Below w.heap.size w w'
set_option maxRecDepth 100000 in
set_option maxHeartbeats 8000000 in
theorem live_calls (w : World) : Calls Tryz.prog 8 #[] w (LivePost w) := by
  have hE8 := fun (w0 : World) (r : Nat) (hL : ∀ wx, Below w0.heap.size w0 wx → Lst wx .u32 (some ⟨r, 0, none⟩) [65279]) => encode_all (c := 8) (.inr rfl) (l := [65279]) (cap := 1) hL (by decide +kernel) (by decide) (by decide)
  rw [show encS 8 [65279] = [251, 238, 40] from by decide +kernel] at hE8
  unfold EncPost at hE8
  rw [show strOfNums [251, 238, 40] = ⟨#[251, 238, 40]⟩ from rfl] at hE8
  have hTx := text_live
  unfold EncPost at hTx
  rw [show strOfNums [193] = ⟨#[193]⟩ from rfl] at hTx
  have hPk := fun (w0 : World) (r : Nat) (hL : ∀ wx, Below w0.heap.size w0 wx → Lst wx .u32 (some ⟨r, 0, none⟩) [65]) => pack_calls (encOK_all (c := 1) (.inl (by decide))) (n := 1) (cap := 1) (l := [65]) hL (by unfold Scal; decide +kernel) (by decide) (fun h => nomatch h) (Nat.le_refl 1) (by decide)
  rw [show packLen (encS 1) 1 [65] = 53 from by decide +kernel] at hPk
  have HPk := Lib.hid hPk
  have HE8 := Lib.hid hE8
  have HTx := Lib.hid hTx
  clear hE8 hTx hPk
  go_enter Tryz.func8, Tryz.ntmps8
  go_wp2_with fail
  refine (HE8.out _ _ lst_one).mono ?_
  rintro e w1 ⟨rfl, hb1⟩
  obtain ⟨r1, hr1⟩ : ∃ r, r = w1.heap.size := ⟨_, rfl⟩
  have hf1 : FailAt (w1.alloc (.cells #[.int .i64 0, .int .i64 0] 39)) r1 := by rw [hr1]; exact FailAt.new _
  have hb1' : Below w.heap.size w (w1.alloc (.cells #[.int .i64 0, .int .i64 0] 39)) := ((bel_alloc _).trans (Below.mono hb1 (by simp))).trans (Below.mono (bel_alloc _) (by have := hb1.size; simp at this; omega))
  have HF1 := Lib.hid hf1
  have HB1 := Lib.hid hb1'
  clear hb1 hb1' hf1
  go_upto_region 2 with fail
  rw [← hr1]
  clear hr1
  generalize w1.alloc (.cells #[.int .i64 0, .int .i64 0] 39) = w2 at HF1 HB1 ⊢
  go_wp2_with fail
  refine (decode_live _).mono ?_
  rintro e w3 ⟨r, c, rfl, ho3, hb3⟩
  have hlt1 := HF1.out.lt
  have hL3 : ∀ wx, Below w3.heap.size w3 wx → Lst wx .u32 (some ⟨r, 0, none⟩) [1052] := fun wx hx => lst_own ho3 hx
  have hB3 := HB1.out.trans (Below.mono hb3 HB1.out.size)
  have hf13 := HF1.out.below hb3
  obtain ⟨r2, hr2⟩ : ∃ r, r = w3.heap.size := ⟨_, rfl⟩
  have hba : Below w3.heap.size w3 (w3.alloc (.cells #[.int .i64 0, .int .i64 0] 39)) := bel_alloc _
  have hf2 : FailAt (w3.alloc (.cells #[.int .i64 0, .int .i64 0] 39)) r2 := by rw [hr2]; exact FailAt.new _
  have HF2 := Lib.hid hf2
  have HF12 := Lib.hid (hf13.below hba)
  have HL2 := Lib.hid (show ∀ wx, Below (w3.alloc (.cells #[.int .i64 0, .int .i64 0] 39)).heap.size (w3.alloc (.cells #[.int .i64 0, .int .i64 0] 39)) wx → Lst wx .u32 (some ⟨r, 0, none⟩) [1052] from fun wx hx => hL3 wx (hba.trans (Below.mono hx hba.size)))
  have HB2 := Lib.hid (hB3.trans (Below.mono hba hB3.size))
  clear hlt1 hL3 hB3 hf13 hba hf2 ho3 hb3 HF1 HB1
  go_upto_region 3 with fail
  rw [← hr2]
  clear hr2
  generalize w3.alloc (.cells #[.int .i64 0, .int .i64 0] 39) = w4 at HF2 HF12 HL2 HB2 ⊢
  go_wp2_with fail
  refine (HTx.out _).mono ?_
  rintro e w5 ⟨rfl, hb5⟩
  have hB5 := HB2.out.trans (Below.mono hb5 HB2.out.size)
  have hf15 := HF12.out.below hb5
  have hf25 := HF2.out.below hb5
  obtain ⟨r3, hr3⟩ : ∃ r, r = w5.heap.size := ⟨_, rfl⟩
  have hba : Below w5.heap.size w5 (w5.alloc (.cells #[.int .i64 0, .int .i64 0] 39)) := bel_alloc _
  have hf3 : FailAt (w5.alloc (.cells #[.int .i64 0, .int .i64 0] 39)) r3 := by rw [hr3]; exact FailAt.new _
  have HF3 := Lib.hid hf3
  have HF13 := Lib.hid (hf15.below hba)
  have HF23 := Lib.hid (hf25.below hba)
  have HL3 := Lib.hid (show ∀ wx, Below (w5.alloc (.cells #[.int .i64 0, .int .i64 0] 39)).heap.size (w5.alloc (.cells #[.int .i64 0, .int .i64 0] 39)) wx → Lst wx .u32 (some ⟨r, 0, none⟩) [1052] from fun wx hx => HL2.out wx (hb5.trans (Below.mono (hba.trans (Below.mono hx hba.size)) hb5.size)))
  have HB3 := Lib.hid (hB5.trans (Below.mono hba hB5.size))
  clear hB5 hf15 hf25 hba hf3 hb5 HF2 HF12 HL2 HB2
  go_upto_region 4 with fail
  rw [← hr3]
  clear hr3
  generalize w5.alloc (.cells #[.int .i64 0, .int .i64 0] 39) = w6 at HF3 HF13 HF23 HL3 HB3 ⊢
  go_wp2_with fail
  refine (HPk.out _ _ lst_one).mono ?_
  rintro e w7 ⟨⟨s, rfl, hs⟩, hb7⟩
  have hb7 := (bel_alloc _).trans (Below.mono hb7 (by simp))
  have hB7 := HB3.out.trans (Below.mono hb7 HB3.out.size)
  have hf17 := HF13.out.below hb7
  have hf27 := HF23.out.below hb7
  have hf37 := HF3.out.below hb7
  obtain ⟨r4, hr4⟩ : ∃ r, r = w7.heap.size := ⟨_, rfl⟩
  have hba : Below w7.heap.size w7 (w7.alloc (.cells #[.int .i64 0, .int .i64 0] 39)) := bel_alloc _
  have hf4 : FailAt (w7.alloc (.cells #[.int .i64 0, .int .i64 0] 39)) r4 := by rw [hr4]; exact FailAt.new _
  have HF4 := Lib.hid hf4
  have HF14 := Lib.hid (hf17.below hba)
  have HF24 := Lib.hid (hf27.below hba)
  have HF34 := Lib.hid (hf37.below hba)
  have HL4 := Lib.hid (show ∀ wx, Below (w7.alloc (.cells #[.int .i64 0, .int .i64 0] 39)).heap.size (w7.alloc (.cells #[.int .i64 0, .int .i64 0] 39)) wx → Lst wx .u32 (some ⟨r, 0, none⟩) [1052] from fun wx hx => HL3.out wx (hb7.trans (Below.mono (hba.trans (Below.mono hx hba.size)) hb7.size)))
  have HB4 := Lib.hid (hB7.trans (Below.mono hba hB7.size))
  clear hB7 hf17 hf27 hf37 hba hf4 hb7 HF3 HF13 HF23 HL3 HB3
  go_upto_region 5 with fail
  rw [← hr4]
  clear hr4
  generalize w7.alloc (.cells #[.int .i64 0, .int .i64 0] 39) = w8 at HF4 HF14 HF24 HF34 HL4 HB4 ⊢
  have c10 := HF14.out.c0
  have c11 := HF14.out.c1
  have c20 := HF24.out.c0
  have c21 := HF24.out.c1
  have c30 := HF34.out.c0
  have c31 := HF34.out.c1
  have c40 := HF4.out.c0
  have c41 := HF4.out.c1
  have hfe := fail_eq w8
  go_wp2_with fail
  have hba : Below w8.heap.size w8 (w8.alloc (.cells #[.int .u32 1052] 31)) := bel_alloc _
  refine (same_calls (xs := [1052]) (ys := [1052]) (c := c) (d := 1) (HL4.out _ hba) (lst_one _ (Below.refl _ _)) (by decide) (by decide)).mono ?_
  rintro e w9 ⟨rfl, hd⟩
  have hb9 : Below w8.heap.size w8 w9 := hba.trans (hd.below _)
  have k20 := (HF24.out.below hb9).c0
  have k21 := (HF24.out.below hb9).c1
  have k30 := (HF34.out.below hb9).c0
  have k31 := (HF34.out.below hb9).c1
  have k40 := (HF4.out.below hb9).c0
  have k41 := (HF4.out.below hb9).c1
  have hfe := fail_eq w9
  have HB9 := Lib.hid (HB4.out.trans (Below.mono hb9 HB4.out.size))
  have hsz : ((s.size : Int) == 53) = true := by rw [hs]; rfl
  rw [show decide (([1052] : List Int) = [1052]) = true from rfl]
  clear c10 c11 c20 c21 c30 c31 c40 c41 hb9 hd hba HB4 HL4 HF4 HF14 HF24 HF34
  go_wp2_with fail
  have htl := tally_live w9.heap.size (w9.alloc (.cells #[.int .u32 65] 31)) (by rw [cell_of (heap_alloc_new _ _)]; rfl)
  unfold tallyV at htl
  refine htl.mono ?_
  rintro e w10 ⟨rfl, hb10⟩
  have HB10 := Lib.hid (HB9.out.trans (Below.mono ((bel_alloc _).trans (Below.mono hb10 (by simp))) HB9.out.size))
  clear hb10 htl
  have hf4 := fld4 w10
  go_wp2_with fail
  go_ret
  exact ⟨rfl, HB10.out⟩
end Go.Proofs.YtooiooledeblmaaGreat.Dcd
end
section
namespace Go.Proofs.YtooiooledeblmaaGreat.Dcd
open Go.RowKit Go.Proofs.YtooiooledeblmaaGreat.Win Go.Proofs.YtooiooledeblmaaGreat.Stp Go.Proofs.YtooiooledeblmaaGreat.Out Go.Proofs.YtooiooledeblmaaGreat.Lst
set_option linter.unusedVariables false
set_option linter.unusedSimpArgs false
theorem info_b : (Tryz.prog.info? 5).map (fun i => (i.zero, i.size, i.bytes)) = some (some (.int .u8 0), 1, 1) := by kernel_rfl
def u8s (xs : List Int) : List Value := xs.map fun x => .int .u8 x
theorem u8s_length (xs : List Int) : (u8s xs).length = xs.length := by simp [u8s]
theorem u8s_append (xs ys : List Int) : u8s (xs ++ ys) = u8s xs ++ u8s ys := by simp [u8s]
theorem lst_u8 {w : World} {base n : Nat} {A : Option Addr} {c : Nat} {xs : List Int} (h : w.ownsRow base 5 1 (.slice A n c) n (u8s xs)) : Lst w .u8 A xs := fun j hj => by
  have hn : n = xs.length := by have := h.1; rw [u8s_length] at this; omega
  subst hn
  obtain ⟨r, c', hv, _, _⟩ := h.form (by omega)
  injection hv with hA _ _
  subst hA
  have hcells := h.cells (g := r) rfl
  refine ⟨_, rfl, hcells j _ ?_⟩
  unfold u8s
  rw [List.getElem?_map, List.getElem?_eq_getElem hj, List.getD_eq_getElem?_getD, List.getElem?_eq_getElem hj]
  rfl
set_option maxRecDepth 100000 in
/-- append of one byte that lies in a block of its own. -/
theorem app_u8 {P : Program} (hP : P = Tryz.prog) {w : World} {ops : Array Oper} {rest : List Oper} {o : Oper} {a : Act} {Q : Exit → Act → World → Prop} (hgd : o.guard = none) (s x : Operand)
    (ho : o.op = .call { callee := .builtin .append, args := #[s, x], argTypes := #[68, 68] })
    (base : Nat) (v : Value) (xs : List Int) (hs : a.eval s = v) (hown : w.ownsRow base 5 1 v xs.length (u8s xs))
    (r : Nat) (y : Int) (hx : a.eval x = .slice (some ⟨r, 0, none⟩) 1 1) (hL : w.cell? ⟨r, 0, none⟩ = some (.int .u8 y))
    (h63 : xs.length ≤ 1000000) (hbase : base ≤ w.heap.size)
    (h : ∀ A' c' w', w'.ownsRow base 5 1 (.slice A' (xs ++ [y]).length c') (xs ++ [y]).length (u8s (xs ++ [y])) → w.grownBy w' v.ownBlock → wpList P ops Q rest (a.put o.dst (.slice A' (xs ++ [y]).length c')) w') : wpList P ops Q (o :: rest) a w := by
  subst hP
  obtain ⟨i0, hi, hz0, hz1, hz2⟩ := info_parts info_b
  refine wpList_append_own w hgd s x 68 ho base 5 i0 (.int .u8 0) 1 1 Tryz.underlying68 hi hz0 hz1 hz2 rfl (by decide) v xs.length (u8s xs) hs hown ⟨r, 0, none⟩ 1 1 [.int .u8 y] hx rfl ?_ ?_ (by unfold maxLen; omega) (by omega) hbase (fun v' w' h1 h2 _ => ?_)
  · intro j u hu
    match j, hu with
    | 0, hu => simp at hu; subst hu; exact hL
  · intro u hu
    simp at hu
    subst hu
    rfl
  · rw [show [Value.int .u8 y] = u8s [y] from rfl, ← u8s_append] at h1
    obtain ⟨A', c', rfl⟩ := owns_form h1
    have hl : (xs ++ [y]).length = xs.length + 1 := by simp
    have := h A' c' w'
    rw [hl] at this
    exact this h1 h2
def trB (n : Int) : Bool := decide (n ≤ 6) || (decide (16 ≤ n) && decide (n ≤ 25)) || (decide (28 ≤ n) && decide (n ≤ 31)) || decide (33 ≤ n)
/-- The trail bytes below n, from 1 on. -/
def trL : Nat → List Int
  | 0 => []
  | n + 1 => if n = 0 then [] else trL n ++ if trB n = true then [(n : Int)] else []
def TR : List Int := trL 256
theorem trL_le : ∀ n, (trL n).length ≤ n
  | 0 => Nat.le_refl _
  | n + 1 => by
    have := trL_le n
    unfold trL
    split
    · simp
    · rw [List.length_append]
      split <;> simp <;> omega
theorem trL_succ {n : Nat} (h : 1 ≤ n) : trL (n + 1) = trL n ++ if trB n = true then [(n : Int)] else [] := by
  rw [trL, if_neg (by omega)]
def TrailsPost (w : World) (e : Ending) (w' : World) : Prop := ∃ A c, e = .returned (.slice A TR.length c) ∧ w'.ownsRow w.heap.size 5 1 (.slice A TR.length c) TR.length (u8s TR) ∧ Below w.heap.size w w'
def TrailsRel (w : World) (v i : Value) (wr : World) : Prop := ∃ (n : Nat) (A : Option Addr) (c : Nat), 1 ≤ n ∧ n ≤ 256 ∧ i = .int .i64 n ∧ v = .slice A (trL n).length c ∧ wr.ownsRow w.heap.size 5 1 (.slice A (trL n).length c) (trL n).length (u8s (trL n)) ∧ Below w.heap.size w wr
set_option maxRecDepth 100000 in
set_option maxHeartbeats 4000000 in
theorem trails_calls (w : World) : Calls Tryz.prog 41 #[] w (TrailsPost w) := by
  go_enter Tryz.func41, Tryz.ntmps41
  go_wp2_with fail
  go_loopw [1, 2] (fun v i wr => TrailsRel w v i wr) (fun _ i _ => 256 - (intOf i).toNat)
  case atStart => exact ⟨1, some ⟨w.heap.size, 0, none⟩, 0, Nat.le_refl _, by decide, rfl, rfl, World.ownsRow_lit (base := w.heap.size) (e := 5) (size := 1) w #[] 0 (Nat.le_refl _) (by decide) rfl, (Below.refl _ _).alloc (Nat.le_refl _) _⟩
  case round =>
    obtain ⟨n, A, c, hn1, hn2, rfl, rfl, ho, hb⟩ := hrel
    have hle := trL_le n
    have HO := Lib.hid ho
    have HB := Lib.hid hb
    clear ho hb
    by_cases hlt : n < 256
    · have hsucc := trL_succ hn1
      have hw8 : IntKind.u8.wrap (n : Int) = n := by rw [IntKind.wrap_u8]; omega
      have HOa := Lib.hid (HO.out.alloc (.cells #[.int .u8 (n : Int)] 5))
      have HCa := Lib.hid (show (wr.alloc (.cells #[.int .u8 (n : Int)] 5)).cell? ⟨wr.heap.size, 0, none⟩ = some (.int .u8 n) by rw [cell_of (heap_alloc_new _ _)]; rfl)
      have HBa := Lib.hid (HB.out.alloc HB.out.size (.cells #[.int .u8 (n : Int)] 5))
      go_upto_region 5 with fail
      go_cut [29] from 5 to 30 (fun v wx => v = .bool (trB n) ∧ wr = wx)
      case first =>
        go_wp2_with fail
        all_goals
          go_meet
          refine ⟨?_, rfl⟩
          show Value.bool _ = Value.bool (trB n)
          congr 1
          unfold trB
          rw [Bool.eq_iff_iff]
          simp
          try omega
      case rest =>
        obtain ⟨rfl, rfl⟩ := hcut
        cases ht : trB n with
        | true =>
          rw [if_pos ht] at hsucc
          have HS := Lib.hid hsucc
          clear hsucc ht
          go_wp2_with (at_builtin; refine app_u8 rfl rfl _ _ rfl w.heap.size _ (trL n) rfl HOa.out _ _ rfl HCa.out (by omega) HBa.out.size ?_; intro A' c' w2 h1 h2; rw [← HS.out] at h1; rw [← HS.out]; have H1 := Lib.hid h1; have H2 := Lib.hid (HBa.out.grown h2 HBa.out.size (fun k hk => (HOa.out.lt k hk).1)); clear h1 h2)
          go_roundw
          case rel => exact ⟨n + 1, A', c', by omega, by omega, by go_num, rfl, H1.out, H2.out⟩
          case measure => simp [intOf]; omega
        | false =>
          rw [if_neg (by rw [ht]; decide), List.append_nil] at hsucc
          have HS := Lib.hid hsucc
          clear hsucc ht
          go_wp2_with fail
          go_roundw
          case rel => exact ⟨n + 1, A, c, by omega, by omega, by go_num, by rw [HS.out], by rw [HS.out]; exact HO.out, HB.out⟩
          case measure => simp [intOf]; omega
    · obtain rfl : n = 256 := by omega
      go_wp2_with fail
      go_ret
      exact ⟨A, c, rfl, HO.out, HB.out⟩
def WorthPost (w : World) (b : Int) (e : Ending) (w' : World) : Prop := (∃ r : Int, e = .returned (.int .i64 r) ∧ ((0 ≤ r ∧ b ∈ TR) ∨ (r = -1 ∧ b ∉ TR))) ∧ Below w.heap.size w w'
theorem mem_take_succ {l : List Int} {k : Nat} {b : Int} (h : k < l.length) (hn : b ∉ l.take k) (hb : l.getD k 0 ≠ b) : b ∉ l.take (k + 1) := by
  rw [List.take_succ_eq_append_getElem h]
  intro hm
  rcases List.mem_append.1 hm with hm | hm
  · exact hn hm
  · rw [List.mem_singleton] at hm
    apply hb
    rw [List.getD_eq_getElem?_getD, List.getElem?_eq_getElem h, hm]
    rfl
set_option maxRecDepth 100000 in
set_option maxHeartbeats 4000000 in
theorem worth_calls (b : Int) (w : World) : Calls Tryz.prog 22 #[.int .u8 b] w (WorthPost w b) := by
  obtain ⟨L, hL⟩ : ∃ L, L = TR := ⟨_, rfl⟩
  have hlen : L.length ≤ 256 := by rw [hL]; exact trL_le 256
  have HL := Lib.hid hL
  have htr := trails_calls
  unfold TrailsPost at htr
  rw [← hL] at htr
  have HT := Lib.hid htr
  clear htr hL
  go_enter Tryz.func22, Tryz.ntmps22
  go_wp2_with fail
  refine (HT.out _).mono ?_
  rintro e w1 ⟨A, c, rfl, ho, hb⟩
  have HLs := Lib.hid (lst_u8 ho)
  have HB := Lib.hid hb
  clear ho hb
  go_wp2_with fail
  go_loopw [4] (fun i wr => w1 = wr ∧ ∃ k : Nat, k ≤ L.length ∧ i = .int .i64 k ∧ b ∉ L.take k) (fun i _ => L.length - (intOf i).toNat)
  case atStart => exact ⟨rfl, 0, Nat.zero_le _, rfl, by simp⟩
  case round =>
    obtain ⟨rfl, k, hk, rfl, hn⟩ := hrel
    have HN := Lib.hid hn
    clear hn
    by_cases hlt : k < L.length
    · obtain ⟨a, rfl, q⟩ := HLs.out k hlt
      obtain ⟨x, hx⟩ : ∃ x, x = L.getD k 0 := ⟨_, rfl⟩
      rw [← hx] at q
      have HX := Lib.hid hx
      clear hx
      by_cases hxb : x = b
      · subst hxb
        go_wp2_with fail
        go_ret
        refine ⟨⟨k, rfl, .inl ⟨by omega, ?_⟩⟩, HB.out⟩
        rw [HX.out, ← HL.out, List.getD_eq_getElem?_getD, List.getElem?_eq_getElem hlt]
        exact List.getElem_mem _
      · have hxb' : (x == b) = false := by simp [hxb]
        have HXB := Lib.hid hxb
        clear hxb
        go_wp2_with fail
        go_roundw
        case rel => exact ⟨trivial, k + 1, hlt, by go_num, mem_take_succ hlt HN.out (by rw [← HX.out]; exact HXB.out)⟩
        case measure => simp [intOf]; omega
    · obtain rfl : k = L.length := by omega
      go_wp2_with fail
      go_ret
      refine ⟨⟨-1, rfl, .inr ⟨rfl, ?_⟩⟩, HB.out⟩
      have := HN.out
      rw [List.take_length] at this
      rw [← HL.out]
      exact this
def isK (b : Int) : Bool := decide (b ≤ 32) && !TR.contains b
set_option maxHeartbeats 4000000 in
theorem kept_calls2 (b : Int) (w : World) : Calls Tryz.prog 12 #[.int .u8 b] w fun e w' => e = .returned (.bool (isK b)) ∧ Below w.heap.size w w' := by
  obtain ⟨z, hz⟩ : ∃ z, z = isK b := ⟨_, rfl⟩
  rw [← hz]
  have HZ := Lib.hid hz
  have HW := Lib.hid (worth_calls b w)
  clear hz
  by_cases h1 : b ≤ 32
  · go_enter Tryz.func12, Tryz.ntmps12
    go_wp2_with fail
    refine HW.out.mono ?_
    rintro e w1 ⟨⟨r, rfl, hr⟩, hb⟩
    have HB := Lib.hid hb
    clear hb
    rcases hr with ⟨h2, h3⟩ | ⟨rfl, h3⟩
    · have HM := Lib.hid h3
      clear h3
      go_wp2_with fail
      go_ret
      refine ⟨?_, HB.out⟩
      have : z = false := by rw [HZ.out]; unfold isK; simp; intro _; exact HM.out
      rw [this, ← decide_eq_false (show ¬ r < 0 by omega)]
      rfl
    · have HM := Lib.hid h3
      clear h3
      go_wp2_with fail
      go_ret
      refine ⟨?_, HB.out⟩
      have : z = true := by rw [HZ.out]; unfold isK; simp; exact ⟨h1, HM.out⟩
      rw [this]
      rfl
  · go_enter Tryz.func12, Tryz.ntmps12
    go_wp2_with fail
    go_ret
    refine ⟨?_, Below.refl _ _⟩
    have : z = false := by rw [HZ.out]; unfold isK; simp; omega
    rw [this]
    rfl
end Go.Proofs.YtooiooledeblmaaGreat.Dcd
end
section
namespace Go.Proofs.YtooiooledeblmaaGreat.Dcd
open Go.RowKit Go.Proofs.YtooiooledeblmaaGreat.Win Go.Proofs.YtooiooledeblmaaGreat.Stp Go.Proofs.YtooiooledeblmaaGreat.Out Go.Proofs.YtooiooledeblmaaGreat.Lst
set_option linter.unusedVariables false
set_option linter.unusedSimpArgs false
theorem take_succ' {l : List Int} {k : Nat} (h : k < l.length) : l.take (k + 1) = l.take k ++ [l.getD k 0] := by
  rw [List.take_succ_eq_append_getElem h, List.getD_eq_getElem?_getD, List.getElem?_eq_getElem h]; rfl
def isS (c : Int) : Bool := !(decide (55296 ≤ c) && decide (c ≤ 57343)) && decide (c ≤ 1114111)
theorem isS_iff {c : Int} : isS c = true ↔ ¬ (55296 ≤ c ∧ c ≤ 57343) ∧ c ≤ 1114111 := by
  unfold isS
  simp
  omega
theorem ris_calls (c : Int) (w : World) : Calls Tryz.prog 40 #[.int .u32 c] w fun e w' => e = .returned (.bool (isS c)) ∧ w = w' := by
  by_cases h1 : 55296 ≤ c
  · by_cases h2 : c ≤ 57343
    · have e : isS c = false := by rw [← Bool.not_eq_true, isS_iff]; omega
      rw [e]
      clear e
      go_enter Tryz.func40, Tryz.ntmps40
      go_wp2
      go_ret
      exact ⟨rfl, rfl⟩
    · have e : isS c = decide (c ≤ 1114111) := by rw [Bool.eq_iff_iff, isS_iff]; simp; omega
      rw [e]
      clear e
      go_enter Tryz.func40, Tryz.ntmps40
      go_wp2
      go_ret
      exact ⟨rfl, rfl⟩
  · have e : isS c = true := by rw [isS_iff]; omega
    have h3 : c ≤ 1114111 := by omega
    rw [e]
    clear e
    go_enter Tryz.func40, Tryz.ntmps40
    go_wp2
    go_ret
    exact ⟨rfl, rfl⟩
def FirstPost (w : World) (l : List Int) (e : Ending) (w' : World) : Prop := ∃ r : Int, e = .returned (.int .i64 r) ∧ ((r = -1 ∧ ∀ x ∈ l, isS x = true) ∨ 0 ≤ r) ∧ Drew w w'
def FirstRel (w : World) (l : List Int) (i : Value) (wr : World) : Prop := ∃ k : Nat, k ≤ l.length ∧ i = .int .i64 k ∧ Drew w wr ∧ ∀ x ∈ l.take k, isS x = true
theorem rfirst_calls {w : World} {A : Option Addr} {c : Nat} {l : List Int} (h : Lst w .u32 A l) (hl : l.length ≤ 1000000) : Calls Tryz.prog 21 #[.slice A l.length c] w (FirstPost w l) := by
  have H := Lib.hid h
  clear h
  go_enter Tryz.func21, Tryz.ntmps21
  go_wp2_with fail
  go_loopw [3] (fun i wr => FirstRel w l i wr) (fun i _ => l.length - (intOf i).toNat)
  case atStart => exact ⟨0, Nat.zero_le _, rfl, Drew.refl _, fun x hx => by cases hx⟩
  case round =>
    obtain ⟨k, hk, rfl, hd, ha⟩ := hrel
    have HD := Lib.hid hd
    have HAl := Lib.hid ha
    clear hd ha
    by_cases hlt : k < l.length
    · obtain ⟨a, rfl, q⟩ := (Lst.drew H.out HD.out) k hlt
      have htk := take_succ' hlt
      generalize l.getD k 0 = x at q htk
      have HTK := Lib.hid htk
      have hisx := ris_calls x
      clear htk
      cases hx : isS x with
      | true =>
        have HX := Lib.hid hx
        rw [hx] at hisx
        have HIS := Lib.hid hisx
        clear hx hisx
        go_wp2_with (go_at_call 40; refine (HIS.out _).mono ?_; rintro e w1 ⟨rfl, rfl⟩)
        go_roundw
        case rel =>
          refine ⟨k + 1, hlt, by go_num, HD.out, fun y hy => ?_⟩
          rw [HTK.out] at hy
          rcases List.mem_append.1 hy with hy | hy
          · exact HAl.out y hy
          · rw [List.mem_singleton.1 hy]; exact HX.out
        case measure => simp [intOf]; omega
      | false =>
        rw [hx] at hisx
        have HIS := Lib.hid hisx
        clear hx hisx
        go_wp2_with (go_at_call 40; refine (HIS.out _).mono ?_; rintro e w1 ⟨rfl, rfl⟩)
        go_ret
        exact ⟨k, rfl, .inr (by omega), HD.out⟩
    · obtain rfl : k = l.length := by omega
      go_wp2_with fail
      go_ret
      exact ⟨-1, rfl, .inl ⟨rfl, by have := HAl.out; rw [List.take_length] at this; exact this⟩, HD.out⟩
theorem isB_isS {c : Int} (h0 : 0 ≤ c) (h : isS c = true) : isB c = true := by
  rw [isS_iff] at h
  unfold isB
  simp
  omega
/-- Whether a scalar was worked off counts for the mark alone. -/
def SmallPost (w : World) (l : List Int) (most : Int) (e : Ending) (w' : World) : Prop := (∃ b : Bool, e = .returned (.bool b) ∧ (b = true → (l.length : Int) ≤ most ∧ Scal l)) ∧ Below w.heap.size w w'
theorem small_great {w : World} {A : Option Addr} {n c : Nat} {most : Int} (h : most < n) : Calls Tryz.prog 9 #[.slice A n c, .int .i64 most] w fun e w' => e = .returned (.bool false) ∧ w = w' := by
  go_enter Tryz.func9, Tryz.ntmps9
  go_wp2_with fail
  go_ret
  exact ⟨rfl, rfl⟩
theorem small_calls {w : World} {A : Option Addr} {c : Nat} {l : List Int} {most : Int} (hL : Lst w .u32 A l) (h0 : ∀ x ∈ l, 0 ≤ x) (hl : l.length ≤ 1000000) : Calls Tryz.prog 9 #[.slice A l.length c, .int .i64 most] w (SmallPost w l most) := by
  by_cases hm : (l.length : Int) ≤ most
  · have HF := Lib.hid (rfirst_calls (c := c) hL hl)
    have H0 := Lib.hid h0
    clear hL h0
    go_enter Tryz.func9, Tryz.ntmps9
    go_wp2_with fail
    refine HF.out.mono ?_
    rintro e w1 ⟨r, rfl, hr, hd⟩
    have HD := Lib.hid hd
    clear hd
    rcases hr with ⟨rfl, hall⟩ | hr
    · have HA := Lib.hid hall
      clear hall
      go_wp2_with fail
      go_ret
      exact ⟨⟨true, rfl, fun _ => ⟨hm, fun x hx => ⟨H0.out x hx, isB_isS (H0.out x hx) (HA.out x hx)⟩⟩⟩, HD.out.below _⟩
    · have hr' : decide (r < 0) = false := by simp; omega
      go_wp2_with fail
      go_ret
      exact ⟨⟨false, by rw [← hr']; rfl, fun h => by cases h⟩, HD.out.below _⟩
  · refine (small_great (A := A) (c := c) (w := w) (show most < (l.length : Int) by omega)).mono ?_
    rintro e w' ⟨rfl, rfl⟩
    exact ⟨⟨false, rfl, fun h => by cases h⟩, Below.refl _ _⟩
def EncLPost (w : World) (S : List Int) (e : Ending) (w' : World) : Prop := e = .returned (.tuple #[.string (strOfNums S), .bool true]) ∧ Below w.heap.size w w'
set_option maxRecDepth 100000 in
set_option maxHeartbeats 4000000 in
theorem lenc_calls {c : Int} {enc : List Int → List Int} (hE : EncOK c enc) {w : World} {A : Option Addr} {cap : Nat} {l : List Int} (hL : Lst w .u32 A l) (hs : Scal l) (hl : l.length ≤ 600) (hnil : A = none → cap = 0) :
    Calls Tryz.prog 10 #[.int .i64 c, .slice A l.length cap] w (EncLPost w (enc l)) := by
  have HE := Lib.hid hE
  have HS := Lib.hid hs
  have HN := Lib.hid hnil
  have HL := Lib.hid (show Lst (w.alloc (.cells #[] 31)) .u32 A l from hL.below (bel_alloc _))
  have HO := Lib.hid (World.ownsRow_lit (base := w.heap.size) (e := 31) (size := 1) w #[] 0 (Nat.le_refl _) (by decide) rfl)
  clear hE hs hnil hL
  go_enter Tryz.func10, Tryz.ntmps10
  go_wp2_with (at_builtin; refine app_lst rfl rfl _ _ rfl w.heap.size _ [] rfl HO.out _ _ l rfl HL.out HN.out (by simp; omega) (by simp) ?_; intro A' c' w1 h1 h2 h3; rw [List.nil_append] at h1; rw [List.nil_append]; have H1 := Lib.hid h1; have H3 := Lib.hid h3; have HB1 := Lib.hid (show Below w.heap.size w w1 from (bel_alloc (w := w) (.cells #[] 31)).grown h2 (by simp) (fun k hk => Nat.le_of_eq (Option.some.inj (show some w.heap.size = some k from hk)))); clear h1 h2 h3)
  refine (HE.out.calls (A := A') (cap := c') (fun wx hx => (Lst.of_owns H1.out).below hx) HS.out hl (own_le H1.out) H3.out).mono ?_
  rintro e w2 ⟨rfl, hb2⟩
  obtain ⟨S, hS⟩ : ∃ S, S = strOfNums (enc l) := ⟨_, rfl⟩
  have HSe := Lib.hid hS
  rw [← hS]
  have HB2 := Lib.hid (HB1.out.trans (Below.mono hb2 HB1.out.size))
  clear hS hb2
  go_upto_region 2 with fail
  have hf := FailAt.new w2
  have c0 := hf.c0
  have c1 := hf.c1
  have HB3 := Lib.hid (HB2.out.trans (Below.mono (bel_alloc (w := w2) (.cells #[.int .i64 0, .int .i64 0] 39)) HB2.out.size))
  clear hf
  generalize w2.alloc (.cells #[.int .i64 0, .int .i64 0] 39) = w3 at c0 c1 HB3 ⊢
  have hfe := fail_eq w3.drew
  go_quiet (fail)
  go_wp2_with fail
  go_ret2
  exact ⟨by rw [HSe.out]; rfl, below_drewN HB3.out _⟩
end Go.Proofs.YtooiooledeblmaaGreat.Dcd
end
