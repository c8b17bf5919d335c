/- The law's writing of scalars by an encoder. -/
import Derived.Test.YtkfiahildoljfaaEnc11
import Derived.Laws.StructEq
import Derived.Laws.OwnMore
namespace Go.Proofs.Ytkfiahildoljfaa.Enc
open Go.RowKit Go.Proofs.Ytkfiahildoljfaa.Win Go.Proofs.Ytkfiahildoljfaa.Stp Go.Proofs.Ytkfiahildoljfaa.Lst
set_option linter.unusedVariables false
set_option linter.unusedSimpArgs false
/-- The whole text. -/
def textC (pl : Bool) (l : List Int) : List Int := (pushes (e0 pl) l).2 ++ (flushC (pushes (e0 pl) l).1).2
theorem toList_loop (s : ByteArray) : ∀ (n i : Nat) (r : List UInt8), s.size - i = n → ByteArray.toList.loop s i r = [] → r = [] ∧ s.size ≤ i := by
  intro n
  induction n with
  | zero =>
    intro i r hn h
    unfold ByteArray.toList.loop at h
    rw [if_neg (by omega)] at h
    exact ⟨by simpa using h, by omega⟩
  | succ n ih =>
    intro i r hn h
    unfold ByteArray.toList.loop at h
    rw [if_pos (by omega)] at h
    have := (ih (i + 1) _ (by omega) h).1
    cases this
theorem str_ne {S : List Int} (h : S ≠ []) : ¬ (strOfNums S).toList = [] := fun e => by
  have h1 := (toList_loop (strOfNums S) _ 0 [] rfl e).2
  have h2 := str_size S
  exact h (List.eq_nil_of_length_eq_zero (by omega))
theorem pushes_append : ∀ (xs ys : List Int) (m : E), pushes m (xs ++ ys) = ((pushes (pushes m xs).1 ys).1, (pushes m xs).2 ++ (pushes (pushes m xs).1 ys).2)
  | [], ys, m => by simp [pushes]
  | x :: xs, ys, m => by
    have ih := pushes_append xs ys (pushC m x).1
    simp only [pushes, List.cons_append]
    rw [ih]
    simp
theorem wpList_append_lst {P : Program} {w : World} {ops : Array Oper} {rest : List Oper} {o : Oper} {a : Act} {Q : Exit → Act → World → Prop} (hgd : o.guard = none) (s x : Operand) (t : TypeId)
    (ho : o.op = .call { callee := .builtin .append, args := #[s, x], argTypes := #[t, t] })
    (base : Nat) (e : TypeId) (i : TypeInfo) (z : Value) (bytes : Nat) (ht : P.underlying t = some (.slice e)) (hi : P.info? e = some i) (hz : i.zero = some z)
    (hsize : i.size = 1) (hby : i.bytes = bytes) (hzs : z.cells.size = 1)
    (v : Value) (n : Nat) (xs : List Value) (hs : a.eval s = v) (hown : w.ownsRow base e 1 v n xs)
    (A : Option Addr) (c : Nat) (ys : List Int) (hx : a.eval x = .slice A ys.length c) (hn : A = none → c = 0) (hl : Lst w .u32 A ys)
    (h63 : n + ys.length ≤ maxLen) (hbytes : (n + ys.length) * bytes ≤ 140737488355328) (hbase : base ≤ w.heap.size)
    (h : ∀ v' w', w'.ownsRow base e 1 v' (n + ys.length) (xs ++ u32s ys) → w.grownBy w' v.ownBlock → wpList P ops Q rest (a.put o.dst v') w') : wpList P ops Q (o :: rest) a w := by
  cases A with
  | none =>
    have hy : ys = [] := by
      cases ys with
      | nil => rfl
      | cons y ys => obtain ⟨a, h1, _⟩ := hl 0 (by simp); cases h1
    subst hy
    rw [hn rfl] at hx
    refine wpList_append_own_none hgd s x t ho base e i 1 ht hi v n xs hs hown hx (h v w ?_ ?_)
    · simpa [u32s] using hown
    · exact ⟨rfl, rfl, rfl, Nat.le_refl _, fun _ _ _ => rfl⟩
  | some ad =>
    refine wpList_append_own w hgd s x t ho base e i z 1 bytes ht hi hz hsize hby hzs (by decide) v n xs hs hown ad ys.length c (u32s ys) hx (by rw [u32s_length]; omega) (fun j u hj => ?_) (fun u hu => ?_) h63 hbytes hbase fun v' w' q1 q2 _ => h v' w' q1 q2
    · have hjl : j < ys.length := by have := (List.getElem?_eq_some_iff.1 hj).1; rwa [u32s_length] at this
      obtain ⟨a2, h1, h2⟩ := hl j hjl
      injection h1 with h1
      subst h1
      rw [h2]
      unfold u32s at hj
      rw [List.getElem?_map, List.getElem?_eq_getElem hjl] at hj
      rw [← hj, List.getD_eq_getElem?_getD, List.getElem?_eq_getElem hjl]
      rfl
    · unfold u32s at hu
      rw [List.mem_map] at hu
      obtain ⟨y, _, rfl⟩ := hu
      rfl
theorem own_chg {S : Nat → Prop} {w w' : World} {base : Nat} {e : TypeId} {size n : Nat} {v : Value} {xs : List Value} (h : w.ownsRow base e size v n xs) (hc : Chg S w w') (hs : ∀ k, v.ownBlock = some k → ¬ S k) : w'.ownsRow base e size v n xs := by
  obtain ⟨a1, a2⟩ := h
  refine ⟨a1, ?_⟩
  rcases a2 with a2 | ⟨g', cap, cur, hv, hb, hh, r⟩
  · exact .inl a2
  · have hlt : g' < w.heap.size := (Array.getElem?_eq_some_iff.1 hh).1
    exact .inr ⟨g', cap, cur, hv, hb, (hc.block g' hlt (hs g' (by rw [hv]; rfl))).trans hh, r⟩
theorem add_add (a : Addr) (n j : Nat) : (a.add n).add j = a.add (n + j) := by
  unfold Addr.add
  by_cases h1 : n = 0
  · subst h1; simp
  · by_cases h2 : j = 0
    · subst h2; simp [h1]
    · simp [h1, h2, Nat.add_assoc]
theorem lst_drop {w : World} {k : IntKind} {A : Option Addr} {xs : List Int} (h : Lst w k A xs) (n : Nat) : Lst w k (A.map (fun x => x.add n)) (xs.drop n) := fun j hj => by
  rw [List.length_drop] at hj
  obtain ⟨a, rfl, hc⟩ := h (n + j) (by omega)
  refine ⟨a.add n, rfl, ?_⟩
  rw [add_add, hc, List.getD_eq_getElem?_getD, List.getD_eq_getElem?_getD, List.getElem?_drop]
def WRel (w : World) (g gw : Nat) (pl : Bool) (l : List Int) (vs vo i : Value) (wr : World) : Prop :=
  ∃ (k t : Nat) (A : Option Addr) (c : Nat) (out p : List Int) (m : E), i = .int .i64 k ∧ vs = .slice A (l.drop t).length c ∧ vo = .string (strOfNums out) ∧ t ≤ l.length ∧ (A = none → c = 0) ∧ (l.drop t).length ≤ c ∧
    (∀ wx, Chg (EFS g gw) w wx → Lst wx .u32 A (l.drop t)) ∧ EncAt wr g gw { b40 with at_ := t } p m ∧ EG m ∧ Wt m ∧ m = (pushes (e0 pl) (l.take t)).1 ∧ out ++ p = (pushes (e0 pl) (l.take t)).2 ∧ Chg (EFS g gw) w wr ∧ 8 * k ≤ out.length
def WMid (w : World) (g gw : Nat) (pl : Bool) (l : List Int) (vo : Value) (wr : World) : Prop :=
  ∃ (out p : List Int) (m : E), vo = .string (strOfNums out) ∧ EncAt wr g gw { b40 with at_ := l.length } p m ∧ EG m ∧ Wt m ∧ m = (pushes (e0 pl) l).1 ∧ out ++ p = (pushes (e0 pl) l).2 ∧ Chg (EFS g gw) w wr
def WEnd (w : World) (g gw : Nat) (pl : Bool) (l : List Int) (mf : E) (vo i : Value) (wr : World) : Prop :=
  ∃ (k : Nat) (out p : List Int), i = .int .i64 k ∧ vo = .string (strOfNums out) ∧ EncAt wr g gw { b40 with at_ := (l.length : Int), fin := true } p mf ∧ out ++ p = textC pl l ∧ Chg (EFS g gw) w wr ∧ k ≤ out.length ∧ out.length + p.length ≤ 5010
def WPost (w : World) (g gw : Nat) (pl : Bool) (l : List Int) (e : Ending) (wr : World) : Prop :=
  e = .returned (.tuple #[.string (strOfNums (textC pl l)), .bool true]) ∧ Chg (EFS g gw) w wr
set_option maxRecDepth 100000 in
set_option maxHeartbeats 16000000 in
theorem write_calls {w : World} {g gw : Nat} {pl : Bool} {l : List Int} {A : Option Addr} {cap : Nat} (h : EncAt w g gw b40 [] (e0 pl)) (hl : l.length ≤ 500) (hcap : l.length ≤ cap) (hnil : A = none → cap = 0) (hA : ∀ wx, Chg (EFS g gw) w wx → Lst wx .u32 A l) (hr : ∀ x ∈ l, 0 ≤ x ∧ isB x = true) :
    Calls Try.prog 11 #[.pointer (some ⟨g, 0, none⟩), .slice A l.length cap, .slice none 0 0, .slice none 0 0] w (WPost w g gw pl l) := by
  obtain ⟨i0, hi, hz0, hz1, hz2⟩ := info_parts info_u32
  have HN : Hid (i0.zero = some (.int .u32 0) ∧ i0.size = 1 ∧ i0.bytes = 4 ∧ Try.prog.info? 35 = some i0) := ⟨hz0, hz1, hz2, hi⟩
  have H := Lib.hid h
  have HA := Lib.hid hA
  have HR := Lib.hid hr
  have HNil := Lib.hid hnil
  clear h hA hr hnil hz0 hz1 hz2 hi
  go_enter Try.func11, Try.ntmps11
  go_upto_block 0 with fail
  go_cut [10] (fun vo wx => WMid w g gw pl l vo wx)
  case first =>
    go_wp2_with fail
    go_loopw [1, 10, 12] (fun vs vo i wr => WRel w g gw pl l vs vo i wr) (fun _ _ i _ => 10 * l.length + 8 - (intOf i).toNat)
    case atStart =>
      refine ⟨0, 0, A, cap, [], [], e0 pl, rfl, rfl, rfl, Nat.zero_le _, HNil.out, hcap, HA.out, H.out, eg0 pl, .inl rfl, rfl, rfl, Chg.refl _, Nat.zero_le _⟩
    case round =>
      obtain ⟨k, t, A2, c2, out, p, m, rfl, rfl, rfl, ht, hn, hc2, hls, hd, hg, hwt, hm, ho, hc, hk⟩ := hrel
      have hol : out.length + p.length ≤ 10 * t := by
        have h1 := pushes_len (l.take t) (e0 pl)
        rw [List.length_take] at h1
        have h2 : (out ++ p).length = (pushes (e0 pl) (l.take t)).2.length := by rw [ho]
        rw [List.length_append] at h2
        omega
      have hkm : k < 10 * l.length + 8 := by omega
      obtain ⟨r, hr⟩ : ∃ r, r = l.drop t := ⟨_, rfl⟩
      have hrl : r.length + t = l.length := by rw [hr, List.length_drop]; omega
      rw [← hr] at hc2 hls ⊢
      have hlit := World.ownsRow_lit (base := wr.heap.size) (e := 35) (size := 1) wr #[] 0 (Nat.le_refl _) (by decide) rfl
      have hl2 := hls (wr.alloc (.cells #[] 35)) (hc.trans (Chg.alloc _ _))
      have HLit := Lib.hid hlit
      have HLs2 := Lib.hid hl2
      have HD := Lib.hid hd
      have HLs := Lib.hid hls
      have HG := Lib.hid hg
      have HWt := Lib.hid hwt
      have HM := Lib.hid hm
      have HO := Lib.hid ho
      have HC := Lib.hid hc
      have HNl := Lib.hid hn
      have HRr := Lib.hid hr
      have HRL := Lib.hid hrl
      have hrb : r.length ≤ 500 := by omega
      have hkl : (k : Int) < 10 * (l.length : Int) + 8 := by omega
      clear hlit hl2 hd hls hg hwt hm ho hc hn hr hrl
      go_wp2_with (at_builtin; refine wpList_append_lst rfl (.tmp 60) (.tmp 63) 22 rfl wr.heap.size 35 i0 (.int .u32 0) 4 Try.underlying22 HN.out.2.2.2 HN.out.1 HN.out.2.1 HN.out.2.2.1 rfl (.slice (some ⟨wr.heap.size, 0, none⟩) 0 0) 0 [] rfl HLit.out A2 c2 r rfl HNl.out HLs2.out ?c1 ?c2 ?c3 ?_; (case c1 => unfold maxLen; omega); (case c2 => omega); (case c3 => simp); intro v1 w2 hown2 hgrow2; have HO2 := Lib.hid hown2; have HG2 := Lib.hid hgrow2; clear hown2 hgrow2)
      have hb2 : Below wr.heap.size wr w2 := Below.grown ((Below.refl _ wr).alloc (Nat.le_refl _) _) HG2.out (by simp) (fun q hq => Nat.le_of_eq (by simpa [Value.ownBlock] using hq))
      have ho2 := HO2.out
      simp only [List.nil_append, Nat.zero_add] at ho2
      obtain ⟨A3, c3, rfl⟩ := owns_form ho2
      have hd2 := HD.out.below hb2
      have hlt1 := HD.out.lt
      have hlt2 := HD.out.win.lt
      have hA3 : ∀ wx, Chg (EFS g gw) w2 wx → Lst wx .u32 A3 r := fun wx hcx => by
        have := own_chg ho2 hcx (fun q hq hh => by
          have h1 := (ho2.lt q hq).1
          rcases hh with h | h <;> omega)
        exact Lst.of_owns (n := r.length) this
      have hrr : ∀ x ∈ r, 0 ≤ x ∧ isB x = true := fun x hx => HR.out x (by rw [HRr.out] at hx; exact List.mem_of_mem_drop hx)
      have hfd := feed_calls (cap := c3) 8 hd2 HG.out HWt.out (by omega) (by omega) hA3 (fun x hx => ⟨(hrr x hx).1, by have := isB_rng (hrr x hx).2; omega⟩) (by decide) (by decide) (show (0 : Int) ≤ t by omega) (show (t : Int) ≤ 1000000 by omega)
      have HFd := Lib.hid hfd
      have HB2 := Lib.hid hb2
      have HRR := Lib.hid hrr
      clear hfd hb2 ho2 hd2 hA3 hrr hlt1 hlt2
      refine HFd.out.mono ?_
      rintro e w3 ⟨n, S, p', b', m', rfl, hd3, hg3, hwt3, hc3, hf⟩
      have hnle := hf.le
      have hSl : (S.length : Int) ≤ 8 := by
        rcases hf.fits with h | h
        · exact h
        · rw [h]; decide
      have hway : m' = (pushes m (r.take n)).1 ∧ S ++ p' = p ++ (pushes m (r.take n)).2 ∧ b' = { b40 with at_ := ((t + n : Nat) : Int) } ∧ (n = r.length ∨ 8 ≤ S.length) := by
        rcases hf.way with ⟨_, h1, h2, _⟩ | ⟨h1, h2, h3, h4⟩
        · have := (HRR.out (r.getD n 0) (by rw [List.getD_eq_getElem?_getD, List.getElem?_eq_getElem h1]; exact List.getElem_mem _)).2
          rw [h2] at this; cases this
        · refine ⟨h1, h2, ?_, ?_⟩
          · rw [h3]
            show ({ at_ := (t : Int) + n, err := 0, pl := 0, fin := false } : B4) = _
            congr 1
          · rcases h4 with h4 | h4 | h4
            · exact .inl h4
            · rcases hf.full with h5 | h5
              · exact absurd h5 h4
              · right; omega
            · cases h4
      obtain ⟨q1, q2, rfl, q4⟩ := hway
      have HFl := Lib.hid (show Calls Try.prog 21 #[.pointer (some ⟨g, 0, none⟩)] w3 (fun e w' => e = .returned (.agg #[.int .i64 0, .int .i64 0]) ∧ w' = w3.alloc (.cells #[.int .i64 0, .int .i64 0] 41)) from fail_calls g _ w3 hd3.base)
      have hSs := str_size S
      have hos := str_size out
      have happ := str_append out S
      have hcc : Chg (EFS g gw) w w3 := (HC.out.trans (Chg.of_below HB2.out)).trans hc3
      have HCC := Lib.hid hcc
      have HD3 := Lib.hid hd3
      have HG3 := Lib.hid hg3
      have HWt3 := Lib.hid hwt3
      have HQ1 := Lib.hid q1
      have HQ2 := Lib.hid q2
      have hol2 : out.length ≤ 5000 := by omega
      have hfdd : ∀ w : World, (Instr.field 41 (.agg #[.int .i64 0, .int .i64 0]) 0).run Try.prog w = .ok (.int .i64 0) w := fun _ => by kernel_rfl
      clear hd3 hg3 hwt3 hc3 hf hcc q1 q2
      have hpush : (pushes (e0 pl) (l.take (t + n))) = (m', (pushes (e0 pl) (l.take t)).2 ++ (pushes m (r.take n)).2) := by
        rw [List.take_add, pushes_append, ← HRr.out, ← HM.out, ← HQ1.out]
      have hout : (out ++ S) ++ p' = (pushes (e0 pl) (l.take (t + n))).2 := by
        rw [hpush, List.append_assoc, HQ2.out, ← List.append_assoc, HO.out]
      have HPush := Lib.hid hpush
      have HOut := Lib.hid hout
      clear hpush hout
      by_cases hnr : n = r.length
      · have hz : r.length - n = 0 := by omega
        have htn : t + n = l.length := by have := HRL.out; omega
        have HTN := Lib.hid htn
        clear hnr htn q4
        go_wp2_with fail
        all_goals
          refine HFl.out.mono ?_
          rintro e w4 ⟨rfl, rfl⟩
          go_wp2_with fail
          go_meet
          have ht2 := HTN.out
          have hp2 := HPush.out
          have ho2 := HOut.out
          rw [ht2, List.take_length] at hp2 ho2
          refine ⟨out ++ S, p', m', rfl, ?_, HG3.out, HWt3.out, by rw [hp2], ho2, HCC.out.trans (Chg.alloc _ _)⟩
          have := HD3.out.alloc (.cells #[.int .i64 0, .int .i64 0] 41)
          rw [ht2] at this
          exact this
      · have hn2 : n < r.length := by omega
        have hS8 : 8 ≤ S.length := by
          rcases q4 with h | h
          · exact absurd h hnr
          · exact h
        have hcn : n < c2 := by omega
        have hcn2 : ¬ c2 - n = 0 := by omega
        have hz : (((r.length - n : Nat) : Int) == 0) = false := by rw [beq_eq_false_iff_ne]; omega
        have hsne := str_ne (S := S) (fun h => by rw [h] at hS8; simp at hS8)
        have hsne2 : (strOfNums S).toList.isEmpty = false := by rw [List.isEmpty_eq_false_iff]; exact hsne
        clear hsne
        clear hnr q4
        by_cases hn0 : (n : Int) = 0
        · obtain rfl : n = 0 := by omega
          have hz2 : ((r.length : Int) == 0) = false := by rw [beq_eq_false_iff_ne]; omega
          have hz3 : ¬ r.length = 0 := by omega
          go_wp2_with fail
          all_goals
            refine HFl.out.mono ?_
            rintro e w4 ⟨rfl, rfl⟩
            go_wp2_with fail
            go_roundw
            case rel =>
              refine ⟨k + 1, t, A2, c2, out ++ S, p', m', by go_num, by rw [← HRr.out], rfl, ht, HNl.out, by rw [← HRr.out]; exact hc2, fun wx hcx => by rw [← HRr.out]; exact HLs.out wx hcx, HD3.out.alloc _, HG3.out, HWt3.out, by have := HPush.out; rw [Nat.add_zero] at this; rw [this], HOut.out, HCC.out.trans (Chg.alloc _ _), by rw [List.length_append]; omega⟩
            case measure => simp [intOf]; omega
        · have hn0b : ((n : Int) == 0) = false := by rw [beq_eq_false_iff_ne]; exact hn0
          go_wp2_with fail
          all_goals
            refine HFl.out.mono ?_
            rintro e w4 ⟨rfl, rfl⟩
            go_wp2_with fail
            go_roundw
            case rel =>
              have hd0 : (l.drop (t + n)) = r.drop n := by rw [HRr.out, List.drop_drop]
              have hlen : (l.drop (t + n)).length = r.length - n := by rw [hd0, List.length_drop]
              refine ⟨k + 1, t + n, A2.map (fun x => x.add n), c2 - n, out ++ S, p', m', by go_num, by rw [hlen], rfl, by have := HRL.out; omega, fun h => ?_, by rw [hlen]; omega, fun wx hcx => ?_, ?_, HG3.out, HWt3.out, by rw [HPush.out], HOut.out, HCC.out.trans (Chg.alloc _ _), by rw [List.length_append]; omega⟩
              · have h2 : A2 = none := by
                  cases A2 with
                  | none => rfl
                  | some a => simp at h
                have := HNl.out h2
                omega
              · rw [hd0]
                exact lst_drop (HLs.out wx hcx) n
              · exact HD3.out.alloc _
            case measure => simp [intOf]; omega
  case rest =>
    obtain ⟨out, p, m, rfl, hd, hg, hwt, hm, ho, hc⟩ := hcut
    have hpl := pushes_len l (e0 pl)
    have hop : out.length + p.length ≤ 5000 := by
      have h2 : (out ++ p).length = (pushes (e0 pl) l).2.length := by rw [ho]
      rw [List.length_append] at h2
      omega
    have hen := end_calls hd hg hwt (by omega)
    have e1 : endE ({ b40 with at_ := (l.length : Int) } : B4) m = (flushC m).2 := rfl
    have e2 : endM ({ b40 with at_ := (l.length : Int) } : B4) m = (flushC m).1 := rfl
    have e3 : finB ({ b40 with at_ := (l.length : Int) } : B4) = { b40 with at_ := (l.length : Int), fin := true } := rfl
    rw [e1, e2, e3] at hen
    have hfl := flush_len m
    have hgf := hg.flush hwt
    have hwf : Wt (flushC m).1 := by
      unfold flushC
      split
      · exact hwt
      · exact .inl rfl
    have htx : out ++ (p ++ (flushC m).2) = textC pl l := by
      unfold textC
      rw [← hm, ← ho, List.append_assoc]
    have HEn := Lib.hid hen
    have HC := Lib.hid hc
    have HGf := Lib.hid hgf
    have HWf := Lib.hid hwf
    obtain ⟨p1, hp1⟩ : ∃ p1, p1 = p ++ (flushC m).2 := ⟨_, rfl⟩
    rw [← hp1] at htx
    have hlp1 : out.length + p1.length ≤ 5010 := by rw [hp1, List.length_append]; omega
    rw [← hp1] at HEn
    have HTx := Lib.hid htx
    obtain ⟨mf, hmf⟩ : ∃ mf, mf = (flushC m).1 := ⟨_, rfl⟩
    rw [← hmf] at HEn HGf HWf
    clear hd hg hwt hm ho hc hen e1 e2 e3 hfl hgf hwf htx hp1 hmf hpl hop
    go_wp2_with fail
    refine HEn.out.mono ?_
    rintro e w1 ⟨rfl, hd1, hc1⟩
    have HD1 := Lib.hid hd1
    have HC1 := Lib.hid (HC.out.trans hc1)
    clear hd1 hc1
    go_wp2_with fail
    go_loopw [10, 17] (fun vo i wr => WEnd w g gw pl l mf vo i wr) (fun _ i _ => 6000 - (intOf i).toNat)
    case atStart =>
      exact ⟨0, out, p1, rfl, rfl, HD1.out, HTx.out, HC1.out, Nat.zero_le _, hlp1⟩
    case round =>
      obtain ⟨k, out2, p2, rfl, rfl, hd, ht, hc, hk, hl2⟩ := hrel
      have HDn := Lib.hid (done_calls hd (by omega))
      have HD := Lib.hid hd
      have HT := Lib.hid ht
      have HCr := Lib.hid hc
      have hgo : (({ b40 with at_ := (l.length : Int), fin := true } : B4)).going = false := rfl
      rw [hgo] at HDn
      by_cases hp : p2 = []
      · have hdp : decide (p2 = []) = true := by simp [hp]
        rw [hdp] at HDn
        have HP := Lib.hid hp
        clear hd ht hc hgo hp hdp
        go_wp2_with fail
        refine HDn.out.mono ?_
        rintro e w2 ⟨rfl, rfl⟩
        go_wp2_with fail
        go_ret2
        have h1 := HT.out
        rw [HP.out, List.append_nil] at h1
        exact ⟨by rw [← h1]; rfl, HCr.out⟩
      · have hdp : decide (p2 = []) = false := by simp [hp]
        rw [hdp] at HDn
        have HFd := Lib.hid (feed_calls (A := none) (cap := 0) (l := []) 8 hd HGf.out HWf.out (by omega) (by decide) (fun _ _ => Lst.nil _ _ _) (fun x hx => by cases hx) (by decide) (by decide) (show (0 : Int) ≤ l.length by omega) (show (l.length : Int) ≤ 1000000 by omega))
        have HP := Lib.hid hp
        clear hd ht hc hgo hp hdp
        go_wp2_with fail
        refine HDn.out.mono ?_
        rintro e w2 ⟨rfl, rfl⟩
        go_wp2_with fail
        refine HFd.out.mono ?_
        rintro e w3 ⟨n, S, p', b', m', rfl, hd3, hg3, hwt3, hc3, hf⟩
        have hway : m' = mf ∧ S ++ p' = p2 ∧ b' = { b40 with at_ := (l.length : Int), fin := true } := by
          rcases hf.way with ⟨h1, _⟩ | ⟨h1, h2, h3, _⟩
          · cases h1
          · have hn : n = 0 := by have := hf.le; simpa using this
            subst hn
            refine ⟨h1, by simpa [pushes] using h2, ?_⟩
            rw [h3]
            show ({ at_ := (l.length : Int) + ((0 : Nat) : Int), err := 0, pl := 0, fin := true } : B4) = _
            congr 1
            all_goals omega
        obtain ⟨rfl, q2, rfl⟩ := hway
        have hSl : (S.length : Int) ≤ 8 := by
          rcases hf.fits with h | h
          · exact h
          · rw [h]; decide
        have hSne : S ≠ [] := by
          rintro rfl
          rcases hf.full with h | h
          · rw [h] at q2; exact HP.out q2.symm
          · simp at h
        have hSp : 0 < S.length := by
          rcases Nat.eq_zero_or_pos S.length with h | h
          · exact absurd (List.eq_nil_of_length_eq_zero h) hSne
          · exact h
        have hlen2 : S.length + p'.length = p2.length := by rw [← q2, List.length_append]
        have hsne2 : (strOfNums S).toList.isEmpty = false := by rw [List.isEmpty_eq_false_iff]; exact str_ne hSne
        have hSs := str_size S
        have hos := str_size out2
        have happ := str_append out2 S
        have hkk : (k : Int) ≤ 100000 := by omega
        have HD3 := Lib.hid hd3
        have HC3 := Lib.hid (HCr.out.trans hc3)
        have HQ2 := Lib.hid q2
        clear hd3 hg3 hwt3 hc3 hf q2 hSne
        go_wp2_with fail
        go_roundw
        case rel => exact ⟨k + 1, out2 ++ S, p', by go_num, rfl, HD3.out, by rw [List.append_assoc, HQ2.out]; exact HT.out, HC3.out, by rw [List.length_append]; omega, by rw [List.length_append]; omega⟩
        case measure => simp [intOf]; omega
end Go.Proofs.Ytkfiahildoljfaa.Enc
