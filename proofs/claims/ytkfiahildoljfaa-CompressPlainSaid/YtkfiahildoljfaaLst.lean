/- Lists of numbers in memory; an append of a row; two lists compared. -/
import Derived.Test.YtkfiahildoljfaaRow
import Derived.Test.YtkfiahildoljfaaOpen
import Derived.Laws.AppendOwnNone
import Derived.Laws.AppendOwn
namespace Go.Proofs.Ytkfiahildoljfaa.Lst
open Go.RowKit Go.Proofs.Ytkfiahildoljfaa.Win Go.Proofs.Ytkfiahildoljfaa.Stp
set_option linter.unusedVariables false
set_option linter.unusedSimpArgs false
/-- A list that is read at an address. -/
def Lst (w : World) (k : IntKind) (A : Option Addr) (xs : List Int) : Prop := ∀ j, j < xs.length → ∃ a : Addr, A = some a ∧ w.cell? (a.add j) = some (.int k (xs.getD j 0))
theorem Lst.nil (w : World) (k : IntKind) (A : Option Addr) : Lst w k A [] := fun j hj => absurd hj (Nat.not_lt_zero _)
theorem Lst.below {w w1 : World} {k : IntKind} {A : Option Addr} {xs : List Int} (h : Lst w k A xs) (hb : Below w.heap.size w w1) : Lst w1 k A xs := fun j hj => by
  obtain ⟨a, rfl, hc⟩ := h j hj
  exact ⟨a, rfl, (hb.cell (p := a.add j) (World.block_lt_of_cell? w _ hc)).trans hc⟩
theorem Lst.chg {S : Nat → Prop} {w w1 : World} {k : IntKind} {A : Option Addr} {xs : List Int} (h : Lst w k A xs) (hb : Chg S w w1) (hs : ∀ a, A = some a → ¬ S a.block) : Lst w1 k A xs := fun j hj => by
  obtain ⟨a, rfl, hc⟩ := h j hj
  refine ⟨a, rfl, ?_⟩
  have hlt := World.block_lt_of_cell? w _ hc
  have e := hb.block (a.add j).block hlt (by have := hs a rfl; unfold Addr.add; split <;> exact this)
  rw [← hc]
  unfold World.cell?
  rw [e]
theorem Lst.take {w : World} {k : IntKind} {A : Option Addr} {xs : List Int} (h : Lst w k A xs) (n : Nat) : Lst w k A (xs.take n) := fun j hj => by
  rw [List.length_take] at hj
  obtain ⟨a, rfl, hc⟩ := h j (by omega)
  refine ⟨a, rfl, hc.trans ?_⟩
  rw [List.getD_eq_getElem?_getD, List.getD_eq_getElem?_getD, List.getElem?_take_of_lt (by omega)]
theorem Lst.of_owns {w : World} {base n : Nat} {e : TypeId} {A : Option Addr} {c : Nat} {xs : List Int} (h : w.ownsRow base e 1 (.slice A n c) xs.length (u32s xs)) : Lst w .u32 A xs := fun j hj => by
  obtain ⟨r, c', hv, _, _⟩ := h.form (by omega)
  injection hv with hA _ _
  subst hA
  have hcells := h.cells (g := r) rfl
  refine ⟨_, rfl, hcells j _ ?_⟩
  unfold u32s
  rw [List.getElem?_map, List.getElem?_eq_getElem hj, List.getD_eq_getElem?_getD, List.getElem?_eq_getElem hj]
  rfl
theorem owns_form {w : World} {base n : Nat} {e : TypeId} {size : Nat} {v : Value} {xs : List Value} (h : w.ownsRow base e size v n xs) : ∃ A c, v = .slice A n c := by
  rcases h.2 with ⟨h1, h2⟩ | ⟨g', cap, cur, h1, _⟩
  · exact ⟨none, 0, by rw [h1, h2]⟩
  · exact ⟨_, _, h1⟩
theorem wpList_append_row {P : Program} {w : World} {ops : Array Oper} {rest : List Oper} {o : Oper} {a : Act} {Q : Exit → Act → World → Prop} (hgd : o.guard = none) (s x : Operand) (t : TypeId)
    (ho : o.op = .call { callee := .builtin .append, args := #[s, x], argTypes := #[t, t] })
    (base : Nat) (e : TypeId) (i : TypeInfo) (z : Value) (size bytes : Nat) (ht : P.underlying t = some (.slice e)) (hi : P.info? e = some i) (hz : i.zero = some z)
    (hsize : i.size = size) (hby : i.bytes = bytes) (hzs : z.cells.size = size) (hsz : 0 < size)
    (v : Value) (n : Nat) (xs : List Value) (hs : a.eval s = v) (hown : w.ownsRow base e size v n xs)
    (base2 : Nat) (v2 : Value) (m : Nat) (news : List Value) (hx : a.eval x = v2) (hown2 : w.ownsRow base2 e size v2 m news) (hl : news.length = m * size) (h1 : ∀ u ∈ news, u.oneCell' = true)
    (h63 : n + m ≤ maxLen) (hbytes : (n + m) * bytes ≤ 140737488355328) (hbase : base ≤ w.heap.size)
    (h : ∀ v' w', w'.ownsRow base e size v' (n + m) (xs ++ news) → w.grownBy w' v.ownBlock → wpList P ops Q rest (a.put o.dst v') w') : wpList P ops Q (o :: rest) a w := by
  have h2 := hown2.2
  rcases h2 with ⟨h3, h4⟩ | ⟨g', cap, cur, h3, h4⟩
  · subst h3; subst h4
    have : news = [] := List.eq_nil_of_length_eq_zero (by omega)
    subst this
    refine wpList_append_own_none hgd s x t ho base e i size ht hi v n xs hs hown hx (h v w ?_ ?_)
    · simpa using hown
    · exact ⟨rfl, rfl, rfl, Nat.le_refl _, fun _ _ _ => rfl⟩
  · subst h3
    refine wpList_append_own w hgd s x t ho base e i z size bytes ht hi hz hsize hby hzs hsz v n xs hs hown ⟨g', 0, none⟩ m cap news hx hl (hown2.cells (g := g') rfl) h1 h63 hbytes hbase fun v' w' q1 q2 _ => h v' w' q1 q2
def ord : List Int → List Int → Int
  | [], [] => 0
  | [], _ :: _ => -1
  | _ :: _, [] => 1
  | x :: xs, y :: ys => if x < y then -1 else if y < x then 1 else ord xs ys
theorem ord_zero : ∀ xs ys : List Int, ord xs ys = 0 ↔ xs = ys
  | [], [] => by simp [ord]
  | [], _ :: _ => by simp [ord]
  | _ :: _, [] => by simp [ord]
  | x :: xs, y :: ys => by
    have ih := ord_zero xs ys
    unfold ord
    split
    · simp; omega
    · split
      · simp; omega
      · rw [ih]; simp; omega
theorem drop_cons {xs : List Int} {k : Nat} (h : k < xs.length) : xs.drop k = xs.getD k 0 :: xs.drop (k + 1) := by
  rw [List.drop_eq_getElem_cons h, List.getD_eq_getElem?_getD, List.getElem?_eq_getElem h]; rfl
theorem ord_at (xs ys : List Int) (k : Nat) (h1 : k < xs.length) (h2 : k < ys.length) : ord (xs.drop k) (ys.drop k) = if xs.getD k 0 < ys.getD k 0 then -1 else if ys.getD k 0 < xs.getD k 0 then 1 else ord (xs.drop (k + 1)) (ys.drop (k + 1)) := by
  rw [drop_cons h1, drop_cons h2]; rfl
/-- Nothing but the order's draws. -/
def Drew (w w' : World) : Prop := ∃ n, w' = w.drewN n
theorem Drew.refl (w : World) : Drew w w := ⟨0, rfl⟩
theorem Drew.more {w w' : World} (h : Drew w w') (n : Nat) : Drew w (w'.drewN n) := by
  obtain ⟨k, rfl⟩ := h
  exact ⟨k + n, by simp [World.drewN_drewN]⟩
theorem Drew.below {w w' : World} (h : Drew w w') (B : Nat) : Below B w w' := by
  obtain ⟨k, rfl⟩ := h
  exact below_drewN (Below.refl B w) k
theorem Lst.drew {w w1 : World} {k : IntKind} {A : Option Addr} {xs : List Int} (h : Lst w k A xs) (hb : Drew w w1) : Lst w1 k A xs := h.below (hb.below _)
def OrdRel (w : World) (xs ys : List Int) (i : Value) (wr : World) : Prop := ∃ k : Nat, k ≤ xs.length ∧ k ≤ ys.length ∧ i = .int .i64 k ∧ Drew w wr ∧ ord xs ys = ord (xs.drop k) (ys.drop k)
set_option maxHeartbeats 2000000 in
theorem order_calls {w : World} {A B : Option Addr} {c d : Nat} {xs ys : List Int} (hA : Lst w .u32 A xs) (hB : Lst w .u32 B ys) (hx : xs.length ≤ 1000000) (hy : ys.length ≤ 1000000) :
    Calls Try.prog 24 #[.slice A xs.length c, .slice B ys.length d] w fun e w' => e = .returned (.int .i64 (ord xs ys)) ∧ Drew w w' := by
  have HA := Lib.hid hA
  have HB := Lib.hid hB
  clear hA hB
  go_enter Try.func24, Try.ntmps24
  go_wp2_with fail
  go_loopw [5] (fun i wr => OrdRel w xs ys i wr) (fun i _ => xs.length - (intOf i).toNat)
  case atStart => exact ⟨0, Nat.zero_le _, Nat.zero_le _, rfl, Drew.refl _, rfl⟩
  case round =>
    obtain ⟨k, hk1, hk2, rfl, hdr, ho⟩ := hrel
    have HD := Lib.hid hdr
    have HO := Lib.hid ho
    clear ho hdr
    by_cases h1 : k < xs.length
    · by_cases h2 : k < ys.length
      · obtain ⟨a, rfl, q1⟩ := (Lst.drew HA.out HD.out) k h1
        obtain ⟨b, rfl, q2⟩ := (Lst.drew HB.out HD.out) k h2
        have ho := HO.out
        rw [ord_at xs ys k h1 h2] at ho
        generalize xs.getD k 0 = x at q1 ho
        generalize ys.getD k 0 = y at q2 ho
        have HP := Lib.hid ho
        clear ho
        by_cases c1 : x < y
        · go_wp2_with fail
          go_quiet (fail)
          go_wp2_with fail
          go_ret
          refine ⟨?_, HD.out.more _⟩
          rw [HP.out, if_pos c1]; rfl
        · by_cases c2 : y < x
          · go_wp2_with fail
            go_quiet (fail)
            go_wp2_with fail
            go_quiet (fail)
            go_wp2_with fail
            go_ret
            refine ⟨?_, (HD.out.more _).more _⟩
            rw [HP.out, if_neg (by omega), if_pos c2]; rfl
          · go_wp2_with fail
            go_quiet (fail)
            go_wp2_with fail
            go_quiet (fail)
            go_wp2_with fail
            go_roundw
            case rel => exact ⟨k + 1, h1, h2, by go_num, HD.out.more _, by rw [HP.out, if_neg (by omega), if_neg (by omega)]⟩
            case measure => simp [intOf]; omega
      · obtain rfl : k = ys.length := by omega
        go_wp2
        go_ret
        refine ⟨?_, HD.out⟩
        rw [HO.out, drop_cons h1, List.drop_length]; rfl
    · obtain rfl : k = xs.length := by omega
      by_cases h2 : xs.length < ys.length
      · go_wp2
        go_ret
        refine ⟨?_, HD.out⟩
        rw [HO.out, drop_cons h2, List.drop_length]; rfl
      · have h3 : xs.length = ys.length := by omega
        go_wp2
        go_ret
        refine ⟨?_, HD.out⟩
        rw [HO.out, List.drop_length, h3, List.drop_length]; rfl
theorem same_calls {w : World} {A B : Option Addr} {c d : Nat} {xs ys : List Int} (hA : Lst w .u32 A xs) (hB : Lst w .u32 B ys) (hx : xs.length ≤ 1000000) (hy : ys.length ≤ 1000000) :
    Calls Try.prog 14 #[.slice A xs.length c, .slice B ys.length d] w fun e w' => e = .returned (.bool (decide (xs = ys))) ∧ Drew w w' := by
  have HO := Lib.hid (order_calls (c := c) (d := d) hA hB hx hy)
  clear hA hB
  go_enter Try.func14, Try.ntmps14
  go_wp2_with (go_at_call 24; refine HO.out.mono ?_; rintro e w1 ⟨rfl, hd⟩; have HD := Lib.hid hd; clear hd)
  go_ret
  refine ⟨?_, HD.out⟩
  have : (ord xs ys == 0) = decide (xs = ys) := by
    rw [Bool.eq_iff_iff]
    simp [ord_zero]
  rw [this]
  rfl
end Go.Proofs.Ytkfiahildoljfaa.Lst
