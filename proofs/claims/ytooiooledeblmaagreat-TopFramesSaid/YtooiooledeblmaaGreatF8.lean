/- Punycode's text of a list, plain. strings.Builder: a byte written; its length. slices.Sort at uint32: the row that is sorted, and insertionSort, over the plain functions of Derived.Sort.Defs. slices.Sort at uint32: siftDown, heapSort, reverseRange. slices.Sort at uint32: heapSort, reverseRange. slices.Sort at uint32: order2, median, medianAdjacent. slices.Sort at uint32: choosePivot. slices.Sort at uint32: partitionEqual. slices.Sort at uint32: partition. -/
import Derived.Test.YtooiooledeblmaaGreatF7
import Derived.Sort.AssemblyPlain
import Derived.Lib.SlicesCompact
import Derived.Deep.AppendLies
import Derived.Sort.Row
import Derived.CellFam
import Derived.BigQuiet
section
namespace Go.Proofs.YtooiooledeblmaaGreat.Pun
open Go.RowKit Go.Sort
set_option linter.unusedVariables false
set_option linter.unusedSimpArgs false
def low (l : List Int) : List Int := l.filter (fun c => decide (c < 128))
def high (l : List Int) : List Int := l.filter (fun c => !decide (c < 128))
/-- The numbers from 80 on, each once, in their order. -/
def ms (l : List Int) : List Int := Lib.compact ((high l).mergeSort (fun x y => decide (x ≤ y)))
theorem ms_eq (l : List Int) : Lib.compactUpTo (Go.Sort.sort ltInt (high l).toArray) (high l).length = ms l := by
  have h := Go.Sort.sortInt (high l)
  have e : Go.Sort.sort ltInt (high l).toArray = ((high l).mergeSort (fun x y => decide (x ≤ y))).toArray := by rw [← h]
  rw [e]
  unfold ms Lib.compact
  rw [List.length_mergeSort]
theorem cmp_sorted (xs : List Int) (h : xs.Pairwise (fun x y => x ≤ y)) : (Lib.compact xs).Pairwise (fun x y => x < y) := by
  unfold Lib.compact Lib.compactUpTo
  rw [List.pairwise_map, List.pairwise_filter]
  refine List.Pairwise.imp_of_mem ?_ List.pairwise_lt_range
  intro i j hi hj hij _ hk
  rw [List.mem_range] at hi hj
  have hp := List.pairwise_iff_getElem.1 h
  unfold Lib.keeps at hk
  simp only [decide_eq_true_eq] at hk
  have e1 : xs.toArray[i]! = xs[i] := by simp [hi]
  have e2 : xs.toArray[j]! = xs[j] := by simp [hj]
  have e3 : xs.toArray[j - 1]! = xs[j - 1] := by rw [getElem!_pos _ _ (by simp; omega)]; simp
  rcases hk with hk | hk
  · omega
  · rw [e2, e3] at hk
    rw [e1, e2]
    have a1 : xs[i] ≤ xs[j - 1] := by
      by_cases e : i = j - 1
      · subst e; exact Int.le_refl _
      · exact hp i (j - 1) hi (by omega) (by omega)
    have a2 : xs[j - 1] ≤ xs[j] := hp (j - 1) j (by omega) hj (by omega)
    omega
theorem sort_pw (xs : List Int) : (xs.mergeSort (fun x y => decide (x ≤ y))).Pairwise (fun x y => x ≤ y) := by
  have := List.pairwise_mergeSort (le := fun x y : Int => decide (x ≤ y)) (by intro a b c; simp; omega) (by intro a b; simp; omega) xs
  exact this.imp (by simp)
theorem ms_sorted (l : List Int) : (ms l).Pairwise (fun x y => x < y) := cmp_sorted _ (sort_pw _)
theorem cmp_mem (xs : List Int) (x : Int) : x ∈ Lib.compact xs → x ∈ xs := by
  unfold Lib.compact Lib.compactUpTo
  rw [List.mem_map]
  rintro ⟨i, hi, rfl⟩
  rw [List.mem_filter, List.mem_range] at hi
  have e1 : xs.toArray[i]! = xs[i] := by simp [hi.1]
  rw [e1]
  exact List.getElem_mem _
theorem mem_cmp (xs : List Int) (h : xs.Pairwise (fun x y => x ≤ y)) (x : Int) (hx : x ∈ xs) : x ∈ Lib.compact xs := by
  unfold Lib.compact Lib.compactUpTo
  rw [List.mem_map]
  have hp := List.pairwise_iff_getElem.1 h
  have key : ∀ i, (hi : i < xs.length) → ∃ k, k ≤ i ∧ Lib.keeps xs.toArray k = true ∧ xs.toArray[k]! = xs.toArray[i]! := by
    intro i
    induction i with
    | zero => intro hi; exact ⟨0, Nat.le_refl _, Lib.keeps_lt_one _ 0 (by omega), rfl⟩
    | succ i ih =>
      intro hi
      by_cases e : xs.toArray[i + 1]! = xs.toArray[i]!
      · obtain ⟨k, hk, h1, h2⟩ := ih (by omega)
        exact ⟨k, by omega, h1, h2.trans e.symm⟩
      · exact ⟨i + 1, Nat.le_refl _, Lib.keeps_pos (by simpa using e), rfl⟩
  obtain ⟨i, hi, rfl⟩ := List.getElem_of_mem hx
  obtain ⟨k, hk, h1, h2⟩ := key i hi
  refine ⟨k, by rw [List.mem_filter, List.mem_range]; exact ⟨by omega, h1⟩, ?_⟩
  rw [h2]
  simp [hi]
theorem ms_mem (l : List Int) (x : Int) : x ∈ ms l ↔ x ∈ l ∧ 128 ≤ x := by
  unfold ms
  constructor
  · intro h
    have := cmp_mem _ _ h
    rw [List.mem_mergeSort] at this
    unfold high at this
    rw [List.mem_filter] at this
    simpa using this
  · rintro ⟨h1, h2⟩
    refine mem_cmp _ (sort_pw _) _ ?_
    rw [List.mem_mergeSort]
    unfold high
    rw [List.mem_filter]
    simpa using ⟨h1, h2⟩
/-- Where the text stands: the difference so far, the bias, how many numbers are done, what is written. -/
structure PS where
  d : Int
  b : Int
  k : Nat
  o : List Int
def pin1 (m : Int) (st : Nat) (s : PS) (c : Int) : PS := if c < m then ⟨s.d + 1, s.b, s.k, s.o⟩ else if c = m then ⟨0, adaptS s.d ((s.k : Int) + 1) (s.k == st), s.k + 1, s.o ++ putS s.d s.b⟩ else s
def pout1 (l : List Int) (st : Nat) (p : Int × PS) (m : Int) : Int × PS :=
  let s := l.foldl (pin1 m st) ⟨p.2.d + (m - p.1) * ((p.2.k : Int) + 1), p.2.b, p.2.k, p.2.o⟩
  (m + 1, ⟨s.d + 1, s.b, s.k, s.o⟩)
def start0 (l : List Int) : List Int := low l ++ if 0 < (low l).length then [45] else []
/-- The text of a list. -/
def textP (l : List Int) : List Int := ((ms l).foldl (pout1 l (low l).length) (128, ⟨0, 72, (low l).length, start0 l⟩)).2.o
/-- How many stand below a number. -/
def cnt (l : List Int) (n : Int) : Nat := l.countP (fun c => decide (c < n))
def eqs (l : List Int) (n : Int) : Nat := l.countP (fun c => decide (c = n))
theorem cnt_le (l : List Int) (n : Int) : cnt l n ≤ l.length := List.countP_le_length
theorem cnt_succ (m : Int) : ∀ l : List Int, cnt l (m + 1) = cnt l m + eqs l m
  | [] => rfl
  | c :: l => by
    have := cnt_succ m l
    unfold cnt eqs at *
    simp only [List.countP_cons]
    generalize List.countP (fun c => decide (c < m + 1)) l = X at this ⊢
    generalize List.countP (fun c => decide (c < m)) l = Y at this ⊢
    generalize List.countP (fun c => decide (c = m)) l = Z at this ⊢
    by_cases h1 : c < m
    · simp [show c < m from h1, show c < m + 1 by omega, show ¬ c = m by omega]; omega
    · by_cases h2 : c = m
      · subst h2; simp [show c < c + 1 by omega, Int.lt_irrefl]; omega
      · simp [show ¬ c < m from h1, h2, show ¬ c < m + 1 by omega]; omega
theorem cnt_mono (n m : Int) (h : n ≤ m) : ∀ l : List Int, cnt l n ≤ cnt l m
  | [] => Nat.le_refl _
  | c :: l => by
    have := cnt_mono n m h l
    unfold cnt at *
    simp only [List.countP_cons]
    by_cases h1 : c < n
    · simp [h1, show c < m by omega]; omega
    · simp [h1]; omega
theorem eqs_take (l : List Int) (n : Int) (j : Nat) : eqs (l.take j) n ≤ eqs l n := by
  unfold eqs
  exact List.Sublist.countP_le (List.take_sublist j l)
/-- What holds ahead of each number from 80 on. -/
structure PInv (l : List Int) (n : Int) (s : PS) (rest : List Int) : Prop where
  n0 : 128 ≤ n
  n1 : n ≤ 1114112
  k1 : s.k ≤ cnt l n
  d0 : 0 ≤ s.d
  d1 : s.d ≤ 61 * n
  b0 : 0 ≤ s.b
  b1 : s.b ≤ 1000
  ol : s.o.length ≤ 12 * s.k + 1
  srt : rest.Pairwise (fun x y => x < y)
  lo : ∀ x ∈ rest, n ≤ x
  hi : ∀ x ∈ rest, x ≤ 1114111
/-- What holds within, behind the first j of the list. -/
structure PIn (l : List Int) (m : Int) (j : Nat) (s : PS) : Prop where
  k1 : s.k ≤ cnt l m + eqs (l.take j) m
  d0 : 0 ≤ s.d
  d1 : s.d ≤ 61 * m + j
  b0 : 0 ≤ s.b
  b1 : s.b ≤ 1000
  ol : s.o.length ≤ 12 * s.k + 1
theorem low_cnt (l : List Int) : (low l).length = cnt l 128 := by
  unfold low cnt
  rw [List.countP_eq_length_filter]
theorem start_len (l : List Int) : (start0 l).length ≤ (low l).length + 1 := by
  unfold start0
  rw [List.length_append]
  split <;> simp
theorem pinv_start (l : List Int) (hs : ∀ x ∈ l, x ≤ 1114111) : PInv l 128 ⟨0, 72, (low l).length, start0 l⟩ (ms l) := by
  refine ⟨by omega, by omega, by rw [low_cnt]; exact Nat.le_refl _, by simp, by simp, by simp, by simp, ?_, ms_sorted l, fun x hx => ((ms_mem l x).1 hx).2, fun x hx => hs x ((ms_mem l x).1 hx).1⟩
  have := start_len l
  simp only
  omega
theorem pin_start {l : List Int} {n m : Int} {s : PS} {rest : List Int} (hl : l.length ≤ 60) (h : PInv l n s (m :: rest)) : PIn l m 0 ⟨s.d + (m - n) * ((s.k : Int) + 1), s.b, s.k, s.o⟩ := by
  have hm := h.lo m (by simp)
  have hk := h.k1
  have hc := cnt_le l n
  have hcm := cnt_mono n m hm l
  have h1 : (m - n) * ((s.k : Int) + 1) ≤ (m - n) * 61 := Int.mul_le_mul_of_nonneg_left (by omega) (by omega)
  have h2 : 0 ≤ (m - n) * ((s.k : Int) + 1) := Int.mul_nonneg (by omega) (by omega)
  have d0 := h.d0
  have d1 := h.d1
  exact ⟨by simp only; omega, by simp only; omega, by simp only; omega, h.b0, h.b1, h.ol⟩
theorem take_one (l : List Int) (j : Nat) (hj : j < l.length) (m : Int) : eqs (l.take (j + 1)) m = eqs (l.take j) m + if l.getD j 0 = m then 1 else 0 := by
  unfold eqs
  rw [List.take_succ_eq_append_getElem hj, List.countP_append, List.getD_eq_getElem?_getD, List.getElem?_eq_getElem hj]
  simp [List.countP_cons]
theorem pin_step {l : List Int} {m : Int} {j : Nat} {s : PS} (st : Nat) (hl : l.length ≤ 60) (hm0 : 128 ≤ m) (hm : m ≤ 1114111) (hj : j < l.length) (h : PIn l m j s) : PIn l m (j + 1) (pin1 m st s (l.getD j 0)) := by
  have hk := h.k1
  have hc := cnt_le l m
  have h2 := eqs_take l m j
  have h3 := cnt_succ m l
  have h4 := cnt_le l (m + 1)
  have ht := take_one l j hj m
  have d0 := h.d0
  have d1 := h.d1
  have ho := h.ol
  unfold pin1
  split
  · rename_i hlt
    rw [if_neg (by omega)] at ht
    exact ⟨by simp only; omega, by simp only; omega, by simp only; omega, h.b0, h.b1, h.ol⟩
  · split
    · rename_i hlt he
      rw [if_pos he] at ht
      have ha := (adapt_f s.d ((s.k : Int) + 1) (s.k == st) d0 (by omega) (by omega) (by omega)).1
      have hp := putS_len s.d s.b
      exact ⟨by simp only; omega, by simp, by simp only; omega, ha.1, ha.2, by simp only [List.length_append]; omega⟩
    · rename_i hlt he
      rw [if_neg he] at ht
      exact ⟨by omega, by omega, by omega, h.b0, h.b1, h.ol⟩
theorem pin_end {l : List Int} {n m : Int} {s s' : PS} {rest : List Int} (hl : l.length ≤ 60) (h : PInv l n s (m :: rest)) (h' : PIn l m l.length s') : PInv l (m + 1) ⟨s'.d + 1, s'.b, s'.k, s'.o⟩ rest := by
  have hm := h.lo m (by simp)
  have hm1 := h.hi m (by simp)
  have hp := List.pairwise_cons.1 h.srt
  have hk := h'.k1
  have n0 := h.n0
  rw [List.take_length] at hk
  have hc := cnt_succ m l
  have d0 := h'.d0
  have d1 := h'.d1
  exact ⟨by omega, by omega, by simp only; omega, by simp only; omega, by simp only; omega, h'.b0, h'.b1, h'.ol, hp.2, fun x hx => by have := hp.1 x hx; omega, fun x hx => h.hi x (List.mem_cons_of_mem _ hx)⟩
theorem pin_fold {l : List Int} {m : Int} (st : Nat) (hl : l.length ≤ 60) (hm0 : 128 ≤ m) (hm : m ≤ 1114111) : ∀ (n j : Nat) (s : PS), j + n = l.length → PIn l m j s → PIn l m l.length ((l.drop j).foldl (pin1 m st) s)
  | 0, j, s, hj, h => by
    rw [List.drop_of_length_le (by omega)]
    obtain rfl : j = l.length := by omega
    exact h
  | n + 1, j, s, hj, h => by
    rw [List.drop_eq_getElem_cons (by omega), List.foldl_cons]
    have := pin_step st hl hm0 hm (by omega) h
    rw [List.getD_eq_getElem?_getD, List.getElem?_eq_getElem (by omega)] at this
    exact pin_fold st hl hm0 hm n (j + 1) _ (by omega) this
theorem pout_fold {l : List Int} (hl : l.length ≤ 60) : ∀ (rest : List Int) (n : Int) (s : PS), PInv l n s rest → ∃ n', PInv l n' (rest.foldl (pout1 l (low l).length) (n, s)).2 []
  | [], n, s, h => ⟨n, h⟩
  | m :: rest, n, s, h => by
    have hm := h.lo m (by simp)
    have n0 := h.n0
    have h1 := pin_fold (low l).length hl (by omega) (h.hi m (by simp)) l.length 0 _ (by omega) (pin_start hl h)
    rw [List.drop_zero] at h1
    exact pout_fold hl rest (m + 1) _ (pin_end hl h h1)
theorem textP_len (l : List Int) (hl : l.length ≤ 60) (hs : ∀ x ∈ l, x ≤ 1114111) : (textP l).length ≤ 721 := by
  obtain ⟨n', h⟩ := pout_fold hl (ms l) 128 _ (pinv_start l hs)
  have h1 := h.ol
  have h2 := h.k1
  have h3 := cnt_le l n'
  unfold textP
  omega
/-- Nothing that is written is taken back. -/
theorem pin_mono (m : Int) (st : Nat) : ∀ (l : List Int) (s : PS), s.o.length ≤ (l.foldl (pin1 m st) s).o.length ∧ ((∃ c ∈ l, c = m) → 1 ≤ (l.foldl (pin1 m st) s).o.length)
  | [], s => ⟨Nat.le_refl _, by rintro ⟨c, hc, _⟩; cases hc⟩
  | c :: l, s => by
    obtain ⟨h1, h2⟩ := pin_mono m st l (pin1 m st s c)
    have h3 : s.o.length ≤ (pin1 m st s c).o.length ∧ (c = m → 1 ≤ (pin1 m st s c).o.length) := by
      have hp := putS_len s.d s.b
      unfold pin1
      split
      · exact ⟨Nat.le_refl _, fun h => absurd h (by omega)⟩
      · split
        · exact ⟨by simp, fun _ => by simp only [List.length_append]; omega⟩
        · rename_i h; exact ⟨Nat.le_refl _, fun h' => absurd h' h⟩
    rw [List.foldl_cons]
    refine ⟨by omega, ?_⟩
    rintro ⟨x, hx, rfl⟩
    rcases List.mem_cons.1 hx with rfl | hx
    · have := h3.2 rfl; omega
    · exact h2 ⟨_, hx, rfl⟩
theorem pout_mono (l : List Int) (st : Nat) : ∀ (rest : List Int) (p : Int × PS), p.2.o.length ≤ (rest.foldl (pout1 l st) p).2.o.length ∧ ((∃ m ∈ rest, m ∈ l) → 1 ≤ (rest.foldl (pout1 l st) p).2.o.length)
  | [], p => ⟨Nat.le_refl _, by rintro ⟨c, hc, _⟩; cases hc⟩
  | m :: rest, p => by
    obtain ⟨h1, h2⟩ := pout_mono l st rest (pout1 l st p m)
    have h3 := pin_mono m st l ⟨p.2.d + (m - p.1) * ((p.2.k : Int) + 1), p.2.b, p.2.k, p.2.o⟩
    rw [List.foldl_cons]
    have e : (pout1 l st p m).2.o.length = (l.foldl (pin1 m st) ⟨p.2.d + (m - p.1) * ((p.2.k : Int) + 1), p.2.b, p.2.k, p.2.o⟩).o.length := rfl
    refine ⟨by have := h3.1; simp only at this; omega, ?_⟩
    rintro ⟨x, hx, hl⟩
    rcases List.mem_cons.1 hx with rfl | hx
    · have := h3.2 ⟨_, hl, rfl⟩; omega
    · exact h2 ⟨x, hx, hl⟩
theorem textP_pos (l : List Int) (h : 1 ≤ l.length) : 1 ≤ (textP l).length := by
  obtain ⟨h1, h2⟩ := pout_mono l (low l).length (ms l) (128, ⟨0, 72, (low l).length, start0 l⟩)
  unfold textP
  cases l with
  | nil => simp at h
  | cons c l =>
    by_cases hc : c < 128
    · have : 1 ≤ (start0 (c :: l)).length := by
        unfold start0 low
        simp [hc]
      simp only at h1
      omega
    · exact h2 ⟨c, (ms_mem _ _).2 ⟨by simp, by omega⟩, by simp⟩
end Go.Proofs.YtooiooledeblmaaGreat.Pun
end
section
namespace Go.Proofs.YtooiooledeblmaaGreat.Out
open Go.RowKit Go.Proofs.YtooiooledeblmaaGreat.Win Go.Proofs.YtooiooledeblmaaGreat.Stp Go.Proofs.YtooiooledeblmaaGreat.Lst
set_option linter.unusedVariables false
set_option linter.unusedSimpArgs false
theorem strCells_one (x : Int) (h0 : 0 ≤ x) (h1 : x ≤ 255) : Lib.strCells (strOfNums [x]) = [.int .u8 x] := by
  simp [Lib.strCells, strOfNums]
  omega
def BytePost (B b : Nat) (s : ByteArray) (x : Int) (w : World) (e : Ending) (w' : World) : Prop := e = .returned .nilIface ∧ BldAt B b (s ++ strOfNums [x]) w' ∧ Below B w w' ∧ Oth b w w'
set_option maxRecDepth 100000 in
set_option maxHeartbeats 1000000 in
theorem bld_byte {B b : Nat} {s : ByteArray} (x : Int) {w : World} (h : BldAt B b s w) (hs : s.size ≤ 10000000) (h0 : 0 ≤ x) (h1 : x ≤ 255) (hBw : B ≤ w.heap.size) : Calls Tryz.prog 162 #[.pointer (some ⟨b, 0, none⟩), .int .u8 x] w (BytePost B b s x w) := by
  obtain ⟨i0, hi, hz0, hz1, hz2⟩ := info_parts info_u8
  have HN : Hid (i0.zero = some (.int .u8 0) ∧ i0.size = 1 ∧ i0.bytes = 1 ∧ Tryz.prog.info? 5 = some i0) := ⟨hz0, hz1, hz2, hi⟩
  have HC := Lib.hid (copyCheck_calls h)
  have HX := Lib.hid (strCells_one x h0 h1)
  clear hz0 hz1 hz2 hi h
  go_enter Tryz.func162, Tryz.ntmps162
  go_wp2_with fail
  refine HC.out.mono ?_
  rintro e w1 ⟨rfl, h1, hb1, ho1⟩
  obtain ⟨hB, v, hbk, hown, hne⟩ := h1
  have c1 : w1.cell? ⟨b, 1, none⟩ = some v := by rw [cell_of hbk]; rfl
  have hlt : b < w1.heap.size := (Array.getElem?_eq_some_iff.1 hbk).1
  have hs1 : (Lib.strCells s).length = s.size := Lib.strCells_length s
  obtain ⟨wx, hwx⟩ : ∃ wx, wx = w1.alloc (.cells #[.int .u8 x] 5) := ⟨_, rfl⟩
  have hown2 := hown.alloc (.cells #[.int .u8 x] 5)
  have hnew := heap_alloc_new w1 (.cells #[.int .u8 x] 5)
  have HOwn := Lib.hid hown2
  have HOwn0 := Lib.hid hown
  have HNew := Lib.hid hnew
  have HBk := Lib.hid hbk
  have HNe := Lib.hid hne
  have HB1 := Lib.hid hb1
  have HO1 := Lib.hid ho1
  have HS1 := Lib.hid hs1
  have HLt := Lib.hid hlt
  clear hown hown2 hnew hbk hne hb1 ho1 hs1 hlt hwx
  go_wp2_with (at_builtin; refine wpList_append_lies _ rfl (.tmp 11) (.tmp 13) 68 rfl B 5 i0 (.int .u8 0) 1 1 Tryz.underlying68 HN.out.2.2.2 HN.out.1 HN.out.2.1 HN.out.2.2.1 rfl (by decide) v _ (Lib.strCells s) rfl HOwn.out ⟨w1.heap.size, 0, none⟩ 1 1 [.int .u8 x] rfl rfl ?c1 ?c2 (by decide) ?c3 ?c4 ?c5 _ rfl ?_; (case c1 => exact World.news_of_block HNew.out); (case c2 => intro u hu; simp at hu; subst hu; rfl); (case c3 => rw [HS1.out]; unfold maxLen; omega); (case c4 => rw [HS1.out]; omega); (case c5 => (have := HB1.out.size; simp; omega)); intro r c1' w2 hown' hgrow hat hlt2; have HB2 := Lib.hid (show w2.heap[b]? = some (.cells #[.pointer (some ⟨b, 0, none⟩), v] 70 (0, 0)) from (hgrow.block b (by have := HLt.out; simp; omega) (fun e => HNe.out e.symm)).trans ((Below.heap_alloc w1 _ b HLt.out).trans HBk.out)); have d1 : w2.cell? ⟨b, 1, none⟩ = some v := (by rw [cell_of HB2.out]; rfl); have f1 := frozen_of HB2.out 1; have HOwn2 := Lib.hid hown'; have HGr := Lib.hid hgrow; clear hown' hgrow hat hlt2)
  go_ret
  refine ⟨rfl, .inr ?_, ?_, ?_⟩
  · refine Lib.BuilderAt.put (T := 70) (e := 5) hB HB2.out (bs' := Lib.strCells (s ++ strOfNums [x])) ?_ (by decide)
    rw [strCells_append, List.length_append, HX.out]
    exact HOwn2.out
  · exact ((HB1.out.alloc (Nat.le_trans hBw HB1.out.size) _).grown HGr.out (by have := HB1.out.size; simp; omega) (fun k hk => (HOwn.out.lt k hk).1)).setCell (p := ⟨b, 1, none⟩) hB _
  · have ha : Oth b w1 (w1.alloc (.cells #[.int .u8 x] 5)) := (Lib.OthersKept.refl _ _ w1).alloc _
    refine Lib.OthersKept.setCell ((HO1.out.trans ha).grown HGr.out (fun g hg => ?_)) ⟨b, 1, none⟩ rfl _
    rcases HOwn.out.2 with ⟨hv, _⟩ | ⟨g', cap', cur, hv, _, hb, _⟩
    · rw [hv] at hg; cases hg
    · rw [hv] at hg
      simp [Value.ownBlock] at hg
      subst hg
      exact ⟨_, _, hb⟩
theorem bld_len {B b : Nat} {s : ByteArray} {w : World} (h : BldAt B b s w) : Calls Tryz.prog 163 #[.pointer (some ⟨b, 0, none⟩)] w fun e w' => e = .returned (.int .i64 s.size) ∧ w = w' := by
  have := Tryz.Builder_Len B b _ w h
  rw [Lib.strCells_length] at this
  exact this.mono fun _ _ ⟨h1, h2⟩ => ⟨h1, h2.symm⟩
end Go.Proofs.YtooiooledeblmaaGreat.Out
end
section
namespace Go.Proofs.YtooiooledeblmaaGreat.Srt
open Go.RowKit Go.Sort Go.Proofs.YtooiooledeblmaaGreat.Win Go.Proofs.YtooiooledeblmaaGreat.Stp Go.Proofs.YtooiooledeblmaaGreat.Lst
set_option linter.unusedVariables false
set_option linter.unusedSimpArgs false
/-- A block of cells stays one, of its type. -/
def Typ (g : Nat) (w w' : World) : Prop := ∀ cs T fz, w.heap[g]? = some (.cells cs T fz) → ∃ cs', w'.heap[g]? = some (.cells cs' T fz)
theorem Typ.same {g : Nat} {w w' : World} (h : w'.heap[g]? = w.heap[g]?) : Typ g w w' := fun cs T fz hc => ⟨cs, h.trans hc⟩
theorem Typ.refl (g : Nat) (w : World) : Typ g w w := Typ.same rfl
theorem Typ.trans {g : Nat} {w w1 w2 : World} (h : Typ g w w1) (k : Typ g w1 w2) : Typ g w w2 := fun cs T fz hc => by
  obtain ⟨cs1, h1⟩ := h cs T fz hc
  exact k cs1 T fz h1
theorem Typ.set (g : Nat) (w : World) (a : Addr) (v : Value) : Typ g w (w.setCell a v) := fun cs T fz hc => by
  unfold World.setCell
  simp only [Array.getElem?_modify]
  by_cases hk : a.block = g
  · simp [hk, hc]
  · simp [hk, hc]
theorem Typ.alloc {g : Nat} {w : World} (hg : g < w.heap.size) (o : Obj) : Typ g w (w.alloc o) := Typ.same (Below.heap_alloc w o g hg)
/-- The row at a place of a block holds d, and nothing else of the old blocks is turned. -/
structure On (w : World) (g q : Nat) (d : Array Int) (w' : World) : Prop where
  cell : ∀ t, t < d.size → w'.cell? ⟨g, q + t, none⟩ = some (.int .u32 d[t]!)
  free : ∀ t, t < d.size → w'.frozen? ⟨g, q + t, none⟩ = false
  chg : Chg (fun i => i = g) w w'
  old : g < w.heap.size
  typ : Typ g w w'
theorem On.refl {w w' : World} {g q : Nat} {d : Array Int} (h : On w g q d w') : On w' g q d w' := ⟨h.cell, h.free, Chg.refl _, Nat.lt_of_lt_of_le h.old h.chg.size, Typ.refl _ _⟩
theorem On.trans {w w1 w2 : World} {g q : Nat} {d d1 : Array Int} (h : On w g q d w1) (k : On w1 g q d1 w2) : On w g q d1 w2 :=
  ⟨k.cell, k.free, h.chg.trans k.chg, h.old, h.typ.trans k.typ⟩
theorem On.drewN {w w1 : World} {g q : Nat} {d : Array Int} (h : On w g q d w1) (n : Nat) : On w g q d (w1.drewN n) := ⟨h.cell, h.free, h.chg.trans (Chg.drewN _ n), h.old, h.typ⟩
theorem On.drew {w w1 : World} {g q : Nat} {d : Array Int} (h : On w g q d w1) : On w g q d w1.drew := ⟨h.cell, h.free, h.chg.trans (Chg.drew _), h.old, h.typ⟩
theorem set_free (w : World) (a b : Addr) (v : Value) : (w.setCell a v).frozen? b = w.frozen? b := by
  unfold World.frozen? World.setCell
  simp only [Array.getElem?_modify]
  by_cases hk : a.block = b.block
  · simp only [hk, if_true]
    cases w.heap[b.block]? with
    | none => rfl
    | some o => cases o <;> rfl
  · simp [hk]
theorem On.set {w w1 : World} {g q : Nat} {d : Array Int} (h : On w g q d w1) (j : Nat) (hj : j < d.size) (x : Int) : On w g q (d.setIfInBounds j x) (w1.setCell ⟨g, q + j, none⟩ (.int .u32 x)) := by
  refine ⟨fun t ht => ?_, fun t ht => ?_, h.chg.trans (Chg.set (S := fun i => i = g) w1 rfl (q + j) _), h.old, h.typ.trans (Typ.set _ _ _ _)⟩
  · rw [Array.size_setIfInBounds] at ht
    by_cases e : t = j
    · subst e
      rw [getElem!_set_same d t x hj]
      exact World.cell?_setCell_same _ _ _ (h.cell t ht)
    · rw [getElem!_set_other d j t x e, World.cell?_setCell_other _ _ _ _ (by intro hh; simp only [Addr.mk.injEq] at hh; omega)]
      exact h.cell t ht
  · rw [Array.size_setIfInBounds] at ht
    rw [set_free]
    exact h.free t ht
theorem On.swap {w w1 : World} {g q : Nat} {d : Array Int} (h : On w g q d w1) (j k : Nat) (hj : j < d.size) (hk : k < d.size) :
    On w g q (swp d j k) ((w1.setCell ⟨g, q + j, none⟩ (.int .u32 d[k]!)).setCell ⟨g, q + k, none⟩ (.int .u32 d[j]!)) :=
  (h.set j hj _).set k (by simpa using hk) _
theorem nan_calls (x : Int) (w : World) : Calls Tryz.prog 189 #[.int .u32 x] w fun e w' => e = .returned (.bool false) ∧ w' = w := by
  go_enter Tryz.func189, Tryz.ntmps189
  go_wp2_with fail
  go_ret
  exact ⟨by simp, rfl⟩
theorem less_calls (x y : Int) (w : World) : Calls Tryz.prog 178 #[.int .u32 x, .int .u32 y] w fun e w' => e = .returned (.bool (ltInt x y)) ∧ w' = w := by
  go_enter Tryz.func178, Tryz.ntmps178
  go_wp2_with (go_at_call 189; refine (nan_calls _ _).mono ?_; rintro e w' ⟨rfl, rfl⟩)
  go_ret
  exact ⟨rfl, rfl⟩
section
variable (a b i j : Nat) (d : Array Int)
theorem ins_go (hj : a < j) (hl : ltInt d[j]! d[j - 1]! = true) : insInner ltInt a j d = insInner ltInt a (j - 1) (swp d j (j - 1)) := by
  cases j with
  | zero => omega
  | succ k =>
    rw [insInner, if_pos]
    · rfl
    · simpa using ⟨by omega, hl⟩
theorem ins_stop (h : j ≤ a ∨ ltInt d[j]! d[j - 1]! = false) : insInner ltInt a j d = d := by
  cases j with
  | zero => rw [insInner]
  | succ k =>
    rw [insInner, if_neg]
    rcases h with h | h
    · simp; omega
    · simp at h ⊢
      intro _
      exact h
theorem out_go (h : i < b) : insOuter ltInt a b i d = insOuter ltInt a b (i + 1) (insInner ltInt a i d) := by rw [insOuter, if_pos h]
theorem out_stop (h : ¬ i < b) : insOuter ltInt a b i d = d := by rw [insOuter, if_neg h]
end
theorem insInner_size (a : Nat) : ∀ (j : Nat) (d : Array Int), (insInner ltInt a j d).size = d.size
  | 0, d => by rw [insInner]
  | j + 1, d => by
    rw [insInner]
    split
    · rw [insInner_size a j, size_swp]
    · rfl
/-- What a function that sorts within a row leaves behind it. -/
def Done (w : World) (g q : Nat) (d : Array Int) (e : Ending) (w' : World) : Prop := e = .returned (.tuple #[]) ∧ On w g q d w'
def OutRel (w : World) (g q a b N : Nat) (d : Array Int) (vi : Value) (wr : World) : Prop :=
  ∃ (i : Nat) (dk : Array Int), vi = .int .i64 i ∧ a < i ∧ i ≤ b + 1 ∧ dk.size = N ∧ On w g q dk wr ∧ insOuter ltInt a b i dk = insOuter ltInt a b (a + 1) d
def InnRel (w : World) (g q a i N : Nat) (d : Array Int) (vj : Value) (wr : World) : Prop :=
  ∃ (j : Nat) (dj : Array Int), vj = .int .i64 j ∧ a ≤ j ∧ j ≤ i ∧ dj.size = N ∧ On w g q dj wr ∧ insInner ltInt a j dj = insInner ltInt a i d
def natOf : Value → Nat | .int _ z => z.toNat | _ => 0
set_option maxHeartbeats 4000000 in
set_option maxRecDepth 1000000 in
theorem insertion_calls (g q N cap a b : Nat) (d : Array Int) (w : World) (hN : d.size = N) (hH : On w g q d w) (hab : a ≤ b) (hb : b ≤ N) (hsz : N < 4611686018427387904) :
    Calls Tryz.prog 172 #[.slice (some ⟨g, q, none⟩) N cap, .int .i64 a, .int .i64 b] w (Done w g q (insertionSort ltInt d a b)) := by
  go_enter Tryz.func172, Tryz.ntmps172
  go_wp2_with fail
  go_loopw [6] (OutRel w g q a b N d) (fun vi _ => b + 1 - natOf vi)
  case atStart => exact ⟨a + 1, d, by go_num, by omega, by omega, hN, hH, rfl⟩
  case round =>
    obtain ⟨i, dk, rfl, hai, hib, hsk, hwr, hO⟩ := hrel
    by_cases hlt : i < b
    · have HO := Lib.hid hO
      have HA := Lib.hid hwr
      clear hO hwr hH
      go_wp2_with fail
      go_loopw [7] (InnRel w g q a i N dk) (fun vj _ => natOf vj)
      case atStart => exact ⟨i, dk, rfl, by omega, Nat.le_refl _, hsk, HA.out, rfl⟩
      case round =>
        obtain ⟨j, dj, rfl, haj, hji, hsj, hw2, hI⟩ := hrel
        obtain ⟨G, hG⟩ : ∃ G : Nat → Int, ∀ t, G t = dj[t]! := ⟨fun t => dj[t]!, fun _ => rfl⟩
        have hcw : ∀ t, t < N → wr.cell? ⟨g, q + t, none⟩ = some (.int .u32 (G t)) := fun t ht => by rw [hG]; exact hw2.cell t (by omega)
        have hfw : ∀ t, t < N → wr.frozen? ⟨g, q + t, none⟩ = false := fun t ht => hw2.free t (by omega)
        have HW := Lib.hid hw2
        have HG := Lib.hid hG
        have HI := Lib.hid hI
        clear hw2 hG hI
        by_cases hja : a < j
        · go_wp2_with fail
          go_quiet ((go_at_call 178; exact Calls.quiet_of_same (less_calls _ _ _)))
          go_wp2_with fail
          · have hl : ltInt (G j) (G (j - 1)) = true := by assumption
            rw [HG.out, HG.out] at hl
            go_region
            all_goals go_wp2_with fail
            go_roundw
            case rel =>
              refine ⟨j - 1, swp dj j (j - 1), by congr 1; omega, by omega, by omega, by rw [size_swp]; exact hsj, ?_, by rw [← HI.out, ins_go a j dj hja hl]⟩
              rw [HG.out, HG.out]
              exact (HW.out.drewN _).swap j (j - 1) (by omega) (by omega)
            case measure => simp [natOf]; omega
          · have hl : ltInt (G j) (G (j - 1)) = false := by assumption
            rw [HG.out, HG.out] at hl
            go_roundw
            case rel => exact ⟨i + 1, dj, by go_num, by omega, by omega, hsj, HW.out.drewN _, by rw [← HO.out, out_go a b i dk hlt, ← HI.out, ins_stop a j dj (Or.inr hl)]⟩
            case measure => simp [natOf]; omega
        · go_wp2_with fail
          go_quiet ((go_at_call 178; exact Calls.quiet_of_same (less_calls _ _ _)))
          go_wp2_with fail
          go_roundw
          case rel => exact ⟨i + 1, dj, by go_num, by omega, by omega, hsj, HW.out.drewN _, by rw [← HO.out, out_go a b i dk hlt, ← HI.out, ins_stop a j dj (Or.inl (by omega))]⟩
          case measure => simp [natOf]; omega
    · go_wp2_with fail
      go_end0
      exact ⟨rfl, by unfold insertionSort; rw [← hO, out_stop a b i dk hlt]; exact hwr⟩
end Go.Proofs.YtooiooledeblmaaGreat.Srt
end
section
namespace Go.Proofs.YtooiooledeblmaaGreat.Srt
open Go.RowKit Go.Sort Go.Proofs.YtooiooledeblmaaGreat.Win Go.Proofs.YtooiooledeblmaaGreat.Stp Go.Proofs.YtooiooledeblmaaGreat.Lst
set_option linter.unusedVariables false
set_option linter.unusedSimpArgs false
section
variable (hi F root : Nat) (d : Array Int)
theorem sd_end (h : hi ≤ 2 * root + 1) : siftDown ltInt hi F root d = d := by rw [siftDown, dif_pos h]
theorem sd_two (h : 2 * root + 2 < hi) (hl : ltInt d[F + (2 * root + 1)]! d[F + (2 * root + 1) + 1]! = true) : siftDown ltInt hi F root d =
    if ltInt d[F + root]! d[F + (2 * root + 2)]! = true then siftDown ltInt hi F (2 * root + 2) (swp d (F + root) (F + (2 * root + 2))) else d := by
  rw [siftDown, dif_neg (by omega), if_pos (by rw [hl]; simp; omega)]
  by_cases hr : ltInt d[F + root]! d[F + (2 * root + 2)]! = true
  · rw [if_neg (by rw [hr]; simp), dif_pos h, if_pos hr]
  · rw [if_pos (by simpa using hr), if_neg hr]
theorem sd_one (h : 2 * root + 1 < hi) (hl : ¬ (2 * root + 2 < hi) ∨ ltInt d[F + (2 * root + 1)]! d[F + (2 * root + 1) + 1]! = false) : siftDown ltInt hi F root d =
    if ltInt d[F + root]! d[F + (2 * root + 1)]! = true then siftDown ltInt hi F (2 * root + 1) (swp d (F + root) (F + (2 * root + 1))) else d := by
  rw [siftDown, dif_neg (by omega), if_neg]
  · by_cases hr : ltInt d[F + root]! d[F + (2 * root + 1)]! = true
    · rw [if_neg (by rw [hr]; simp), if_pos hr]
    · rw [if_pos (by simpa using hr), if_neg hr]
  · rcases hl with hl | hl
    · simp; omega
    · simp [hl]
end
theorem siftDown_size (hi F : Nat) : ∀ (n root : Nat) (d : Array Int), hi - root ≤ n → (siftDown ltInt hi F root d).size = d.size
  | 0, root, d, h => by rw [sd_end _ _ _ _ (by omega)]
  | n + 1, root, d, h => by
    by_cases h1 : hi ≤ 2 * root + 1
    · rw [sd_end _ _ _ _ h1]
    · by_cases h2 : 2 * root + 2 < hi ∧ ltInt d[F + (2 * root + 1)]! d[F + (2 * root + 1) + 1]! = true
      · rw [sd_two hi F root d h2.1 h2.2]
        split
        · rw [siftDown_size hi F n _ _ (by omega), size_swp]
        · rfl
      · rw [sd_one hi F root d (by omega) (by simp only [not_and, Bool.not_eq_true] at h2; by_cases h3 : 2 * root + 2 < hi; exact Or.inr (h2 h3); exact Or.inl h3)]
        split
        · rw [siftDown_size hi F n _ _ (by omega), size_swp]
        · rfl
def SdRel (w : World) (g q hi F lo N : Nat) (d : Array Int) (vi : Value) (wr : World) : Prop :=
  ∃ (root : Nat) (dk : Array Int), vi = .int .i64 root ∧ root ≤ hi ∧ dk.size = N ∧ On w g q dk wr ∧ siftDown ltInt hi F root dk = siftDown ltInt hi F lo d
set_option maxHeartbeats 4000000 in
set_option maxRecDepth 1000000 in
theorem sift_calls (g q N cap lo hi F : Nat) (d : Array Int) (w : World) (hN : d.size = N) (hH : On w g q d w) (hlo : lo ≤ hi) (hb : F + hi ≤ N) (hsz : N < 4611686018427387904) :
    Calls Tryz.prog 184 #[.slice (some ⟨g, q, none⟩) N cap, .int .i64 lo, .int .i64 hi, .int .i64 F] w (Done w g q (siftDown ltInt hi F lo d)) := by
  go_enter Tryz.func184, Tryz.ntmps184
  go_wp2_with fail
  go_loopw [8] (SdRel w g q hi F lo N d) (fun vi _ => hi - natOf vi)
  case atStart => exact ⟨lo, d, rfl, hlo, hN, hH, rfl⟩
  case round =>
    obtain ⟨root, dk, rfl, hri, hsk, hw2, hO⟩ := hrel
    obtain ⟨G, hG⟩ : ∃ G : Nat → Int, ∀ t, G t = dk[t]! := ⟨fun t => dk[t]!, fun _ => rfl⟩
    have hcw : ∀ t, t < N → wr.cell? ⟨g, q + t, none⟩ = some (.int .u32 (G t)) := fun t ht => by rw [hG]; exact hw2.cell t (by omega)
    have hfw : ∀ t, t < N → wr.frozen? ⟨g, q + t, none⟩ = false := fun t ht => hw2.free t (by omega)
    have HW := Lib.hid hw2
    have HG := Lib.hid hG
    have HO := Lib.hid hO
    clear hw2 hG hO hH
    by_cases h0 : hi ≤ 2 * root + 1
    · have h0z : (hi : Int) ≤ 2 * (root : Int) + 1 := by omega
      go_wp2_with fail
      go_end0
      refine ⟨rfl, ?_⟩
      rw [← HO.out, sd_end _ _ _ _ h0]
      exact HW.out
    · have h0z : ¬ ((hi : Int) ≤ 2 * (root : Int) + 1) := by omega
      by_cases h1 : 2 * root + 2 < hi
      · have h1z : 2 * (root : Int) + 1 + 1 < (hi : Int) := by omega
        go_wp2_with fail
        go_quiet ((go_at_call 178; exact Calls.quiet_of_same (less_calls _ _ _)))
        go_wp2_with fail
        · have hL : ltInt (G (F + (2 * root + 1))) (G (F + (2 * root + 1) + 1)) = true := by assumption
          rw [HG.out, HG.out] at hL
          revert nq
          intro nq1
          have hcw2 : ∀ t, t < N → (wr.drewN nq1).cell? ⟨g, q + t, none⟩ = some (.int .u32 (G t)) := hcw
          have hfw2 : ∀ t, t < N → (wr.drewN nq1).frozen? ⟨g, q + t, none⟩ = false := hfw
          have HW2 := Lib.hid (HW.out.drewN nq1)
          clear hcw hfw HW
          generalize wr.drewN nq1 = wr2 at hcw2 hfw2 HW2 ⊢
          go_quiet ((go_at_call 178; exact Calls.quiet_of_same (less_calls _ _ _)))
          go_wp2_with fail
          · have hS : ltInt (G (F + root)) (G (F + (2 * root + 2))) = false := by
              have : (!ltInt (G (F + root)) (G (F + 2 * root + 2))) = true := by assumption
              rw [← Nat.add_assoc]
              simpa using this
            rw [HG.out, HG.out] at hS
            (try simp only [Exit.inBlock, Exit.then])
            refine bodyPost_ret (results_none rfl _ _ _) rfl ?_
            refine ⟨rfl, ?_⟩
            rw [← HO.out, sd_two hi F root dk h1 hL, if_neg (by rw [hS]; simp)]
            exact HW2.out.drewN _
          · have hS : ltInt (G (F + root)) (G (F + (2 * root + 2))) = true := by
              have : (!ltInt (G (F + root)) (G (F + 2 * root + 2))) = false := by assumption
              rw [← Nat.add_assoc]
              simpa using this
            rw [HG.out, HG.out] at hS
            have hcw3 : ∀ t, t < N → (wr2.drewN nq).cell? ⟨g, q + t, none⟩ = some (.int .u32 (G t)) := hcw2
            have hfw3 : ∀ t, t < N → (wr2.drewN nq).frozen? ⟨g, q + t, none⟩ = false := hfw2
            have HW3 := Lib.hid (HW2.out.drewN nq)
            clear hcw2 hfw2 HW2
            generalize wr2.drewN nq = wr3 at hcw3 hfw3 HW3 ⊢
            go_region
            all_goals go_wp2_with fail
            go_roundw
            case rel =>
              refine ⟨2 * root + 2, swp dk (F + root) (F + (2 * root + 2)), by first | (congr 1; done) | (congr 1; omega), by omega, by rw [size_swp]; exact hsk, ?_, by rw [← HO.out, sd_two hi F root dk h1 hL, if_pos hS]⟩
              rw [HG.out, HG.out]
              exact HW3.out.drew.swap _ _ (by omega) (by omega)
            case measure => simp [natOf]; omega
        · have hL : ltInt (G (F + (2 * root + 1))) (G (F + (2 * root + 1) + 1)) = false := by assumption
          rw [HG.out, HG.out] at hL
          revert nq
          intro nq1
          have hcw2 : ∀ t, t < N → (wr.drewN nq1).cell? ⟨g, q + t, none⟩ = some (.int .u32 (G t)) := hcw
          have hfw2 : ∀ t, t < N → (wr.drewN nq1).frozen? ⟨g, q + t, none⟩ = false := hfw
          have HW2 := Lib.hid (HW.out.drewN nq1)
          clear hcw hfw HW
          generalize wr.drewN nq1 = wr2 at hcw2 hfw2 HW2 ⊢
          go_quiet ((go_at_call 178; exact Calls.quiet_of_same (less_calls _ _ _)))
          go_wp2_with fail
          · have hS : ltInt (G (F + root)) (G (F + (2 * root + 1))) = false := by
              have : (!ltInt (G (F + root)) (G (F + 2 * root + 1))) = true := by assumption
              rw [← Nat.add_assoc]
              simpa using this
            rw [HG.out, HG.out] at hS
            (try simp only [Exit.inBlock, Exit.then])
            refine bodyPost_ret (results_none rfl _ _ _) rfl ?_
            refine ⟨rfl, ?_⟩
            rw [← HO.out, sd_one hi F root dk (by omega) (Or.inr hL), if_neg (by rw [hS]; simp)]
            exact HW2.out.drewN _
          · have hS : ltInt (G (F + root)) (G (F + (2 * root + 1))) = true := by
              have : (!ltInt (G (F + root)) (G (F + 2 * root + 1))) = false := by assumption
              rw [← Nat.add_assoc]
              simpa using this
            rw [HG.out, HG.out] at hS
            have hcw3 : ∀ t, t < N → (wr2.drewN nq).cell? ⟨g, q + t, none⟩ = some (.int .u32 (G t)) := hcw2
            have hfw3 : ∀ t, t < N → (wr2.drewN nq).frozen? ⟨g, q + t, none⟩ = false := hfw2
            have HW3 := Lib.hid (HW2.out.drewN nq)
            clear hcw2 hfw2 HW2
            generalize wr2.drewN nq = wr3 at hcw3 hfw3 HW3 ⊢
            go_region
            all_goals go_wp2_with fail
            go_roundw
            case rel =>
              refine ⟨2 * root + 1, swp dk (F + root) (F + (2 * root + 1)), by first | (congr 1; done) | (congr 1; omega), by omega, by rw [size_swp]; exact hsk, ?_, by rw [← HO.out, sd_one hi F root dk (by omega) (Or.inr hL), if_pos hS]⟩
              rw [HG.out, HG.out]
              exact HW3.out.drew.swap _ _ (by omega) (by omega)
            case measure => simp [natOf]; omega
      · have h1z : ¬ (2 * (root : Int) + 1 + 1 < (hi : Int)) := by omega
        have h1b : decide (2 * (root : Int) + 1 + 1 < (hi : Int)) = false := decide_eq_false h1z
        go_wp2_with fail
        go_quiet ((go_at_call 178; exact Calls.quiet_of_same (less_calls _ _ _)))
        go_wp2_with fail
        revert nq
        intro nq1
        have hcw2 : ∀ t, t < N → (wr.drewN nq1).cell? ⟨g, q + t, none⟩ = some (.int .u32 (G t)) := hcw
        have hfw2 : ∀ t, t < N → (wr.drewN nq1).frozen? ⟨g, q + t, none⟩ = false := hfw
        have HW2 := Lib.hid (HW.out.drewN nq1)
        clear hcw hfw HW
        generalize wr.drewN nq1 = wr2 at hcw2 hfw2 HW2 ⊢
        go_quiet ((go_at_call 178; exact Calls.quiet_of_same (less_calls _ _ _)))
        go_wp2_with fail
        · have hS : ltInt (G (F + root)) (G (F + (2 * root + 1))) = false := by
            have : (!ltInt (G (F + root)) (G (F + 2 * root + 1))) = true := by assumption
            rw [← Nat.add_assoc]
            simpa using this
          rw [HG.out, HG.out] at hS
          (try simp only [Exit.inBlock, Exit.then])
          refine bodyPost_ret (results_none rfl _ _ _) rfl ?_
          refine ⟨rfl, ?_⟩
          rw [← HO.out, sd_one hi F root dk (by omega) (Or.inl h1), if_neg (by rw [hS]; simp)]
          exact HW2.out.drewN _
        · have hS : ltInt (G (F + root)) (G (F + (2 * root + 1))) = true := by
            have : (!ltInt (G (F + root)) (G (F + 2 * root + 1))) = false := by assumption
            rw [← Nat.add_assoc]
            simpa using this
          rw [HG.out, HG.out] at hS
          have hcw3 : ∀ t, t < N → (wr2.drewN nq).cell? ⟨g, q + t, none⟩ = some (.int .u32 (G t)) := hcw2
          have hfw3 : ∀ t, t < N → (wr2.drewN nq).frozen? ⟨g, q + t, none⟩ = false := hfw2
          have HW3 := Lib.hid (HW2.out.drewN nq)
          clear hcw2 hfw2 HW2
          generalize wr2.drewN nq = wr3 at hcw3 hfw3 HW3 ⊢
          go_region
          all_goals go_wp2_with fail
          go_roundw
          case rel =>
            refine ⟨2 * root + 1, swp dk (F + root) (F + (2 * root + 1)), by first | (congr 1; done) | (congr 1; omega), by omega, by rw [size_swp]; exact hsk, ?_, by rw [← HO.out, sd_one hi F root dk (by omega) (Or.inl h1), if_pos hS]⟩
            rw [HG.out, HG.out]
            exact HW3.out.drew.swap _ _ (by omega) (by omega)
          case measure => simp [natOf]; omega
end Go.Proofs.YtooiooledeblmaaGreat.Srt
end
section
namespace Go.Proofs.YtooiooledeblmaaGreat.Srt
open Go.RowKit Go.Sort Go.Proofs.YtooiooledeblmaaGreat.Win Go.Proofs.YtooiooledeblmaaGreat.Stp Go.Proofs.YtooiooledeblmaaGreat.Lst
set_option linter.unusedVariables false
set_option linter.unusedSimpArgs false
theorem sd_size (hi F root : Nat) (d : Array Int) : (siftDown ltInt hi F root d).size = d.size := siftDown_size hi F _ _ _ (Nat.le_refl _)
theorem rev_go (i j : Nat) (d : Array Int) (h : i < j) : reverseLoop i j d = reverseLoop (i + 1) (j - 1) (swp d i j) := by rw [reverseLoop, if_pos h]
theorem rev_stop (i j : Nat) (d : Array Int) (h : ¬ i < j) : reverseLoop i j d = d := by rw [reverseLoop, if_neg h]
theorem reverseLoop_size : ∀ (n i j : Nat) (d : Array Int), j - i ≤ n → (reverseLoop i j d).size = d.size
  | 0, i, j, d, h => by rw [rev_stop _ _ _ (by omega)]
  | n + 1, i, j, d, h => by
    by_cases h1 : i < j
    · rw [rev_go _ _ _ h1, reverseLoop_size n _ _ _ (by omega), size_swp]
    · rw [rev_stop _ _ _ h1]
def RevRel (w : World) (g q a b N : Nat) (d : Array Int) (vi vj : Value) (wr : World) : Prop :=
  ∃ (i j : Nat) (dk : Array Int), vi = .int .i64 i ∧ vj = .int .i64 j ∧ i ≤ N ∧ j < N ∧ dk.size = N ∧ On w g q dk wr ∧ reverseLoop i j dk = reverseLoop a (b - 1) d
set_option maxHeartbeats 4000000 in
set_option maxRecDepth 1000000 in
theorem reverse_calls (g q N cap a b : Nat) (d : Array Int) (w : World) (hN : d.size = N) (hH : On w g q d w) (hab : a < b) (hb : b ≤ N) (hsz : N < 4611686018427387904) :
    Calls Tryz.prog 176 #[.slice (some ⟨g, q, none⟩) N cap, .int .i64 a, .int .i64 b] w (Done w g q (reverseRange d a b)) := by
  go_enter Tryz.func176, Tryz.ntmps176
  go_wp2_with fail
  go_loopw [6, 7] (RevRel w g q a b N d) (fun vi vj _ => natOf vj)
  case atStart => exact ⟨a, b - 1, d, rfl, by congr 1; omega, by omega, by omega, hN, hH, rfl⟩
  case round =>
    obtain ⟨i, j, dk, rfl, rfl, hi, hj, hsk, hw2, hO⟩ := hrel
    obtain ⟨G, hG⟩ : ∃ G : Nat → Int, ∀ t, G t = dk[t]! := ⟨fun t => dk[t]!, fun _ => rfl⟩
    have hcw : ∀ t, t < N → wr.cell? ⟨g, q + t, none⟩ = some (.int .u32 (G t)) := fun t ht => by rw [hG]; exact hw2.cell t (by omega)
    have hfw : ∀ t, t < N → wr.frozen? ⟨g, q + t, none⟩ = false := fun t ht => hw2.free t (by omega)
    have HW := Lib.hid hw2
    have HG := Lib.hid hG
    have HO := Lib.hid hO
    clear hw2 hG hO hH
    by_cases h0 : i < j
    · go_wp2_with fail
      go_region
      all_goals go_wp2_with fail
      go_roundw
      case rel =>
        refine ⟨i + 1, j - 1, swp dk i j, by go_num, by congr 1; omega, by omega, by omega, by rw [size_swp]; exact hsk, ?_, by rw [← HO.out, rev_go _ _ _ h0]⟩
        rw [HG.out, HG.out]
        exact HW.out.drew.swap _ _ (by omega) (by omega)
      case measure => simp [natOf]; omega
    · go_wp2_with fail
      go_end0
      refine ⟨rfl, ?_⟩
      unfold reverseRange
      rw [← HO.out, rev_stop _ _ _ h0]
      exact HW.out
def HbRel (w : World) (g q hi F N : Nat) (d : Array Int) (vi : Value) (wr : World) : Prop :=
  ∃ (k : Nat) (dk : Array Int), vi = .int .i64 ((k : Int) - 1) ∧ k ≤ hi + 1 ∧ dk.size = N ∧ On w g q dk wr ∧ heapBuild ltInt hi F k dk = heapBuild ltInt hi F ((hi - 1) / 2 + 1) d
def HpRel (w : World) (g q hi F N : Nat) (d : Array Int) (vi : Value) (wr : World) : Prop :=
  ∃ (k : Nat) (dk : Array Int), vi = .int .i64 ((k : Int) - 1) ∧ k ≤ hi ∧ dk.size = N ∧ On w g q dk wr ∧ heapPop ltInt F k dk = heapPop ltInt F hi (heapBuild ltInt hi F ((hi - 1) / 2 + 1) d)
def upOf : Value → Nat | .int _ z => (z + 1).toNat | _ => 0
theorem Done.then {w w1 w2 : World} {g q : Nat} {d d1 : Array Int} {e : Ending} (h : On w g q d w1) (k : Done w1 g q d1 e w2) : Done w g q d1 e w2 := ⟨k.1, h.trans k.2⟩
set_option maxHeartbeats 4000000 in
set_option maxRecDepth 1000000 in
theorem heap_calls (g q N cap a b hi : Nat) (d : Array Int) (w : World) (hN : d.size = N) (hH : On w g q d w) (hhi : b = a + hi) (hb : b ≤ N) (hsz : N < 4611686018427387904) :
    Calls Tryz.prog 173 #[.slice (some ⟨g, q, none⟩) N cap, .int .i64 a, .int .i64 b] w (Done w g q (heapSort ltInt d a b)) := by
  obtain ⟨m, hm⟩ : ∃ m, m = (hi - 1) / 2 := ⟨_, rfl⟩
  have hq : Int.tdiv ((hi : Int) - 1) 2 = (m : Int) := by
    subst hm
    rcases Nat.eq_zero_or_pos hi with h | h
    · subst h; rfl
    · rw [show ((hi : Int) - 1) = ((hi - 1 : Nat) : Int) by omega]; rfl
  have hmh : m + 1 ≤ hi + 1 := by omega
  have HM := Lib.hid hm
  clear hm
  have hd : ((b : Int) - a) = (hi : Int) := by omega
  go_enter Tryz.func173, Tryz.ntmps173
  go_wp2_with fail
  rw [show ((a : Int) + hi - a) = (hi : Int) by omega, hq]
  go_loopw [9] (HbRel w g q hi a N d) (fun vi _ => upOf vi)
  case atStart => exact ⟨m + 1, d, by congr 1; omega, hmh, hN, hH, by rw [← HM.out]⟩
  case round =>
    obtain ⟨k, dk, rfl, hk, hsk, hw2, hO⟩ := hrel
    have HW := Lib.hid hw2
    have HO := Lib.hid hO
    have HH := Lib.hid hhi
    clear hw2 hO hH hhi hd hq
    have haN : a + hi ≤ N := by have := HH.out; omega
    cases k with
    | zero =>
      rw [show (((0 : Nat) : Int) - 1) = -1 from rfl]
      go_wp2_with fail
      go_loopw [10] (HpRel w g q hi a N d) (fun vi _ => upOf vi)
      case atStart => exact ⟨hi, dk, rfl, Nat.le_refl _, hsk, HW.out, by rw [← HO.out]; rfl⟩
      case round =>
        obtain ⟨k, dj, rfl, hk2, hsj, hw3, hP⟩ := hrel
        clear HW HO
        obtain ⟨G, hG⟩ : ∃ G : Nat → Int, ∀ t, G t = dj[t]! := ⟨fun t => dj[t]!, fun _ => rfl⟩
        have hcw : ∀ t, t < N → wr.cell? ⟨g, q + t, none⟩ = some (.int .u32 (G t)) := fun t ht => by rw [hG]; exact hw3.cell t (by omega)
        have hfw : ∀ t, t < N → wr.frozen? ⟨g, q + t, none⟩ = false := fun t ht => hw3.free t (by omega)
        have HW := Lib.hid hw3
        have HG := Lib.hid hG
        have HO := Lib.hid hP
        clear hw3 hG hP
        cases k with
        | zero =>
          rw [show (((0 : Nat) : Int) - 1) = -1 from rfl]
          go_wp2_with fail
          go_end0
          refine ⟨rfl, ?_⟩
          unfold heapSort
          rw [show b - a = hi by have := HH.out; omega, ← HO.out]
          exact HW.out
        | succ k =>
          rw [show (((k + 1 : Nat) : Int) - 1) = (k : Int) by omega]
          go_wp2_with fail
          by_cases hk0 : k = 0
          · subst hk0
            rw [show ((0 : Nat) : Int) = 0 from rfl]
            have HS : On w g q (swp dj a (a + 0)) (((wr.setCell ⟨g, q + a, none⟩ (.int .u32 (G (a)))).setCell ⟨g, q + (a), none⟩ (.int .u32 (G a))).drew) := by
              rw [HG.out]
              exact (HW.out.swap a (a + 0) (by omega) (by omega)).drew
            go_region
            all_goals go_wp2_with (go_at_call 184; refine (sift_calls g q N cap 0 0 a (swp dj a (a + 0)) _ (by rw [size_swp]; exact hsj) HS.refl (Nat.zero_le _) (by omega) hsz).mono ?_; rintro e1 w1 ⟨rfl, h1⟩)
            go_roundw
            case rel =>
             exact ⟨0, siftDown ltInt 0 a 0 (swp dj a (a + 0)), rfl, by omega, by rw [sd_size, size_swp]; exact hsj, HS.trans h1, by rw [← HO.out]; rfl⟩
            case measure => simp [upOf]
          · skip
            have HS : On w g q (swp dj a (a + k)) (((wr.setCell ⟨g, q + a, none⟩ (.int .u32 (G (a + k)))).setCell ⟨g, q + (a + k), none⟩ (.int .u32 (G a))).drew) := by
              rw [HG.out, HG.out]
              exact (HW.out.swap a (a + k) (by omega) (by omega)).drew
            go_region
            all_goals go_wp2_with (go_at_call 184; refine (sift_calls g q N cap 0 k a (swp dj a (a + k)) _ (by rw [size_swp]; exact hsj) HS.refl (Nat.zero_le _) (by omega) hsz).mono ?_; rintro e1 w1 ⟨rfl, h1⟩)
            go_roundw
            case rel => exact ⟨k, siftDown ltInt k a 0 (swp dj a (a + k)), rfl, by omega, by rw [sd_size, size_swp]; exact hsj, HS.trans h1, by rw [← HO.out]; rfl⟩
            case measure => simp [upOf]
    | succ k =>
      rw [show (((k + 1 : Nat) : Int) - 1) = (k : Int) by omega]
      go_wp2_with (go_at_call 184; refine (sift_calls g q N cap k hi a dk wr hsk HW.out.refl (by omega) haN hsz).mono ?_; rintro e1 w1 ⟨rfl, h1⟩)
      go_roundw
      case rel =>
        exact ⟨k, siftDown ltInt hi a k dk, rfl, by omega, by rw [sd_size]; exact hsk, HW.out.trans h1, by rw [← HO.out]; rfl⟩
      case measure => simp [upOf]
end Go.Proofs.YtooiooledeblmaaGreat.Srt
end
section
namespace Go.Proofs.YtooiooledeblmaaGreat.Srt
open Go.RowKit Go.Sort Go.Proofs.YtooiooledeblmaaGreat.Win Go.Proofs.YtooiooledeblmaaGreat.Stp Go.Proofs.YtooiooledeblmaaGreat.Lst
set_option linter.unusedVariables false
set_option linter.unusedSimpArgs false
/-- The row at its place, and a counter of swaps in a block of its own. -/
structure Pv (w : World) (g q : Nat) (d : Array Int) (p s : Nat) (w' : World) : Prop where
  cell : ∀ t, t < d.size → w'.cell? ⟨g, q + t, none⟩ = some (.int .u32 d[t]!)
  free : ∀ t, t < d.size → w'.frozen? ⟨g, q + t, none⟩ = false
  cnt : w'.cell? ⟨p, 0, none⟩ = some (.int .i64 s)
  fre : w'.frozen? ⟨p, 0, none⟩ = false
  ne : p ≠ g
  chg : Chg (fun i => i = p) w w'
  typ : Typ g w w'
theorem Pv.refl {w w' : World} {g q p s : Nat} {d : Array Int} (h : Pv w g q d p s w') : Pv w' g q d p s w' := ⟨h.cell, h.free, h.cnt, h.fre, h.ne, Chg.refl _, Typ.refl _ _⟩
theorem Pv.trans {w w1 w2 : World} {g q p s s1 : Nat} {d : Array Int} (h : Pv w g q d p s w1) (k : Pv w1 g q d p s1 w2) : Pv w g q d p s1 w2 :=
  ⟨k.cell, k.free, k.cnt, k.fre, k.ne, h.chg.trans k.chg, h.typ.trans k.typ⟩
theorem Pv.drewN {w w1 : World} {g q p s : Nat} {d : Array Int} (h : Pv w g q d p s w1) (n : Nat) : Pv w g q d p s (w1.drewN n) := ⟨h.cell, h.free, h.cnt, h.fre, h.ne, h.chg.trans (Chg.drewN _ n), h.typ⟩
theorem Pv.set {w w1 : World} {g q p s : Nat} {d : Array Int} (h : Pv w g q d p s w1) (s1 : Nat) : Pv w g q d p s1 (w1.setCell ⟨p, 0, none⟩ (.int .i64 s1)) :=
  ⟨fun t ht => by
    rw [World.cell?_setCell_other _ _ _ _ (by intro hh; simp only [Addr.mk.injEq] at hh; exact h.ne hh.1)]
    exact h.cell t ht, fun t ht => by rw [set_free]; exact h.free t ht, World.cell?_setCell_same _ _ _ h.cnt, by rw [set_free]; exact h.fre, h.ne, h.chg.trans (Chg.set (S := fun i => i = p) w1 rfl 0 _), h.typ.trans (Typ.set _ _ _ _)⟩
def OrdPost (w : World) (g q : Nat) (d : Array Int) (p : Nat) (r : Nat × Nat × Nat) (e : Ending) (w' : World) : Prop :=
  e = .returned (.tuple #[.int .i64 r.1, .int .i64 r.2.1]) ∧ Pv w g q d p r.2.2 w'
set_option maxHeartbeats 4000000 in
set_option maxRecDepth 1000000 in
theorem order2_calls (g q N cap a b p s : Nat) (d : Array Int) (w : World) (hN : d.size = N) (hH : Pv w g q d p s w) (ha : a < N) (hb : b < N) (hs : s < 1000000) (hsz : N < 4611686018427387904) :
    Calls Tryz.prog 190 #[.slice (some ⟨g, q, none⟩) N cap, .int .i64 a, .int .i64 b, .pointer (some ⟨p, 0, none⟩)] w (OrdPost w g q d p (order2 ltInt d a b s)) := by
  obtain ⟨G, hG⟩ : ∃ G : Nat → Int, ∀ t, G t = d[t]! := ⟨fun t => d[t]!, fun _ => rfl⟩
  have hcw : ∀ t, t < N → w.cell? ⟨g, q + t, none⟩ = some (.int .u32 (G t)) := fun t ht => by rw [hG]; exact hH.cell t (by omega)
  have hp := hH.cnt
  have hpf := hH.fre
  have HW := Lib.hid hH
  have HG := Lib.hid hG
  clear hG hH
  go_enter Tryz.func190, Tryz.ntmps190
  go_wp2_with fail
  go_quiet ((go_at_call 178; exact Calls.quiet_of_same (less_calls _ _ _)))
  have hp2 : (w.drewN nq).cell? ⟨p, 0, none⟩ = some (.int .i64 s) := hp
  have hpf2 : (w.drewN nq).frozen? ⟨p, 0, none⟩ = false := hpf
  go_wp2_with fail
  · have hl : ltInt (G b) (G a) = true := by assumption
    rw [HG.out, HG.out] at hl
    (try simp only [Exit.inBlock, Exit.then])
    refine bodyPost_ret (results_tmp2 rfl _ _ _) rfl ?_
    refine ⟨?_, ?_⟩
    · unfold order2; rw [if_pos hl]; rfl
    · unfold order2; rw [if_pos hl]; exact (HW.out.drewN nq).set (s + 1)
  · have hl : ltInt (G b) (G a) = false := by assumption
    rw [HG.out, HG.out] at hl
    (try simp only [Exit.inBlock, Exit.then])
    refine bodyPost_ret (results_tmp2 rfl _ _ _) rfl ?_
    refine ⟨?_, ?_⟩
    · unfold order2; rw [if_neg (by rw [hl]; simp)]; rfl
    · unfold order2; rw [if_neg (by rw [hl]; simp)]; exact HW.out.drewN nq
theorem order2_le (d : Array Int) (a b s N : Nat) (ha : a < N) (hb : b < N) : (order2 ltInt d a b s).1 < N ∧ (order2 ltInt d a b s).2.1 < N ∧ (order2 ltInt d a b s).2.2 ≤ s + 1 := by
  unfold order2
  split
  · exact ⟨hb, ha, Nat.le_refl _⟩
  · exact ⟨ha, hb, Nat.le_succ _⟩
def MedPost (w : World) (g q : Nat) (d : Array Int) (p : Nat) (r : Nat × Nat) (e : Ending) (w' : World) : Prop :=
  e = .returned (.int .i64 r.1) ∧ Pv w g q d p r.2 w'
theorem median_le (d : Array Int) (a b c s N : Nat) (ha : a < N) (hb : b < N) (hc : c < N) : (median ltInt d a b c s).1 < N ∧ (median ltInt d a b c s).2 ≤ s + 3 := by
  have h1 := order2_le d a b s N ha hb
  unfold median
  generalize order2 ltInt d a b s = r1 at h1 ⊢
  obtain ⟨x1, y1, s1⟩ := r1
  dsimp only at h1 ⊢
  have h2 := order2_le d y1 c s1 N h1.2.1 hc
  generalize order2 ltInt d y1 c s1 = r2 at h2 ⊢
  obtain ⟨x2, y2, s2⟩ := r2
  dsimp only at h2 ⊢
  have h3 := order2_le d x1 x2 s2 N h1.1 h2.1
  generalize order2 ltInt d x1 x2 s2 = r3 at h3 ⊢
  obtain ⟨x3, y3, s3⟩ := r3
  dsimp only at h3 ⊢
  exact ⟨h3.2.1, by omega⟩
set_option maxHeartbeats 4000000 in
set_option maxRecDepth 1000000 in
theorem median_calls (g q N cap a b c p s : Nat) (d : Array Int) (w : World) (hN : d.size = N) (hH : Pv w g q d p s w) (ha : a < N) (hb : b < N) (hc : c < N) (hs : s < 900000) (hsz : N < 4611686018427387904) :
    Calls Tryz.prog 188 #[.slice (some ⟨g, q, none⟩) N cap, .int .i64 a, .int .i64 b, .int .i64 c, .pointer (some ⟨p, 0, none⟩)] w (MedPost w g q d p (median ltInt d a b c s)) := by
  have h1 := order2_le d a b s N ha hb
  have c1 := order2_calls g q N cap a b p s d w hN hH ha hb (by omega) hsz
  unfold median
  generalize order2 ltInt d a b s = r1 at h1 c1 ⊢
  obtain ⟨x1, y1, s1⟩ := r1
  dsimp only at h1 c1 ⊢
  have h2 := order2_le d y1 c s1 N h1.2.1 hc
  have c2 := fun (w1 : World) (k : Pv w g q d p s1 w1) => order2_calls g q N cap y1 c p s1 d w1 hN k.refl h1.2.1 hc (by omega) hsz
  generalize order2 ltInt d y1 c s1 = r2 at h2 c2 ⊢
  obtain ⟨x2, y2, s2⟩ := r2
  dsimp only at h2 c2 ⊢
  have h3 := order2_le d x1 x2 s2 N h1.1 h2.1
  have c3 := fun (w1 : World) (k : Pv w g q d p s2 w1) => order2_calls g q N cap x1 x2 p s2 d w1 hN k.refl h1.1 h2.1 (by omega) hsz
  generalize order2 ltInt d x1 x2 s2 = r3 at h3 c3 ⊢
  obtain ⟨x3, y3, s3⟩ := r3
  dsimp only at h3 c3 ⊢
  have C1 := Lib.hid c1
  have C2 := Lib.hid c2
  have C3 := Lib.hid c3
  clear c1 c2 c3 hH
  go_enter Tryz.func188, Tryz.ntmps188
  go_upto_region 2 with (go_at_call 190; refine C1.out.mono ?_; rintro e1 w1 ⟨rfl, k1⟩)
  go_upto_region 3 with (go_at_call 190; refine (C2.out w1 k1).mono ?_; rintro e2 w2 ⟨rfl, k2⟩)
  go_wp2_with (go_at_call 190; refine (C3.out w2 (k1.trans k2)).mono ?_; rintro e3 w3 ⟨rfl, k3⟩)
  go_ret
  exact ⟨rfl, (k1.trans k2).trans k3⟩
set_option maxHeartbeats 4000000 in
set_option maxRecDepth 1000000 in
theorem adjacent_calls (g q N cap a p s : Nat) (d : Array Int) (w : World) (hN : d.size = N) (hH : Pv w g q d p s w) (ha : 0 < a) (hb : a + 1 < N) (hs : s < 900000) (hsz : N < 4611686018427387904) :
    Calls Tryz.prog 187 #[.slice (some ⟨g, q, none⟩) N cap, .int .i64 a, .pointer (some ⟨p, 0, none⟩)] w (MedPost w g q d p (medianAdjacent ltInt d a s)) := by
  have c1 := median_calls g q N cap (a - 1) a (a + 1) p s d w hN hH (by omega) (by omega) (by omega) hs hsz
  rw [show ((a - 1 : Nat) : Int) = (a : Int) - 1 by omega, show ((a + 1 : Nat) : Int) = (a : Int) + 1 by omega] at c1
  unfold medianAdjacent
  have C1 := Lib.hid c1
  clear c1 hH
  go_enter Tryz.func187, Tryz.ntmps187
  go_wp2_with (go_at_call 188; refine C1.out.mono ?_; rintro e1 w1 ⟨rfl, k1⟩)
  go_wp2_with fail
  go_ret
  exact ⟨rfl, k1⟩
end Go.Proofs.YtooiooledeblmaaGreat.Srt
end
section
namespace Go.Proofs.YtooiooledeblmaaGreat.Srt
open Go.RowKit Go.Sort Go.Proofs.YtooiooledeblmaaGreat.Win Go.Proofs.YtooiooledeblmaaGreat.Stp Go.Proofs.YtooiooledeblmaaGreat.Lst
set_option linter.unusedVariables false
set_option linter.unusedSimpArgs false
def hintN : Hint → Int
  | .unknown => 0
  | .increasing => 1
  | .decreasing => 2
theorem On.below {w w1 : World} {g q : Nat} {d : Array Int} (hw : g < w.heap.size) (hb : Below w.heap.size w w1) (h : On w g q d w) : On w g q d w1 :=
  ⟨fun t ht => (hb.cell hw).trans (h.cell t ht), fun t ht => (hb.frozen hw).trans (h.free t ht), Chg.of_below hb, hw, Typ.same (hb.block g hw)⟩
/-- A counter of swaps in a new block. -/
theorem On.pv {w : World} {g q : Nat} {d : Array Int} (h : On w g q d w) (t : TypeId) : Pv (w.alloc (.cells #[.int .i64 0] t (0, 0))) g q d w.heap.size 0 (w.alloc (.cells #[.int .i64 0] t (0, 0))) := by
  have hb : Below w.heap.size w (w.alloc (.cells #[.int .i64 0] t (0, 0))) := (Below.refl _ _).alloc (Nat.le_refl _) _
  exact ⟨(On.below h.old hb h).cell, (On.below h.old hb h).free, cell_of (heap_alloc_new _ _) 0, frozen_of (heap_alloc_new _ _) 0, fun e => by have := h.old; omega, Chg.refl _, Typ.refl _ _⟩
theorem Pv.on {w w1 : World} {g q s : Nat} {d : Array Int} {o : Obj} (hw : g < w.heap.size) (h : Pv (w.alloc o) g q d w.heap.size s w1) : On w g q d w1 :=
  ⟨h.cell, h.free, chg_then (Chg.alloc (S := fun i => i = g) w o) h.chg (fun i hi e => absurd hi (by omega)), hw, (Typ.alloc hw o).trans h.typ⟩
def PickPost (w : World) (g q : Nat) (d : Array Int) (r : Nat × Hint) (e : Ending) (w' : World) : Prop :=
  e = .returned (.tuple #[.int .i64 r.1, .int .i64 (hintN r.2)]) ∧ On w g q d w'
set_option maxHeartbeats 4000000 in
set_option maxRecDepth 1000000 in
theorem pick_calls (g q N cap a b l : Nat) (d : Array Int) (w : World) (hN : d.size = N) (hH : On w g q d w) (hl : b = a + l) (hb : b ≤ N) (hl1 : 8 ≤ l) (hsz : N < 1000000) :
    Calls Tryz.prog 175 #[.slice (some ⟨g, q, none⟩) N cap, .int .i64 a, .int .i64 b] w (PickPost w g q d (choosePivot ltInt d a b)) := by
  have hd : ((b : Int) - a) = (l : Int) := by omega
  have hlb : b - a = l := by omega
  obtain ⟨i, hi⟩ : ∃ i, i = a + l / 4 * 1 := ⟨_, rfl⟩
  obtain ⟨j, hj⟩ : ∃ j, j = a + l / 4 * 2 := ⟨_, rfl⟩
  obtain ⟨k, hk⟩ : ∃ k, k = a + l / 4 * 3 := ⟨_, rfl⟩
  have hP := hH.pv 3
  obtain ⟨R, hR⟩ : ∃ R, R = choosePivot ltInt d a b := ⟨_, rfl⟩
  rw [← hR]
  go_enter Tryz.func175, Tryz.ntmps175
  go_upto_region 6 with fail
  rw [show ((a : Int) + l - a) = (l : Int) by omega]
  rw [show ((a : Int) + (l : Int) / 4) = (i : Int) by omega, show ((a : Int) + (l : Int) / 4 * 2) = (j : Int) by omega, show ((a : Int) + (l : Int) / 4 * 3) = (k : Int) by omega]
  unfold choosePivot at hR
  simp only [hlb, ← hi, ← hj, ← hk] at hR
  rw [if_pos hl1] at hR
  have hi1 : 0 < i ∧ i + 1 < N := by omega
  have hj1 : 0 < j ∧ j + 1 < N := by omega
  have hk1 : 0 < k ∧ k + 1 < N := by omega
  clear hi hj hk hlb hd
  have hlz : (8 : Int) ≤ (l : Int) := by omega
  by_cases h50 : 50 ≤ l
  · have h50z : (50 : Int) ≤ (l : Int) := by omega
    rw [if_pos h50] at hR
    have m1 := median_le d (i - 1) i (i + 1) 0 N (by omega) (by omega) (by omega)
    have c1 := adjacent_calls g q N cap i w.heap.size 0 d _ hN hP hi1.1 hi1.2 (by omega) (by omega)
    change (medianAdjacent ltInt d i 0).1 < N ∧ (medianAdjacent ltInt d i 0).2 ≤ 0 + 3 at m1
    generalize medianAdjacent ltInt d i 0 = r1 at m1 c1 hR
    obtain ⟨x1, s1⟩ := r1
    dsimp only at m1 c1 hR
    have m2 := median_le d (j - 1) j (j + 1) s1 N (by omega) (by omega) (by omega)
    have c2 := fun (w1 : World) (k1 : Pv (w.alloc (.cells #[.int .i64 0] 3 (0, 0))) g q d w.heap.size s1 w1) => adjacent_calls g q N cap j w.heap.size s1 d w1 hN k1.refl hj1.1 hj1.2 (by omega) (by omega)
    change (medianAdjacent ltInt d j s1).1 < N ∧ (medianAdjacent ltInt d j s1).2 ≤ s1 + 3 at m2
    generalize medianAdjacent ltInt d j s1 = r2 at m2 c2 hR
    obtain ⟨x2, s2⟩ := r2
    dsimp only at m2 c2 hR
    have m3 := median_le d (k - 1) k (k + 1) s2 N (by omega) (by omega) (by omega)
    have c3 := fun (w1 : World) (k1 : Pv (w.alloc (.cells #[.int .i64 0] 3 (0, 0))) g q d w.heap.size s2 w1) => adjacent_calls g q N cap k w.heap.size s2 d w1 hN k1.refl hk1.1 hk1.2 (by omega) (by omega)
    change (medianAdjacent ltInt d k s2).1 < N ∧ (medianAdjacent ltInt d k s2).2 ≤ s2 + 3 at m3
    generalize medianAdjacent ltInt d k s2 = r3 at m3 c3 hR
    obtain ⟨x3, s3⟩ := r3
    dsimp only at m3 c3 hR
    have m4 := median_le d x1 x2 x3 s3 N m1.1 m2.1 m3.1
    have c4 := fun (w1 : World) (k1 : Pv (w.alloc (.cells #[.int .i64 0] 3 (0, 0))) g q d w.heap.size s3 w1) => median_calls g q N cap x1 x2 x3 w.heap.size s3 d w1 hN k1.refl m1.1 m2.1 m3.1 (by omega) (by omega)
    generalize median ltInt d x1 x2 x3 s3 = r4 at m4 c4 hR
    obtain ⟨x4, sm⟩ := r4
    dsimp only at m4 c4 hR
    have C1 := Lib.hid c1
    have C2 := Lib.hid c2
    have C3 := Lib.hid c3
    have C4 := Lib.hid c4
    have HR := Lib.hid hR
    clear c1 c2 c3 c4 hP hR
    go_upto_region 9 with (go_at_call 187; refine C1.out.mono ?_; rintro e1 w1 ⟨rfl, k1⟩)
    go_upto_region 10 with (go_at_call 187; refine (C2.out w1 k1).mono ?_; rintro e2 w2 ⟨rfl, k2⟩)
    have k12 := k1.trans k2
    go_upto_region 11 with (go_at_call 187; refine (C3.out w2 k12).mono ?_; rintro e3 w3 ⟨rfl, k3⟩)
    have k123 := k12.trans k3
    go_upto_region 12 with (go_at_call 188; refine (C4.out w3 k123).mono ?_; rintro e4 w4 ⟨rfl, k4⟩)
    have KM := k123.trans k4
    have hc := KM.cnt
    by_cases h0 : sm = 0
    · have h0z : ((sm : Nat) : Int) = 0 := by omega
      go_wp2_with fail
      (try simp only [Exit.inBlock, Exit.then])
      refine bodyPost_ret (results_tmp2 rfl _ _ _) rfl ?_
      exact ⟨by rw [HR.out, if_pos h0]; rfl, KM.on hH.old⟩
    · have h0z : ¬ ((sm : Nat) : Int) = 0 := by omega
      by_cases h2 : sm = 12
      · have h2z : ((sm : Nat) : Int) = 12 := by omega
        go_wp2_with fail
        (try simp only [Exit.inBlock, Exit.then])
        refine bodyPost_ret (results_tmp2 rfl _ _ _) rfl ?_
        exact ⟨by rw [HR.out, if_neg h0, if_pos h2]; rfl, KM.on hH.old⟩
      · have h2z : ¬ ((sm : Nat) : Int) = 12 := by omega
        go_wp2_with fail
        (try simp only [Exit.inBlock, Exit.then])
        refine bodyPost_ret (results_tmp2 rfl _ _ _) rfl ?_
        exact ⟨by rw [HR.out, if_neg h0, if_neg h2]; rfl, KM.on hH.old⟩
  · have h50z : ¬ (50 : Int) ≤ (l : Int) := by omega
    rw [if_neg h50] at hR
    have m4 := median_le d i j k 0 N (by omega) (by omega) (by omega)
    have c4 := median_calls g q N cap i j k w.heap.size 0 d _ hN hP (by omega) (by omega) (by omega) (by omega) (by omega)
    generalize median ltInt d i j k 0 = r4 at m4 c4 hR
    obtain ⟨x4, sm⟩ := r4
    dsimp only at m4 c4 hR
    have C4 := Lib.hid c4
    have HR := Lib.hid hR
    clear c4 hP hR
    go_upto_region 12 with (go_at_call 188; refine C4.out.mono ?_; rintro e4 w4 ⟨rfl, k4⟩)
    have KM := k4
    have hc := KM.cnt
    by_cases h0 : sm = 0
    · have h0z : ((sm : Nat) : Int) = 0 := by omega
      go_wp2_with fail
      (try simp only [Exit.inBlock, Exit.then])
      refine bodyPost_ret (results_tmp2 rfl _ _ _) rfl ?_
      exact ⟨by rw [HR.out, if_pos h0]; rfl, KM.on hH.old⟩
    · have h0z : ¬ ((sm : Nat) : Int) = 0 := by omega
      by_cases h2 : sm = 12
      · have h2z : ((sm : Nat) : Int) = 12 := by omega
        go_wp2_with fail
        (try simp only [Exit.inBlock, Exit.then])
        refine bodyPost_ret (results_tmp2 rfl _ _ _) rfl ?_
        exact ⟨by rw [HR.out, if_neg h0, if_pos h2]; rfl, KM.on hH.old⟩
      · have h2z : ¬ ((sm : Nat) : Int) = 12 := by omega
        go_wp2_with fail
        (try simp only [Exit.inBlock, Exit.then])
        refine bodyPost_ret (results_tmp2 rfl _ _ _) rfl ?_
        exact ⟨by rw [HR.out, if_neg h0, if_neg h2]; rfl, KM.on hH.old⟩
end Go.Proofs.YtooiooledeblmaaGreat.Srt
end
section
namespace Go.Proofs.YtooiooledeblmaaGreat.Srt
open Go.RowKit Go.Sort Go.Proofs.YtooiooledeblmaaGreat.Win Go.Proofs.YtooiooledeblmaaGreat.Stp Go.Proofs.YtooiooledeblmaaGreat.Lst
set_option linter.unusedVariables false
set_option linter.unusedSimpArgs false
section
variable (p : Int → Bool) (d : Array Int)
theorem up_go (j i : Nat) (h : i ≤ j) (hp : p d[i]! = true) : scanUp p d j i = scanUp p d j (i + 1) := by
  rw [scanUp, if_pos (by rw [hp]; simp; exact h)]
theorem up_stop (j i : Nat) (h : ¬ i ≤ j ∨ p d[i]! = false) : scanUp p d j i = i := by
  rw [scanUp, if_neg]
  rcases h with h | h
  · simp; omega
  · simp [h]
theorem down_go (i j : Nat) (h : i ≤ j) (hi : 0 < i) (hp : p d[j]! = true) : scanDown p d i j = scanDown p d i (j - 1) := by
  obtain ⟨k, rfl⟩ : ∃ k, j = k + 1 := ⟨j - 1, by omega⟩
  rw [scanDown, if_pos (by rw [hp]; simp; exact h)]
  rfl
theorem down_stop (i j : Nat) (h : ¬ i ≤ j ∨ p d[j]! = false) : scanDown p d i j = j := by
  cases j with
  | zero => rw [scanDown]
  | succ k =>
    rw [scanDown, if_neg]
    rcases h with h | h
    · simp; omega
    · simp [h]
end
theorem part_step (a i j i2 j2 : Nat) (d : Array Int) (h1 : scanUp (fun x => ltInt x d[a]!) d j i = i2) (h2 : scanDown (fun x => !ltInt x d[a]!) d i2 j = j2) (hi : i ≤ i2) (hj : j2 ≤ j) :
    partLoop ltInt a i j d = if j2 < i2 then (j2, d) else partLoop ltInt a (i2 + 1) (j2 - 1) (swp d i2 j2) := by
  rw [partLoop]
  simp only [h1, h2]
  by_cases h : j2 < i2
  · rw [if_pos h, if_pos h]
  · rw [if_neg h, if_neg h, dif_pos (by omega)]
theorem parteq_step (a i j i2 j2 : Nat) (d : Array Int) (h1 : scanUp (fun x => !ltInt d[a]! x) d j i = i2) (h2 : scanDown (fun x => ltInt d[a]! x) d i2 j = j2) (hi : i ≤ i2) (hj : j2 ≤ j) :
    partEqLoop ltInt a i j d = if j2 < i2 then (i2, d) else partEqLoop ltInt a (i2 + 1) (j2 - 1) (swp d i2 j2) := by
  rw [partEqLoop]
  simp only [h1, h2]
  by_cases h : j2 < i2
  · rw [if_pos h, if_pos h]
  · rw [if_neg h, if_neg h, dif_pos (by omega)]
def UpRel (w : World) (g q : Nat) (d : Array Int) (p : Int → Bool) (i0 j : Nat) (v : Value) (wr : World) : Prop :=
  ∃ i : Nat, v = .int .i64 i ∧ i0 ≤ i ∧ i ≤ j + 1 ∧ On w g q d wr ∧ scanUp p d j i = scanUp p d j i0
def DownRel (w : World) (g q : Nat) (d : Array Int) (p : Int → Bool) (i j0 : Nat) (v : Value) (wr : World) : Prop :=
  ∃ j : Nat, v = .int .i64 j ∧ i ≤ j + 1 ∧ j ≤ j0 ∧ On w g q d wr ∧ scanDown p d i j = scanDown p d i j0
theorem not_true {b : Bool} (h : (!b) = true) : b = false := by cases b <;> simp_all
theorem not_false {b : Bool} (h : (!b) = false) : b = true := by cases b <;> simp_all
theorem partEq_size (a : Nat) : ∀ (n i j : Nat) (d : Array Int), j + 1 - i ≤ n → (partEqLoop ltInt a i j d).2.size = d.size
  | 0, i, j, d, h => by
    rw [partEqLoop]
    split
    · rfl
    · rw [dif_neg (by omega)]
  | n + 1, i, j, d, h => by
    rw [partEqLoop]
    split
    · rfl
    · split
      · rw [partEq_size a n _ _ _ (by omega), size_swp]
      · rfl
theorem partitionEqual_size (a b p : Nat) (d : Array Int) : (partitionEqual ltInt d a b p).2.size = d.size := by
  unfold partitionEqual
  rw [partEq_size a _ _ _ _ (Nat.le_refl _), size_swp]
def PeRel (w : World) (g q a b N : Nat) (R : Nat × Array Int) (vi vj : Value) (wr : World) : Prop :=
  ∃ (i j : Nat) (dk : Array Int), vi = .int .i64 i ∧ vj = .int .i64 j ∧ a < i ∧ i ≤ j + 1 ∧ j < b ∧ dk.size = N ∧ On w g q dk wr ∧ partEqLoop ltInt a i j dk = R
def MidPost (w : World) (g q : Nat) (r : Nat × Array Int) (e : Ending) (w' : World) : Prop := e = .returned (.int .i64 r.1) ∧ On w g q r.2 w'
set_option maxHeartbeats 8000000 in
set_option maxRecDepth 1000000 in
theorem partEqual_calls (g q N cap a b p : Nat) (d : Array Int) (w : World) (hN : d.size = N) (hH : On w g q d w) (hab : a < b) (hb : b ≤ N) (hp : p < N) (hsz : N < 1000000) :
    Calls Tryz.prog 179 #[.slice (some ⟨g, q, none⟩) N cap, .int .i64 a, .int .i64 b, .int .i64 p] w (MidPost w g q (partitionEqual ltInt d a b p)) := by
  obtain ⟨G, hG⟩ : ∃ G : Nat → Int, ∀ t, G t = d[t]! := ⟨fun t => d[t]!, fun _ => rfl⟩
  have hcw : ∀ t, t < N → w.cell? ⟨g, q + t, none⟩ = some (.int .u32 (G t)) := fun t ht => by rw [hG]; exact hH.cell t (by omega)
  have hfw : ∀ t, t < N → w.frozen? ⟨g, q + t, none⟩ = false := fun t ht => hH.free t (by omega)
  obtain ⟨R, hR⟩ : ∃ R, partitionEqual ltInt d a b p = R := ⟨_, rfl⟩
  rw [hR]
  have HR := Lib.hid hR
  have HS : On w g q (swp d a p) (((w.setCell ⟨g, q + a, none⟩ (.int .u32 (G p))).setCell ⟨g, q + p, none⟩ (.int .u32 (G a))).drew) := by
    rw [hG, hG]
    exact (hH.swap a p (by omega) (by omega)).drew
  have HW := Lib.hid HS
  clear HS hG hR hH
  obtain ⟨y, hy⟩ : ∃ y, (w.setCell ⟨g, q + a, none⟩ (.int .u32 (G p))).cell? ⟨g, q + p, none⟩ = some y := by
    by_cases e : a = p
    · subst e
      exact ⟨_, World.cell?_setCell_same _ _ _ (hcw a (by omega))⟩
    · exact ⟨_, (World.cell?_setCell_other _ _ _ _ (by intro hh; simp only [Addr.mk.injEq] at hh; omega)).trans (hcw p (by omega))⟩
  have hyf : (w.setCell ⟨g, q + a, none⟩ (.int .u32 (G p))).frozen? ⟨g, q + p, none⟩ = false := by
    rw [set_free]
    exact hfw p (by omega)
  go_enter Tryz.func179, Tryz.ntmps179
  go_upto_region 1 with fail
  go_region
  all_goals go_wp2_with fail
  have HW0 := Lib.hid (show On w g q (swp d a p) _ from HW.out)
  clear hcw hfw hy hyf HW
  generalize hw0 : World.drew _ = w0 at HW0 ⊢
  go_loopw [9, 10] (PeRel w g q a b N R) (fun vi vj _ => natOf vj + 1 - natOf vi)
  case atStart => exact ⟨a + 1, b - 1, swp d a p, by go_num, by congr 1; omega, by omega, by omega, by omega, by rw [size_swp]; exact hN, HW0.out, HR.out⟩
  case round =>
    clear HR HW0
    obtain ⟨i, j, dk, rfl, rfl, hai, hij0, hjb, hsk, hw0, hI⟩ := hrel
    obtain ⟨G, hG⟩ : ∃ G : Nat → Int, ∀ t, G t = dk[t]! := ⟨fun t => dk[t]!, fun _ => rfl⟩
    have HG := Lib.hid hG
    have HW := Lib.hid hw0
    have HI := Lib.hid hI
    clear hG hw0 hI
    go_wp2_with fail
    go_loopw [9] (UpRel w g q dk (fun x => !ltInt dk[a]! x) i j) (fun v _ => j + 1 - natOf v)
    case atStart => exact ⟨i, by first | rfl | (congr 1; omega), Nat.le_refl _, by omega, HW.out, rfl⟩
    case round =>
      obtain ⟨i1, rfl, hi1, hi2, hwa1, hU⟩ := hrel
      have hcw : ∀ t, t < N → wr.cell? ⟨g, q + t, none⟩ = some (.int .u32 (G t)) := fun t ht => by rw [HG.out]; exact hwa1.cell t (by omega)
      have hfw : ∀ t, t < N → wr.frozen? ⟨g, q + t, none⟩ = false := fun t ht => hwa1.free t (by omega)
      have HW1 := Lib.hid hwa1
      have HU := Lib.hid hU
      clear hwa1 hU
      by_cases hij : i1 ≤ j
      · have hijz : ((i1 : Nat) : Int) ≤ ((j : Nat) : Int) := by omega
        go_wp2_with fail
        go_quiet ((go_at_call 178; exact Calls.quiet_of_same (less_calls _ _ _)))
        go_wp2_with fail
        · have hl : ltInt (G a) (G i1) = false := not_true (show (!ltInt (G a) (G i1)) = true by assumption)
          rw [HG.out, HG.out] at hl
          go_roundw
          case rel => exact ⟨i1 + 1, by go_num, by omega, by omega, HW1.out.drewN _, by rw [← HU.out, up_go _ _ _ _ hij (by simp [hl])]⟩
          case measure => simp [natOf]; omega
        · have hl : ltInt (G a) (G i1) = true := not_false (show (!ltInt (G a) (G i1)) = false by assumption)
          rw [HG.out, HG.out] at hl
          have hS : scanUp (fun x => !ltInt dk[a]! x) dk j i = i1 := by rw [← HU.out]; exact up_stop _ _ _ _ (Or.inr (by simp [hl]))
          have hE : i1 ≤ j → (fun x => !ltInt dk[a]! x) dk[i1]! = false := fun _ => by simp [hl]
          generalize ltInt (G a) (G i1) = bq
          have HS := Lib.hid hS
          have HE := Lib.hid hE
          have HW2 := Lib.hid (HW1.out.drewN nq)
          clear hS hE hcw hfw HW1 HU
          revert nq
          intro nq1 HW2
          go_loopw [10] (DownRel w g q dk (fun x => ltInt dk[a]! x) i1 j) (fun v _ => natOf v)
          case atStart => exact ⟨j, by first | rfl | (congr 1; omega), by omega, Nat.le_refl _, HW2.out, rfl⟩
          case round =>
            obtain ⟨j1, rfl, hj1, hj2, hwd, hD⟩ := hrel
            have hcw : ∀ t, t < N → wr.cell? ⟨g, q + t, none⟩ = some (.int .u32 (G t)) := fun t ht => by rw [HG.out]; exact hwd.cell t (by omega)
            have hfw : ∀ t, t < N → wr.frozen? ⟨g, q + t, none⟩ = false := fun t ht => hwd.free t (by omega)
            have HW3 := Lib.hid hwd
            have HD := Lib.hid hD
            clear hwd hD HW2
            by_cases hij1 : i1 ≤ j1
            · have hijz1 : ((i1 : Nat) : Int) ≤ ((j1 : Nat) : Int) := by omega
              go_wp2_with fail
              go_quiet ((go_at_call 178; exact Calls.quiet_of_same (less_calls _ _ _)))
              go_wp2_with fail
              · have hl2 : ltInt (G a) (G j1) = true := by assumption
                rw [HG.out, HG.out] at hl2
                go_roundw
                case rel => exact ⟨j1 - 1, by congr 1; omega, by omega, by omega, HW3.out.drewN _, by rw [← HD.out, down_go _ _ _ _ hij1 (by omega) (by exact hl2)]⟩
                case measure => simp [natOf]; omega
              · have hl2 : ltInt (G a) (G j1) = false := by assumption
                rw [HG.out, HG.out] at hl2
                have hne : i1 ≠ j1 := fun e => by
                  subst e
                  have h8 := HE.out (by omega)
                  simp [hl2] at h8
                have hijlt : i1 < j1 := by omega
                have hT : scanDown (fun x => ltInt dk[a]! x) dk i1 j = j1 := by rw [← HD.out]; exact down_stop _ _ _ _ (Or.inr (by exact hl2))
                have HT := Lib.hid hT
                have HW4 := Lib.hid (HW3.out.drewN nq)
                clear hT HW3 HD hcw hfw
                revert nq
                intro nq2 HW4
                have hz : ¬ ((j1 : Nat) : Int) < ((i1 : Nat) : Int) := by omega
                go_wp2_with fail
                have hcw : ∀ t, t < N → (wr.drewN nq2).cell? ⟨g, q + t, none⟩ = some (.int .u32 (G t)) := fun t ht => by rw [HG.out]; exact HW4.out.cell t (by omega)
                have hfw : ∀ t, t < N → (wr.drewN nq2).frozen? ⟨g, q + t, none⟩ = false := fun t ht => HW4.out.free t (by omega)
                have HW5 := Lib.hid ((HW4.out.swap i1 j1 (by omega) (by omega)))
                generalize wr.drewN nq2 = wr3 at hcw hfw HW5 HW4 ⊢
                go_region
                all_goals go_wp2_with fail
                go_roundw
                case rel =>
                  refine ⟨i1 + 1, j1 - 1, swp dk i1 j1, by go_num, by congr 1; omega, by omega, by omega, by omega, by rw [size_swp]; exact hsk, ?_, ?_⟩
                  · rw [HG.out, HG.out]
                    exact HW5.out.drew
                  · have e := parteq_step a i j i1 j1 dk HS.out HT.out (by omega) (by omega)
                    rw [if_neg (by omega)] at e
                    rw [← e]
                    exact HI.out
                case measure => simp [natOf]; omega
            · have hijz1 : ¬ ((i1 : Nat) : Int) ≤ ((j1 : Nat) : Int) := by omega
              go_wp2_with fail
              go_quiet ((go_at_call 178; exact Calls.quiet_of_same (less_calls _ _ _)))
              go_wp2_with fail
              have hT : scanDown (fun x => ltInt dk[a]! x) dk i1 j = j1 := by rw [← HD.out]; exact down_stop _ _ _ _ (Or.inl hij1)
              have HT := Lib.hid hT
              have HW4 := Lib.hid (HW3.out.drewN nq)
              clear hT HW3 HD hcw hfw
              revert nq
              intro nq2 HW4
              go_upto_region 7 with fail
              have hz : ((j1 : Nat) : Int) < ((i1 : Nat) : Int) := by omega
              go_wp2_with fail
              (try simp only [Exit.inBlock, Exit.then])
              go_ret
              have e := parteq_step a i j i1 j1 dk HS.out HT.out (by omega) (by omega)
              rw [if_pos (by omega)] at e
              have hr : R = (i1, dk) := by rw [← HI.out, e]
              rw [hr]
              exact ⟨rfl, HW4.out⟩
      · have hijz : ¬ ((i1 : Nat) : Int) ≤ ((j : Nat) : Int) := by omega
        have hijb : decide (((i1 : Nat) : Int) ≤ ((j : Nat) : Int)) = false := decide_eq_false hijz
        go_wp2_with fail
        go_quiet ((go_at_call 178; exact Calls.quiet_of_same (less_calls _ _ _)))
        go_wp2_with fail
        have hS : scanUp (fun x => !ltInt dk[a]! x) dk j i = i1 := by rw [← HU.out]; exact up_stop _ _ _ _ (Or.inl hij)
        have hE : i1 ≤ j → (fun x => !ltInt dk[a]! x) dk[i1]! = false := fun h => absurd h hij
        have HS := Lib.hid hS
        have HE := Lib.hid hE
        have HW2 := Lib.hid (HW1.out.drewN nq)
        clear hS hE hcw hfw HW1 HU
        revert nq
        intro nq1 HW2
        go_loopw [10] (DownRel w g q dk (fun x => ltInt dk[a]! x) i1 j) (fun v _ => natOf v)
        case atStart => exact ⟨j, by first | rfl | (congr 1; omega), by omega, Nat.le_refl _, HW2.out, rfl⟩
        case round =>
          obtain ⟨j1, rfl, hj1, hj2, hwd, hD⟩ := hrel
          have hcw : ∀ t, t < N → wr.cell? ⟨g, q + t, none⟩ = some (.int .u32 (G t)) := fun t ht => by rw [HG.out]; exact hwd.cell t (by omega)
          have hfw : ∀ t, t < N → wr.frozen? ⟨g, q + t, none⟩ = false := fun t ht => hwd.free t (by omega)
          have HW3 := Lib.hid hwd
          have HD := Lib.hid hD
          clear hwd hD HW2
          by_cases hij1 : i1 ≤ j1
          · exact absurd hij1 (by omega)
          · have hijz1 : ¬ ((i1 : Nat) : Int) ≤ ((j1 : Nat) : Int) := by omega
            go_wp2_with fail
            go_quiet ((go_at_call 178; exact Calls.quiet_of_same (less_calls _ _ _)))
            go_wp2_with fail
            have hT : scanDown (fun x => ltInt dk[a]! x) dk i1 j = j1 := by rw [← HD.out]; exact down_stop _ _ _ _ (Or.inl hij1)
            have HT := Lib.hid hT
            have HW4 := Lib.hid (HW3.out.drewN nq)
            clear hT HW3 HD hcw hfw
            revert nq
            intro nq2 HW4
            go_upto_region 7 with fail
            have hz : ((j1 : Nat) : Int) < ((i1 : Nat) : Int) := by omega
            go_wp2_with fail
            (try simp only [Exit.inBlock, Exit.then])
            go_ret
            have e := parteq_step a i j i1 j1 dk HS.out HT.out (by omega) (by omega)
            rw [if_pos (by omega)] at e
            have hr : R = (i1, dk) := by rw [← HI.out, e]
            rw [hr]
            exact ⟨rfl, HW4.out⟩
end Go.Proofs.YtooiooledeblmaaGreat.Srt
end
section
namespace Go.Proofs.YtooiooledeblmaaGreat.Srt
open Go.RowKit Go.Sort Go.Proofs.YtooiooledeblmaaGreat.Win Go.Proofs.YtooiooledeblmaaGreat.Stp Go.Proofs.YtooiooledeblmaaGreat.Lst
set_option linter.unusedVariables false
set_option linter.unusedSimpArgs false
theorem part_size (a : Nat) : ∀ (n i j : Nat) (d : Array Int), j + 1 - i ≤ n → (partLoop ltInt a i j d).2.size = d.size
  | 0, i, j, d, h => by
    rw [partLoop]
    split
    · rfl
    · rw [dif_neg (by omega)]
  | n + 1, i, j, d, h => by
    rw [partLoop]
    split
    · rfl
    · split
      · rw [part_size a n _ _ _ (by omega), size_swp]
      · rfl
theorem partition_size (a b p : Nat) (d : Array Int) : (Sort.partition ltInt d a b p).2.2.size = d.size := by
  unfold Sort.partition
  dsimp only
  split
  · rw [size_swp, size_swp]
  · dsimp only
    rw [size_swp, part_size a _ _ _ _ (Nat.le_refl _), size_swp, size_swp]
theorem partition_first (a b i1 j1 p : Nat) (d d1 : Array Int) (hd : swp d a p = d1) (h1 : scanUp (fun x => ltInt x d1[a]!) d1 (b - 1) (a + 1) = i1) (h2 : scanDown (fun x => !ltInt x d1[a]!) d1 i1 (b - 1) = j1) :
    Sort.partition ltInt d a b p = if j1 < i1 then (j1, true, swp d1 j1 a) else ((partLoop ltInt a (i1 + 1) (j1 - 1) (swp d1 i1 j1)).1, false, swp (partLoop ltInt a (i1 + 1) (j1 - 1) (swp d1 i1 j1)).2 (partLoop ltInt a (i1 + 1) (j1 - 1) (swp d1 i1 j1)).1 a) := by
  unfold Sort.partition
  simp only [hd, h1, h2]
def PtRel (w : World) (g q a b N : Nat) (R : Nat × Array Int) (vi vj : Value) (wr : World) : Prop :=
  ∃ (i j : Nat) (dk : Array Int), vi = .int .i64 i ∧ vj = .int .i64 j ∧ a < i ∧ i ≤ j + 1 ∧ j < b ∧ dk.size = N ∧ On w g q dk wr ∧ partLoop ltInt a i j dk = R
def PartPost (w : World) (g q : Nat) (r : Nat × Bool × Array Int) (e : Ending) (w' : World) : Prop := e = .returned (.tuple #[.int .i64 r.1, .bool r.2.1]) ∧ On w g q r.2.2 w'
/-- The second store of a swap finds its cell. -/
theorem swap_cell {w : World} {g q N : Nat} (a p : Nat) (v : Value) (hc : ∀ t, t < N → ∃ x, w.cell? ⟨g, q + t, none⟩ = some x) (hf : ∀ t, t < N → w.frozen? ⟨g, q + t, none⟩ = false) (ha : a < N) (hp : p < N) :
    (∃ y, (w.setCell ⟨g, q + a, none⟩ v).cell? ⟨g, q + p, none⟩ = some y) ∧ (w.setCell ⟨g, q + a, none⟩ v).frozen? ⟨g, q + p, none⟩ = false := by
  refine ⟨?_, by rw [set_free]; exact hf p hp⟩
  obtain ⟨x, hx⟩ := hc a ha
  obtain ⟨x2, hx2⟩ := hc p hp
  by_cases e : a = p
  · subst e
    exact ⟨_, World.cell?_setCell_same _ _ _ hx⟩
  · exact ⟨_, (World.cell?_setCell_other _ _ _ _ (by intro hh; simp only [Addr.mk.injEq] at hh; omega)).trans hx2⟩
set_option maxHeartbeats 8000000 in
set_option maxRecDepth 1000000 in
theorem partition_calls (g q N cap a b p : Nat) (d : Array Int) (w : World) (hN : d.size = N) (hH : On w g q d w) (hab : a < b) (hb : b ≤ N) (hp : p < N) (hsz : N < 1000000) :
    Calls Tryz.prog 180 #[.slice (some ⟨g, q, none⟩) N cap, .int .i64 a, .int .i64 b, .int .i64 p] w (PartPost w g q (Sort.partition ltInt d a b p)) := by
  obtain ⟨G, hG⟩ : ∃ G : Nat → Int, ∀ t, G t = d[t]! := ⟨fun t => d[t]!, fun _ => rfl⟩
  have hcw : ∀ t, t < N → w.cell? ⟨g, q + t, none⟩ = some (.int .u32 (G t)) := fun t ht => by rw [hG]; exact hH.cell t (by omega)
  have hfw : ∀ t, t < N → w.frozen? ⟨g, q + t, none⟩ = false := fun t ht => hH.free t (by omega)
  obtain ⟨R, hR⟩ : ∃ R, Sort.partition ltInt d a b p = R := ⟨_, rfl⟩
  rw [hR]
  obtain ⟨d1, hd1⟩ : ∃ d1, swp d a p = d1 := ⟨_, rfl⟩
  have HS : On w g q d1 (((w.setCell ⟨g, q + a, none⟩ (.int .u32 (G p))).setCell ⟨g, q + p, none⟩ (.int .u32 (G a))).drew) := by
    rw [← hd1, hG, hG]
    exact (hH.swap a p (by omega) (by omega)).drew
  have hs1 : d1.size = N := by rw [← hd1, size_swp]; exact hN
  have HF := Lib.hid (fun i1 j1 h1 h2 => hR ▸ partition_first a b i1 j1 p d d1 hd1 h1 h2)
  have HW9 := Lib.hid HS
  obtain ⟨⟨y, hy⟩, hyf⟩ := swap_cell (N := N) a p (.int .u32 (G p)) (fun t ht => ⟨_, hcw t ht⟩) hfw (by omega) hp
  clear HS hG hR hH hd1
  go_enter Tryz.func180, Tryz.ntmps180
  go_upto_region 1 with fail
  go_region
  all_goals go_wp2_with fail
  have HW0 := Lib.hid (show On w g q d1 _ from HW9.out)
  clear hcw hfw hy hyf HW9
  generalize hw0 : World.drew _ = w0 at HW0 ⊢
  clear hw0
  obtain ⟨G, hG⟩ : ∃ G : Nat → Int, ∀ t, G t = d1[t]! := ⟨fun t => d1[t]!, fun _ => rfl⟩
  have HG := Lib.hid hG
  have HW := HW0
  clear hG HW0
  go_loopw [10] (UpRel w g q d1 (fun x => ltInt x d1[a]!) (a + 1) (b - 1)) (fun v _ => (b - 1) + 1 - natOf v)
  case atStart => exact ⟨(a + 1), by first | rfl | (congr 1; omega), Nat.le_refl _, by omega, HW.out, rfl⟩
  case round =>
    obtain ⟨i1, rfl, hi1, hi2, hwa1, hU⟩ := hrel
    have hcw : ∀ t, t < N → wr.cell? ⟨g, q + t, none⟩ = some (.int .u32 (G t)) := fun t ht => by rw [HG.out]; exact hwa1.cell t (by omega)
    have hfw : ∀ t, t < N → wr.frozen? ⟨g, q + t, none⟩ = false := fun t ht => hwa1.free t (by omega)
    have HW1 := Lib.hid hwa1
    have HU := Lib.hid hU
    clear hwa1 hU
    by_cases hij : i1 ≤ (b - 1)
    · have hijz : ((i1 : Nat) : Int) ≤ (b : Int) - 1 := by omega
      go_wp2_with fail
      go_quiet ((go_at_call 178; exact Calls.quiet_of_same (less_calls _ _ _)))
      go_wp2_with fail
      · have hl : ltInt (G i1) (G a) = true := by assumption
        rw [HG.out, HG.out] at hl
        go_roundw
        case rel => exact ⟨i1 + 1, by go_num, by omega, by omega, HW1.out.drewN _, by rw [← HU.out, up_go _ _ _ _ hij (by exact hl)]⟩
        case measure => simp [natOf]; omega
      · have hl : ltInt (G i1) (G a) = false := by assumption
        rw [HG.out, HG.out] at hl
        have hS : scanUp (fun x => ltInt x d1[a]!) d1 (b - 1) (a + 1) = i1 := by rw [← HU.out]; exact up_stop _ _ _ _ (Or.inr (by exact hl))
        have hE : i1 ≤ (b - 1) → (fun x => ltInt x d1[a]!) d1[i1]! = false := fun _ => by exact hl
        generalize ltInt (G i1) (G a) = bq
        have HS := Lib.hid hS
        have HE := Lib.hid hE
        have HW2 := Lib.hid (HW1.out.drewN nq)
        clear hS hE hcw hfw HW1 HU
        revert nq
        intro nq1 HW2
        go_loopw [11] (DownRel w g q d1 (fun x => !ltInt x d1[a]!) i1 (b - 1)) (fun v _ => natOf v)
        case atStart => exact ⟨(b - 1), by first | rfl | (congr 1; omega), by omega, Nat.le_refl _, HW2.out, rfl⟩
        case round =>
          obtain ⟨j1, rfl, hj1, hj2, hwd, hD⟩ := hrel
          have hcw : ∀ t, t < N → wr.cell? ⟨g, q + t, none⟩ = some (.int .u32 (G t)) := fun t ht => by rw [HG.out]; exact hwd.cell t (by omega)
          have hfw : ∀ t, t < N → wr.frozen? ⟨g, q + t, none⟩ = false := fun t ht => hwd.free t (by omega)
          have HW3 := Lib.hid hwd
          have HD := Lib.hid hD
          clear hwd hD HW2
          by_cases hij1 : i1 ≤ j1
          · have hijz1 : ((i1 : Nat) : Int) ≤ ((j1 : Nat) : Int) := by omega
            go_wp2_with fail
            go_quiet ((go_at_call 178; exact Calls.quiet_of_same (less_calls _ _ _)))
            go_wp2_with fail
            · have hl2 : ltInt (G j1) (G a) = false := not_true (show (!ltInt (G j1) (G a)) = true by assumption)
              rw [HG.out, HG.out] at hl2
              go_roundw
              case rel => exact ⟨j1 - 1, by congr 1; omega, by omega, by omega, HW3.out.drewN _, by rw [← HD.out, down_go _ _ _ _ hij1 (by omega) (by simp [hl2])]⟩
              case measure => simp [natOf]; omega
            · have hl2 : ltInt (G j1) (G a) = true := not_false (show (!ltInt (G j1) (G a)) = false by assumption)
              rw [HG.out, HG.out] at hl2
              have hne : i1 ≠ j1 := fun e => by
                subst e
                have h8 := HE.out (by omega)
                simp [hl2] at h8
              have hijlt : i1 < j1 := by omega
              have hT : scanDown (fun x => !ltInt x d1[a]!) d1 i1 (b - 1) = j1 := by rw [← HD.out]; exact down_stop _ _ _ _ (Or.inr (by simp [hl2]))
              have HT := Lib.hid hT
              have HW4 := Lib.hid (HW3.out.drewN nq)
              clear hT HW3 HD hcw hfw
              revert nq
              intro nq2 HW4
              have hz : ¬ ((j1 : Nat) : Int) < ((i1 : Nat) : Int) := by omega
              have e := HF.out i1 j1 HS.out HT.out
              rw [if_neg (by omega)] at e
              obtain ⟨d2, hd2⟩ : ∃ d2, swp d1 i1 j1 = d2 := ⟨_, rfl⟩
              obtain ⟨i0, hi0⟩ : ∃ i0, i1 + 1 = i0 := ⟨_, rfl⟩
              obtain ⟨j0, hj0⟩ : ∃ j0, j1 - 1 = j0 := ⟨_, rfl⟩
              rw [hd2, hi0, hj0] at e
              have HR2 := Lib.hid e
              clear e
              go_upto_region 10 with fail
              have hcw : ∀ t, t < N → (wr.drewN nq2).cell? ⟨g, q + t, none⟩ = some (.int .u32 (G t)) := fun t ht => by rw [HG.out]; exact HW4.out.cell t (by omega)
              have hfw : ∀ t, t < N → (wr.drewN nq2).frozen? ⟨g, q + t, none⟩ = false := fun t ht => HW4.out.free t (by omega)
              have HW5 := Lib.hid ((HW4.out.swap i1 j1 (by omega) (by omega)))
              generalize wr.drewN nq2 = wr3 at hcw hfw HW5 HW4 ⊢
              go_region
              all_goals go_wp2_with fail
              have HW6 := Lib.hid (show On w g q d2 (((wr3.setCell ⟨g, q + i1, none⟩ (.int .u32 (G j1))).setCell ⟨g, q + j1, none⟩ (.int .u32 (G i1))).drew) by rw [HG.out, HG.out, ← hd2]; exact HW5.out.drew)
              have hs2 : d2.size = N := by rw [← hd2, size_swp]; exact hs1
              clear hcw hfw HW5 HW4 hd2 HF HS HT
              go_loopw [10, 11] (PtRel w g q a b N (partLoop ltInt a i0 j0 d2)) (fun vi vj _ => natOf vj + 1 - natOf vi)
              case atStart => exact ⟨i0, j0, d2, by first | (congr 1; done) | (congr 1; omega), by congr 1; omega, by omega, by omega, by omega, hs2, HW6.out, rfl⟩
              case round =>
                clear HW6 HG
                obtain ⟨i, j, dk, rfl, rfl, hai, hij0, hjb, hsk, hw0, hI⟩ := hrel
                obtain ⟨G, hG⟩ : ∃ G : Nat → Int, ∀ t, G t = dk[t]! := ⟨fun t => dk[t]!, fun _ => rfl⟩
                have HG := Lib.hid hG
                have HW := Lib.hid hw0
                have HI := Lib.hid hI
                clear hG hw0 hI
                go_wp2_with fail
                go_loopw [10] (UpRel w g q dk (fun x => ltInt x dk[a]!) i j) (fun v _ => j + 1 - natOf v)
                case atStart => exact ⟨i, by first | rfl | (congr 1; omega), Nat.le_refl _, by omega, HW.out, rfl⟩
                case round =>
                  obtain ⟨i1, rfl, hi1, hi2, hwb1, hU⟩ := hrel
                  have hcw : ∀ t, t < N → wr.cell? ⟨g, q + t, none⟩ = some (.int .u32 (G t)) := fun t ht => by rw [HG.out]; exact hwb1.cell t (by omega)
                  have hfw : ∀ t, t < N → wr.frozen? ⟨g, q + t, none⟩ = false := fun t ht => hwb1.free t (by omega)
                  have HW1 := Lib.hid hwb1
                  have HU := Lib.hid hU
                  clear hwb1 hU
                  by_cases hij : i1 ≤ j
                  · have hijz : ((i1 : Nat) : Int) ≤ ((j : Nat) : Int) := by omega
                    go_wp2_with fail
                    go_quiet ((go_at_call 178; exact Calls.quiet_of_same (less_calls _ _ _)))
                    go_wp2_with fail
                    · have hl : ltInt (G i1) (G a) = true := by assumption
                      rw [HG.out, HG.out] at hl
                      go_roundw
                      case rel => exact ⟨i1 + 1, by go_num, by omega, by omega, HW1.out.drewN _, by rw [← HU.out, up_go _ _ _ _ hij (by exact hl)]⟩
                      case measure => simp [natOf]; omega
                    · have hl : ltInt (G i1) (G a) = false := by assumption
                      rw [HG.out, HG.out] at hl
                      have hS : scanUp (fun x => ltInt x dk[a]!) dk j i = i1 := by rw [← HU.out]; exact up_stop _ _ _ _ (Or.inr (by exact hl))
                      have hE : i1 ≤ j → (fun x => ltInt x dk[a]!) dk[i1]! = false := fun _ => by exact hl
                      generalize ltInt (G i1) (G a) = bq
                      have HS := Lib.hid hS
                      have HE := Lib.hid hE
                      have HW2 := Lib.hid (HW1.out.drewN nq)
                      clear hS hE hcw hfw HW1 HU
                      revert nq
                      intro nq1 HW2
                      go_loopw [11] (DownRel w g q dk (fun x => !ltInt x dk[a]!) i1 j) (fun v _ => natOf v)
                      case atStart => exact ⟨j, by first | rfl | (congr 1; omega), by omega, Nat.le_refl _, HW2.out, rfl⟩
                      case round =>
                        obtain ⟨j1, rfl, hj1, hj2, hwd, hD⟩ := hrel
                        have hcw : ∀ t, t < N → wr.cell? ⟨g, q + t, none⟩ = some (.int .u32 (G t)) := fun t ht => by rw [HG.out]; exact hwd.cell t (by omega)
                        have hfw : ∀ t, t < N → wr.frozen? ⟨g, q + t, none⟩ = false := fun t ht => hwd.free t (by omega)
                        have HW3 := Lib.hid hwd
                        have HD := Lib.hid hD
                        clear hwd hD HW2
                        by_cases hij1 : i1 ≤ j1
                        · have hijz1 : ((i1 : Nat) : Int) ≤ ((j1 : Nat) : Int) := by omega
                          go_wp2_with fail
                          go_quiet ((go_at_call 178; exact Calls.quiet_of_same (less_calls _ _ _)))
                          go_wp2_with fail
                          · have hl2 : ltInt (G j1) (G a) = false := not_true (show (!ltInt (G j1) (G a)) = true by assumption)
                            rw [HG.out, HG.out] at hl2
                            go_roundw
                            case rel => exact ⟨j1 - 1, by congr 1; omega, by omega, by omega, HW3.out.drewN _, by rw [← HD.out, down_go _ _ _ _ hij1 (by omega) (by simp [hl2])]⟩
                            case measure => simp [natOf]; omega
                          · have hl2 : ltInt (G j1) (G a) = true := not_false (show (!ltInt (G j1) (G a)) = false by assumption)
                            rw [HG.out, HG.out] at hl2
                            have hne : i1 ≠ j1 := fun e => by
                              subst e
                              have h8 := HE.out (by omega)
                              simp [hl2] at h8
                            have hijlt : i1 < j1 := by omega
                            have hT : scanDown (fun x => !ltInt x dk[a]!) dk i1 j = j1 := by rw [← HD.out]; exact down_stop _ _ _ _ (Or.inr (by simp [hl2]))
                            have HT := Lib.hid hT
                            have HW4 := Lib.hid (HW3.out.drewN nq)
                            clear hT HW3 HD hcw hfw
                            revert nq
                            intro nq2 HW4
                            have hz : ¬ ((j1 : Nat) : Int) < ((i1 : Nat) : Int) := by omega
                            go_wp2_with fail
                            have hcw : ∀ t, t < N → (wr.drewN nq2).cell? ⟨g, q + t, none⟩ = some (.int .u32 (G t)) := fun t ht => by rw [HG.out]; exact HW4.out.cell t (by omega)
                            have hfw : ∀ t, t < N → (wr.drewN nq2).frozen? ⟨g, q + t, none⟩ = false := fun t ht => HW4.out.free t (by omega)
                            have HW5 := Lib.hid ((HW4.out.swap i1 j1 (by omega) (by omega)))
                            generalize wr.drewN nq2 = wr3 at hcw hfw HW5 HW4 ⊢
                            go_region
                            all_goals go_wp2_with fail
                            go_roundw
                            case rel =>
                              refine ⟨i1 + 1, j1 - 1, swp dk i1 j1, by go_num, by congr 1; omega, by omega, by omega, by omega, by rw [size_swp]; exact hsk, ?_, ?_⟩
                              · rw [HG.out, HG.out]
                                exact HW5.out.drew
                              · have e := part_step a i j i1 j1 dk HS.out HT.out (by omega) (by omega)
                                rw [if_neg (by omega)] at e
                                rw [← e]
                                exact HI.out
                            case measure => simp [natOf]; omega
                        · have hijz1 : ¬ ((i1 : Nat) : Int) ≤ ((j1 : Nat) : Int) := by omega
                          go_wp2_with fail
                          go_quiet ((go_at_call 178; exact Calls.quiet_of_same (less_calls _ _ _)))
                          go_wp2_with fail
                          have hT : scanDown (fun x => !ltInt x dk[a]!) dk i1 j = j1 := by rw [← HD.out]; exact down_stop _ _ _ _ (Or.inl hij1)
                          have HT := Lib.hid hT
                          have HW4 := Lib.hid (HW3.out.drewN nq)
                          clear hT HW3 HD hcw hfw
                          revert nq
                          intro nq2 HW4
                          have hz : ((j1 : Nat) : Int) < ((i1 : Nat) : Int) := by omega
                          have e := part_step a i j i1 j1 dk HS.out HT.out (by omega) (by omega)
                          rw [if_pos (by omega)] at e
                          have hr := Lib.hid (show partLoop ltInt a i0 j0 d2 = (j1, dk) by rw [← HI.out, e])
                          clear e
                          go_upto_region 21 with fail
                          have HW6 := HW4
                          clear HW4
                          generalize wr.drewN nq2 = wr3 at HW6 ⊢
                          have hcw : ∀ t, t < N → wr3.cell? ⟨g, q + t, none⟩ = some (.int .u32 (G t)) := fun t ht => by rw [HG.out]; exact HW6.out.cell t (by omega)
                          have hfw : ∀ t, t < N → wr3.frozen? ⟨g, q + t, none⟩ = false := fun t ht => HW6.out.free t (by omega)
                          have HW7 := Lib.hid ((HW6.out.swap j1 a (by omega) (by omega)).drew)
                          obtain ⟨⟨y, hy⟩, hyf⟩ := swap_cell (N := N) j1 a (.int .u32 (G a)) (fun t ht => ⟨_, hcw t ht⟩) hfw (by omega) (by omega)
                          go_region
                          all_goals go_wp2_with fail
                          (try simp only [Exit.inBlock, Exit.then])
                          refine bodyPost_ret (results_tmp2 rfl _ _ _) rfl ?_
                          rw [HR2.out, hr.out]
                          refine ⟨rfl, ?_⟩
                          rw [HG.out, HG.out]
                          exact HW7.out
                  · have hijz : ¬ ((i1 : Nat) : Int) ≤ ((j : Nat) : Int) := by omega
                    have hijb : decide (((i1 : Nat) : Int) ≤ ((j : Nat) : Int)) = false := decide_eq_false hijz
                    go_wp2_with fail
                    go_quiet ((go_at_call 178; exact Calls.quiet_of_same (less_calls _ _ _)))
                    go_wp2_with fail
                    have hS : scanUp (fun x => ltInt x dk[a]!) dk j i = i1 := by rw [← HU.out]; exact up_stop _ _ _ _ (Or.inl hij)
                    have hE : i1 ≤ j → (fun x => ltInt x dk[a]!) dk[i1]! = false := fun h => absurd h hij
                    have HS := Lib.hid hS
                    have HE := Lib.hid hE
                    have HW2 := Lib.hid (HW1.out.drewN nq)
                    clear hS hE hcw hfw HW1 HU
                    revert nq
                    intro nq1 HW2
                    go_loopw [11] (DownRel w g q dk (fun x => !ltInt x dk[a]!) i1 j) (fun v _ => natOf v)
                    case atStart => exact ⟨j, by first | rfl | (congr 1; omega), by omega, Nat.le_refl _, HW2.out, rfl⟩
                    case round =>
                      obtain ⟨j1, rfl, hj1, hj2, hwd, hD⟩ := hrel
                      have hcw : ∀ t, t < N → wr.cell? ⟨g, q + t, none⟩ = some (.int .u32 (G t)) := fun t ht => by rw [HG.out]; exact hwd.cell t (by omega)
                      have hfw : ∀ t, t < N → wr.frozen? ⟨g, q + t, none⟩ = false := fun t ht => hwd.free t (by omega)
                      have HW3 := Lib.hid hwd
                      have HD := Lib.hid hD
                      clear hwd hD HW2
                      by_cases hij1 : i1 ≤ j1
                      · exact absurd hij1 (by omega)
                      · have hijz1 : ¬ ((i1 : Nat) : Int) ≤ ((j1 : Nat) : Int) := by omega
                        go_wp2_with fail
                        go_quiet ((go_at_call 178; exact Calls.quiet_of_same (less_calls _ _ _)))
                        go_wp2_with fail
                        have hT : scanDown (fun x => !ltInt x dk[a]!) dk i1 j = j1 := by rw [← HD.out]; exact down_stop _ _ _ _ (Or.inl hij1)
                        have HT := Lib.hid hT
                        have HW4 := Lib.hid (HW3.out.drewN nq)
                        clear hT HW3 HD hcw hfw
                        revert nq
                        intro nq2 HW4
                        have hz : ((j1 : Nat) : Int) < ((i1 : Nat) : Int) := by omega
                        have e := part_step a i j i1 j1 dk HS.out HT.out (by omega) (by omega)
                        rw [if_pos (by omega)] at e
                        have hr := Lib.hid (show partLoop ltInt a i0 j0 d2 = (j1, dk) by rw [← HI.out, e])
                        clear e
                        go_upto_region 21 with fail
                        have HW6 := HW4
                        clear HW4
                        generalize wr.drewN nq2 = wr3 at HW6 ⊢
                        have hcw : ∀ t, t < N → wr3.cell? ⟨g, q + t, none⟩ = some (.int .u32 (G t)) := fun t ht => by rw [HG.out]; exact HW6.out.cell t (by omega)
                        have hfw : ∀ t, t < N → wr3.frozen? ⟨g, q + t, none⟩ = false := fun t ht => HW6.out.free t (by omega)
                        have HW7 := Lib.hid ((HW6.out.swap j1 a (by omega) (by omega)).drew)
                        obtain ⟨⟨y, hy⟩, hyf⟩ := swap_cell (N := N) j1 a (.int .u32 (G a)) (fun t ht => ⟨_, hcw t ht⟩) hfw (by omega) (by omega)
                        go_region
                        all_goals go_wp2_with fail
                        (try simp only [Exit.inBlock, Exit.then])
                        refine bodyPost_ret (results_tmp2 rfl _ _ _) rfl ?_
                        rw [HR2.out, hr.out]
                        refine ⟨rfl, ?_⟩
                        rw [HG.out, HG.out]
                        exact HW7.out
          · have hijz1 : ¬ ((i1 : Nat) : Int) ≤ ((j1 : Nat) : Int) := by omega
            go_wp2_with fail
            go_quiet ((go_at_call 178; exact Calls.quiet_of_same (less_calls _ _ _)))
            go_wp2_with fail
            have hT : scanDown (fun x => !ltInt x d1[a]!) d1 i1 (b - 1) = j1 := by rw [← HD.out]; exact down_stop _ _ _ _ (Or.inl hij1)
            have HT := Lib.hid hT
            have HW4 := Lib.hid (HW3.out.drewN nq)
            clear hT HW3 HD hcw hfw
            revert nq
            intro nq2 HW4
            have hz : ((j1 : Nat) : Int) < ((i1 : Nat) : Int) := by omega
            have e := HF.out i1 j1 HS.out HT.out
            rw [if_pos (by omega)] at e
            have HR2 := Lib.hid e
            clear e
            go_upto_region 8 with fail
            have HW6 := HW4
            clear HW4
            generalize wr.drewN nq2 = wr3 at HW6 ⊢
            have hcw : ∀ t, t < N → wr3.cell? ⟨g, q + t, none⟩ = some (.int .u32 (G t)) := fun t ht => by rw [HG.out]; exact HW6.out.cell t (by omega)
            have hfw : ∀ t, t < N → wr3.frozen? ⟨g, q + t, none⟩ = false := fun t ht => HW6.out.free t (by omega)
            have HW7 := Lib.hid ((HW6.out.swap j1 a (by omega) (by omega)).drew)
            obtain ⟨⟨y, hy⟩, hyf⟩ := swap_cell (N := N) j1 a (.int .u32 (G a)) (fun t ht => ⟨_, hcw t ht⟩) hfw (by omega) (by omega)
            go_region
            all_goals go_wp2_with fail
            (try simp only [Exit.inBlock, Exit.then])
            refine bodyPost_ret (results_tmp2 rfl _ _ _) rfl ?_
            rw [HR2.out]
            refine ⟨rfl, ?_⟩
            rw [HG.out, HG.out]
            exact HW7.out
    · have hijz : ¬ ((i1 : Nat) : Int) ≤ (b : Int) - 1 := by omega
      have hijb : decide (((i1 : Nat) : Int) ≤ (b : Int) - 1) = false := decide_eq_false hijz
      go_wp2_with fail
      go_quiet ((go_at_call 178; exact Calls.quiet_of_same (less_calls _ _ _)))
      go_wp2_with fail
      have hS : scanUp (fun x => ltInt x d1[a]!) d1 (b - 1) (a + 1) = i1 := by rw [← HU.out]; exact up_stop _ _ _ _ (Or.inl hij)
      have hE : i1 ≤ (b - 1) → (fun x => ltInt x d1[a]!) d1[i1]! = false := fun h => absurd h hij
      have HS := Lib.hid hS
      have HE := Lib.hid hE
      have HW2 := Lib.hid (HW1.out.drewN nq)
      clear hS hE hcw hfw HW1 HU
      revert nq
      intro nq1 HW2
      go_loopw [11] (DownRel w g q d1 (fun x => !ltInt x d1[a]!) i1 (b - 1)) (fun v _ => natOf v)
      case atStart => exact ⟨(b - 1), by first | rfl | (congr 1; omega), by omega, Nat.le_refl _, HW2.out, rfl⟩
      case round =>
        obtain ⟨j1, rfl, hj1, hj2, hwd, hD⟩ := hrel
        have hcw : ∀ t, t < N → wr.cell? ⟨g, q + t, none⟩ = some (.int .u32 (G t)) := fun t ht => by rw [HG.out]; exact hwd.cell t (by omega)
        have hfw : ∀ t, t < N → wr.frozen? ⟨g, q + t, none⟩ = false := fun t ht => hwd.free t (by omega)
        have HW3 := Lib.hid hwd
        have HD := Lib.hid hD
        clear hwd hD HW2
        by_cases hij1 : i1 ≤ j1
        · exact absurd hij1 (by omega)
        · have hijz1 : ¬ ((i1 : Nat) : Int) ≤ ((j1 : Nat) : Int) := by omega
          go_wp2_with fail
          go_quiet ((go_at_call 178; exact Calls.quiet_of_same (less_calls _ _ _)))
          go_wp2_with fail
          have hT : scanDown (fun x => !ltInt x d1[a]!) d1 i1 (b - 1) = j1 := by rw [← HD.out]; exact down_stop _ _ _ _ (Or.inl hij1)
          have HT := Lib.hid hT
          have HW4 := Lib.hid (HW3.out.drewN nq)
          clear hT HW3 HD hcw hfw
          revert nq
          intro nq2 HW4
          have hz : ((j1 : Nat) : Int) < ((i1 : Nat) : Int) := by omega
          have e := HF.out i1 j1 HS.out HT.out
          rw [if_pos (by omega)] at e
          have HR2 := Lib.hid e
          clear e
          go_upto_region 8 with fail
          have HW6 := HW4
          clear HW4
          generalize wr.drewN nq2 = wr3 at HW6 ⊢
          have hcw : ∀ t, t < N → wr3.cell? ⟨g, q + t, none⟩ = some (.int .u32 (G t)) := fun t ht => by rw [HG.out]; exact HW6.out.cell t (by omega)
          have hfw : ∀ t, t < N → wr3.frozen? ⟨g, q + t, none⟩ = false := fun t ht => HW6.out.free t (by omega)
          have HW7 := Lib.hid ((HW6.out.swap j1 a (by omega) (by omega)).drew)
          obtain ⟨⟨y, hy⟩, hyf⟩ := swap_cell (N := N) j1 a (.int .u32 (G a)) (fun t ht => ⟨_, hcw t ht⟩) hfw (by omega) (by omega)
          go_region
          all_goals go_wp2_with fail
          (try simp only [Exit.inBlock, Exit.then])
          refine bodyPost_ret (results_tmp2 rfl _ _ _) rfl ?_
          rw [HR2.out]
          refine ⟨rfl, ?_⟩
          rw [HG.out, HG.out]
          exact HW7.out
end Go.Proofs.YtooiooledeblmaaGreat.Srt
end
