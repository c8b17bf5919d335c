/- The law's little functions: great, awake. -/
import Derived.Test.YtkfiahildoljfaaWrite
namespace Go.Proofs.Ytkfiahildoljfaa.Enc
open Go.RowKit Go.Proofs.Ytkfiahildoljfaa.Win Go.Proofs.Ytkfiahildoljfaa.Stp Go.Proofs.Ytkfiahildoljfaa.Lst
set_option linter.unusedVariables false
set_option linter.unusedSimpArgs false
theorem great_calls (n : Int) (A B : Option Addr) (a b c d : Nat) (w : World) : Calls Try.prog 9 #[.int .i64 n, .slice A a c, .slice B b d] w fun e w' => e = .returned (.bool (decide (400 < n) || (decide (200 < a) || decide (200 < b)))) ∧ w = w' := by
  by_cases h1 : 400 < n
  · have e : (decide (400 < n) || (decide (200 < a) || decide (200 < b))) = true := by rw [Bool.eq_iff_iff]; simp; omega
    rw [e]
    clear e
    go_enter Try.func9, Try.ntmps9
    go_wp2
    go_ret
    exact ⟨rfl, rfl⟩
  · have e : (decide (400 < n) || (decide (200 < a) || decide (200 < b))) = (decide (200 < (a : Int)) || decide (200 < (b : Int))) := by rw [Bool.eq_iff_iff]; simp; omega
    rw [e]
    clear e
    go_enter Try.func9, Try.ntmps9
    go_wp2
    all_goals
      go_ret
      exact ⟨rfl, rfl⟩
theorem fed_all {b b' : B4} {m m' : E} {p p' l S : List Int} {room : Int} {n : Nat} (hg : b.going = true) (ha : ∀ x ∈ l, isB x = true) (hr : ((p ++ (pushes m l).2).length : Int) < room) (hf : FedE b m p l room n S b' m' p') :
    n = l.length ∧ S = p ++ (pushes m l).2 ∧ p' = [] ∧ m' = (pushes m l).1 ∧ b' = { b with at_ := b.at_ + l.length } := by
  rcases hf.way with ⟨_, h1, h2, _⟩ | ⟨h1, h2, h3, h4⟩
  · have := ha (l.getD n 0) (by rw [List.getD_eq_getElem?_getD, List.getElem?_eq_getElem h1]; exact List.getElem_mem _)
    rw [h2] at this; cases this
  · have hp : (pushes m l).2 = (pushes m (l.take n)).2 ++ (pushes (pushes m (l.take n)).1 (l.drop n)).2 := by
      have := pushes_append (l.take n) (l.drop n) m
      rw [List.take_append_drop] at this
      rw [this]
    have hl : S.length + p'.length = p.length + (pushes m (l.take n)).2.length := by rw [← List.length_append, h2, List.length_append]
    rw [hp, List.length_append, List.length_append] at hr
    have hp' : p' = [] := by
      rcases hf.full with h | h
      · exact h
      · exfalso; push_cast at hr; omega
    have hn : n = l.length := by
      rcases h4 with h | h | h
      · exact h
      · exact absurd hp' h
      · rw [hg] at h; cases h
    subst hn
    rw [List.take_length] at h1 h2
    rw [hp', List.append_nil] at h2
    exact ⟨rfl, h2, hp', h1, h3⟩
theorem fed_nil {b b' : B4} {m m' : E} {p p' S : List Int} {room : Int} {n : Nat} (hg : b.going = false) (hr : (p.length : Int) < room) (hf : FedE b m p [] room n S b' m' p') : n = 0 ∧ S = p ∧ p' = [] ∧ m' = m ∧ b' = b := by
  have hn : n = 0 := by have := hf.le; simpa using this
  subst hn
  rcases hf.way with ⟨h1, _⟩ | ⟨h1, h2, h3, _⟩
  · rw [hg] at h1; cases h1
  · have h2' : S ++ p' = p := by simpa [pushes] using h2
    have hl : S.length + p'.length = p.length := by rw [← List.length_append, h2']
    have hp' : p' = [] := by
      rcases hf.full with h | h
      · exact h
      · omega
    rw [hp', List.append_nil] at h2'
    refine ⟨rfl, h2', hp', h1, ?_⟩
    rw [h3]
    cases b
    simp
theorem lst_block {w : World} {g : Nat} {k : IntKind} {t : TypeId} (xs : List Int) (h : w.heap[g]? = some (.cells (xs.map fun x => Value.int k x).toArray t (0, 0))) : Lst w k (some ⟨g, 0, none⟩) xs := fun j hj => by
  refine ⟨_, rfl, ?_⟩
  have : (⟨g, 0, none⟩ : Addr).add j = ⟨g, j, none⟩ := by unfold Addr.add; split <;> simp_all
  rw [this, cell_of h]
  simp [List.getD_eq_getElem?_getD, hj]
theorem lst_chg {S : Nat → Prop} {w wx : World} {g : Nat} {k : IntKind} {t : TypeId} (xs : List Int) (h : w.heap[g]? = some (.cells (xs.map fun x => Value.int k x).toArray t (0, 0))) (hc : Chg S w wx) (hs : ¬ S g) : Lst wx k (some ⟨g, 0, none⟩) xs :=
  lst_block xs ((hc.block g (Array.getElem?_eq_some_iff.1 h).1 hs).trans h)
theorem tb {w w1 w2 : World} (h : Below w.heap.size w w1) (k : Below w1.heap.size w1 w2) : Below w.heap.size w w2 := h.trans ⟨k.os, k.tape, k.output, k.size, fun i hi => k.block i (Nat.lt_of_lt_of_le hi h.size)⟩
theorem v1 : (pushes (e0 false) [1052, 1086, 20013]).2 = [18, 156, 190] := by decide +kernel
theorem v2 : (flushC (pushes (e0 false) [1052, 1086, 20013]).1).2 = [14, 78, 45] := by decide +kernel
theorem v3 : (pushes (e0 true) [65279, 65, 128512]).2 = [14, 254, 255, 65] := by decide +kernel
theorem v4 : (flushC (pushes (e0 true) [65279, 65, 128512]).1).2 = [15, 216, 61, 222, 0] := by decide +kernel
theorem s1 : strOfNums [18, 156, 190] = { data := #[18, 156, 190] } := by rfl
theorem s2 : strOfNums [14, 78, 45] = { data := #[14, 78, 45] } := by rfl
theorem s3 : strOfNums [14, 254, 255, 65] = { data := #[14, 254, 255, 65] } := by rfl
theorem s4 : strOfNums [15, 216, 61, 222, 0] = { data := #[15, 216, 61, 222, 0] } := by rfl
theorem flush_wt {m : E} (h : Wt m) : Wt (flushC m).1 := by
  unfold flushC
  split
  · exact h
  · exact .inl rfl
def AwkPost (w : World) (e : Ending) (w' : World) : Prop := e = .returned (.bool true) ∧ Below w.heap.size w w'
set_option maxRecDepth 100000 in
set_option maxHeartbeats 8000000 in
theorem awake_calls (w : World) : Calls Try.prog 8 #[] w (AwkPost w) := by
  go_enter Try.func8, Try.ntmps8
  go_wp2_with fail
  refine (newEncoder_calls false _).mono ?_
  rintro e w1 ⟨rfl, hd, hb, hz⟩
  obtain ⟨g1, hg1⟩ : ∃ g, g = w.heap.size := ⟨_, rfl⟩
  rw [← hg1] at hd hz
  rw [← hg1]
  have HD := Lib.hid hd
  have HB1 := Lib.hid hb
  have HZ := Lib.hid (And.intro hz (show w.heap.size ≤ g1 by omega))
  clear hd hb hz hg1
  go_wp2_with fail
  refine (newEncoder_calls true _).mono ?_
  rintro e w2 ⟨rfl, hd, hb, hz⟩
  obtain ⟨g2, hg2⟩ : ∃ g, g = w1.heap.size := ⟨_, rfl⟩
  rw [← hg2] at hd hz
  rw [← hg2]
  have hne : g1 + 1 < g2 := by have := HZ.out; omega
  have hd1 := (HD.out.below hb).alloc (.cells #[.int .u32 1052, .int .u32 1086, .int .u32 20013] 35)
  have hnew := heap_alloc_new w2 (.cells #[.int .u32 1052, .int .u32 1086, .int .u32 20013] 35)
  have hsz : g2 + 1 < w2.heap.size := by omega
  have hf1 := feed_calls (A := some ⟨w2.heap.size, 0, none⟩) (cap := 3) (l := [1052, 1086, 20013]) 9 hd1 (eg0 false) (.inl rfl) (by decide) (by decide) (fun wx hc => lst_chg [1052, 1086, 20013] hnew hc (by rintro (h | h) <;> omega)) (by decide) (by decide) (by decide) (by decide) (by decide)
  have HF1 := Lib.hid hf1
  have HE2 := Lib.hid (hd.alloc (.cells #[.int .u32 1052, .int .u32 1086, .int .u32 20013] 35))
  have HB2 := Lib.hid ((tb HB1.out hb).alloc (tb HB1.out hb).size (.cells #[.int .u32 1052, .int .u32 1086, .int .u32 20013] 35))
  have HNE := Lib.hid (And.intro hne hsz)
  clear hd hb hz hg2 hne hd1 hnew hf1 hsz
  go_wp2_with fail
  refine HF1.out.mono ?_
  rintro e w3 ⟨n, S, p', b', m', rfl, hd3, hg3, hwt3, hc3, hf⟩
  obtain ⟨rfl, rfl, rfl, rfl, rfl⟩ := fed_all rfl (by decide) (by rw [v1]; decide) hf
  have hen := end_calls hd3 hg3 hwt3 (by decide)
  have e1 : endE ({ b40 with at_ := b40.at_ + (([1052, 1086, 20013] : List Int).length : Int) } : B4) (pushes (e0 false) [1052, 1086, 20013]).1 = [14, 78, 45] := v2
  rw [e1] at hen
  have HEn := Lib.hid hen
  have HG3 := Lib.hid hg3
  have HW3 := Lib.hid hwt3
  have he2 := HE2.out.keep (hc3.block _ HE2.out.lt (by have := HNE.out; rintro (h | h) <;> omega)) (hc3.block _ HE2.out.win.lt (by have := HNE.out; rintro (h | h) <;> omega))
  have HE3 := Lib.hid he2
  have HB3 := Lib.hid (Chg.below HB2.out hc3 (by have := HZ.out; rintro i (h | h) <;> omega))
  rw [List.nil_append, v1, s1]
  clear hd3 hg3 hwt3 hc3 hf hen e1 he2
  go_wp2_with fail
  refine HEn.out.mono ?_
  rintro e w4 ⟨rfl, hd4, hc4⟩
  have hf2 := feed_calls (A := none) (cap := 0) (l := []) 9 hd4 (HG3.out.flush HW3.out) (flush_wt HW3.out) (by decide) (by decide) (fun _ _ => Lst.nil _ _ _) (fun x hx => by cases hx) (by decide) (by decide) (by decide) (by decide)
  have HF2 := Lib.hid hf2
  have he4 := HE3.out.keep (hc4.block _ HE3.out.lt (by have := HNE.out; rintro (h | h) <;> omega)) (hc4.block _ HE3.out.win.lt (by have := HNE.out; rintro (h | h) <;> omega))
  have HE4 := Lib.hid he4
  have HB4 := Lib.hid (Chg.below HB3.out hc4 (by have := HZ.out; rintro i (h | h) <;> omega))
  clear hd4 hc4 hf2 he4
  go_wp2_with fail
  refine HF2.out.mono ?_
  rintro e w5 ⟨n, S, p', b', m', rfl, hd5, hg5, hwt5, hc5, hf⟩
  obtain ⟨rfl, rfl, rfl, rfl, rfl⟩ := fed_nil rfl (by decide) hf
  have he5 := HE4.out.keep (hc5.block _ HE4.out.lt (by have := HNE.out; rintro (h | h) <;> omega)) (hc5.block _ HE4.out.win.lt (by have := HNE.out; rintro (h | h) <;> omega))
  have HD5 := Lib.hid hd5
  have HE5 := Lib.hid he5
  have HB5 := Lib.hid (Chg.below HB4.out hc5 (by have := HZ.out; rintro i (h | h) <;> omega))
  rw [List.nil_append, s2]
  clear hd5 hg5 hwt5 hc5 hf he5
  go_wp2_with fail
  have hlt5 := HE5.out.lt
  have hnew5 := heap_alloc_new w5 (.cells #[.int .u32 65279, .int .u32 65, .int .u32 128512] 35)
  have hf3 := feed_calls (A := some ⟨w5.heap.size, 0, none⟩) (cap := 3) (l := [65279, 65, 128512]) 99 (HE5.out.alloc (.cells #[.int .u32 65279, .int .u32 65, .int .u32 128512] 35)) (eg0 true) (.inl rfl) (by decide) (by decide) (fun wx hc => lst_chg [65279, 65, 128512] hnew5 hc (by rintro (h | h) <;> omega)) (by decide) (by decide) (by decide) (by decide) (by decide)
  have HF3 := Lib.hid hf3
  have HD5' := Lib.hid (HD5.out.alloc (.cells #[.int .u32 65279, .int .u32 65, .int .u32 128512] 35))
  have HB5' := Lib.hid (HB5.out.alloc HB5.out.size (.cells #[.int .u32 65279, .int .u32 65, .int .u32 128512] 35))
  clear hlt5 hnew5 hf3
  refine HF3.out.mono ?_
  rintro e w6 ⟨n, S, p', b', m', rfl, hd6, hg6, hwt6, hc6, hf⟩
  obtain ⟨rfl, rfl, rfl, rfl, rfl⟩ := fed_all rfl (by decide) (by rw [v3]; decide) hf
  have hen6 := end_calls hd6 hg6 hwt6 (by decide)
  have e6 : endE ({ b40 with at_ := b40.at_ + (([65279, 65, 128512] : List Int).length : Int) } : B4) (pushes (e0 true) [65279, 65, 128512]).1 = [15, 216, 61, 222, 0] := v4
  rw [e6] at hen6
  have HEn6 := Lib.hid hen6
  have HG6 := Lib.hid hg6
  have HW6 := Lib.hid hwt6
  have HD6 := Lib.hid (HD5'.out.keep (hc6.block _ HD5'.out.lt (by have := HNE.out; rintro (h | h) <;> omega)) (hc6.block _ HD5'.out.win.lt (by have := HNE.out; rintro (h | h) <;> omega)))
  have HB6 := Lib.hid (Chg.below HB5'.out hc6 (by have := HZ.out; have := HNE.out; rintro i (h | h) <;> omega))
  rw [List.nil_append, v3, s3]
  clear hd6 hg6 hwt6 hc6 hf hen6 e6
  go_wp2_with fail
  refine HEn6.out.mono ?_
  rintro e w7 ⟨rfl, hd7, hc7⟩
  have hf4 := feed_calls (A := none) (cap := 0) (l := []) 99 hd7 (HG6.out.flush HW6.out) (flush_wt HW6.out) (by decide) (by decide) (fun _ _ => Lst.nil _ _ _) (fun x hx => by cases hx) (by decide) (by decide) (by decide) (by decide)
  have HF4 := Lib.hid hf4
  have HD7 := Lib.hid (HD6.out.keep (hc7.block _ HD6.out.lt (by have := HNE.out; rintro (h | h) <;> omega)) (hc7.block _ HD6.out.win.lt (by have := HNE.out; rintro (h | h) <;> omega)))
  have HB7 := Lib.hid (Chg.below HB6.out hc7 (by have := HZ.out; have := HNE.out; rintro i (h | h) <;> omega))
  clear hd7 hc7 hf4
  go_wp2_with fail
  refine HF4.out.mono ?_
  rintro e w8 ⟨n, S, p', b', m', rfl, hd8, hg8, hwt8, hc8, hf⟩
  obtain ⟨rfl, rfl, rfl, rfl, rfl⟩ := fed_nil rfl (by decide) hf
  have hdn := done_calls (HD7.out.keep (hc8.block _ HD7.out.lt (by have := HNE.out; rintro (h | h) <;> omega)) (hc8.block _ HD7.out.win.lt (by have := HNE.out; rintro (h | h) <;> omega))) (by decide)
  have e8 : (!({ b40 with at_ := b40.at_ + (([1052, 1086, 20013] : List Int).length : Int), fin := true } : B4).going && decide (([] : List Int) = [])) = true := rfl
  have HDn := Lib.hid (show Calls Try.prog 19 #[.pointer (some ⟨g1 + 1, 0, none⟩)] w8 (fun e w' => e = .returned (.bool true) ∧ w8 = w') from hdn)
  have HB8 := Lib.hid (Chg.below HB7.out hc8 (by have := HZ.out; have := HNE.out; rintro i (h | h) <;> omega))
  have happ : ({ data := #[14, 254, 255, 65] } ++ { data := #[15, 216, 61, 222, 0] } : ByteArray) = { data := #[14, 254, 255, 65, 15, 216, 61, 222, 0] } := by
    have := str_append [14, 254, 255, 65] [15, 216, 61, 222, 0]
    rw [s3, s4] at this
    rw [this]
    rfl
  rw [List.nil_append, s4]
  clear hd8 hg8 hwt8 hc8 hf hdn e8
  go_wp2_with fail
  refine HDn.out.mono ?_
  rintro e w9 ⟨rfl, rfl⟩
  go_wp2_with fail
  go_ret
  exact ⟨rfl, HB8.out⟩
end Go.Proofs.Ytkfiahildoljfaa.Enc
