/- Scalars that wait in a machine: held, counted, told. -/
import Derived.Test.YtnkinbfglenddaaStep
import Derived.Deep.AppendLies
import Derived.OwnWalk
import Derived.WalkLawsBesides
namespace Go.Proofs.Ytnkinbfglenddaa.Stp
open Go.RowKit Go.Proofs.Ytnkinbfglenddaa.Win Go.Proofs.YtnkinbfglenddaaW.PrintMore
set_option linter.unusedVariables false
set_option linter.unusedSimpArgs false
attribute [local go_sem] max2_int min2_int max_two min_two
theorem info_u32 : (Try.prog.info? 25).map (fun i => (i.zero, i.size, i.bytes)) = some (some (.int .u32 0), 1, 4) := by kernel_rfl
def u32s (xs : List Int) : List Value := xs.map fun x => .int .u32 x
theorem u32s_length (xs : List Int) : (u32s xs).length = xs.length := by simp [u32s]
theorem u32s_append (xs ys : List Int) : u32s (xs ++ ys) = u32s xs ++ u32s ys := by simp [u32s]
/-- Changed in two steps. -/
theorem chg_then {S S1 : Nat → Prop} {w w1 w2 : World} (h : Chg S w w1) (k : Chg S1 w1 w2) (hs : ∀ i, i < w.heap.size → S1 i → S i) : Chg S w w2 :=
  ⟨k.os.trans h.os, k.tape.trans h.tape, k.output.trans h.output, Nat.le_trans h.size k.size, fun i hi hn => (k.block i (Nat.lt_of_lt_of_le hi h.size) (fun hh => hn (hs i hi hh))).trans (h.block i hi hn)⟩
theorem chg_grown {w w1 : World} {row : Option Nat} (h : w.grownBy w1 row) : Chg (fun i => row = some i) w w1 := ⟨h.os, h.tape, h.output, h.size, fun i hi hn => h.block i hi (fun e => hn e.symm)⟩
theorem held_calls (g q : Nat) (A : Option Addr) (n c : Nat) (w : World) (h : w.cell? ⟨g, q, none⟩ = some (.slice A n c)) : Calls Try.prog 30 #[.pointer (some ⟨g, q, none⟩)] w fun e w' => e = .returned (.int .i64 n) ∧ w = w' := by
  go_enter Try.func30, Try.ntmps30
  go_wp2
  go_ret
  exact ⟨rfl, rfl⟩
/-- One scalar waits behind the others. -/
theorem hold_calls (g q base : Nat) (v : Value) (xs : List Int) (x : Int) (a : Nat) (w : World) (hc : w.cell? ⟨g, q, none⟩ = some v) (hf : w.frozen? ⟨g, q, none⟩ = false)
    (ho : w.ownsRow base 25 1 v xs.length (u32s xs)) (hb : base ≤ w.heap.size) (hne : v.ownBlock ≠ some g) (ha : w.cell? ⟨a, 0, none⟩ = some (.int .u32 x)) (hn : xs.length ≤ 1000000) :
    Calls Try.prog 49 #[.pointer (some ⟨g, q, none⟩), .slice (some ⟨a, 0, none⟩) 1 1] w fun e w' => e = .returned (.tuple #[]) ∧ ∃ r c w1, w' = w1.setCell ⟨g, q, none⟩ (.slice (some ⟨r, 0, none⟩) (xs.length + 1) c) ∧
      w1.ownsRow base 25 1 (.slice (some ⟨r, 0, none⟩) (xs.length + 1) c) (xs ++ [x]).length (u32s (xs ++ [x])) ∧ w.grownBy w1 v.ownBlock ∧ (v.ownBlock = some r ∨ r = w.heap.size) ∧ r ≠ g := by
  obtain ⟨i0, hi, hz0, hz1, hz2⟩ := info_parts info_u32
  have hglt : g < w.heap.size := World.block_lt_of_cell? w ⟨g, q, none⟩ hc
  have HN : Hid (i0.zero = some (.int .u32 0) ∧ i0.size = 1 ∧ i0.bytes = 4 ∧ Try.prog.info? 25 = some i0) := ⟨hz0, hz1, hz2, hi⟩
  have HO := Lib.hid ho
  have HA := Lib.hid ha
  have HC := Lib.hid hc
  have HNE := Lib.hid hne
  clear ho ha hz0 hz1 hz2 hi hne
  obtain ⟨A, c0, rfl⟩ : ∃ A c, v = .slice A xs.length c := by
    rcases HO.out.2 with ⟨h1, h2⟩ | ⟨g', cap, cur, h1, _⟩
    · exact ⟨none, 0, by rw [h1, h2]⟩
    · exact ⟨_, _, h1⟩
  go_enter Try.func49, Try.ntmps49
  go_wp2_with (at_builtin; refine wpList_append_lies _ rfl (.tmp 8) (.tmp 9) 24 rfl base 25 i0 (.int .u32 0) 1 4 Try.underlying24 HN.out.2.2.2 HN.out.1 HN.out.2.1 HN.out.2.2.1 rfl (by decide) _ _ _ rfl HO.out ⟨a, 0, none⟩ 1 1 [.int .u32 x] rfl rfl ?c1 ?c2 (by decide) ?c3 ?c4 hb _ rfl ?_; (case c1 => intro j u hu; match j, hu with | 0, hu => (simp at hu; subst hu; exact HA.out)); (case c2 => intro u hu; simp at hu; subst hu; rfl); (case c3 => unfold maxLen; omega); (case c4 => omega); intro r c1 w1 hown1 hgrow1 hat1 hlt1; have HO1 := Lib.hid hown1; have HG1 := Lib.hid hgrow1; have HAT : Hid ((Value.slice A xs.length c0).ownBlock = some r ∨ r = w.heap.size) := hat1; have hcs1 : w1.cell? ⟨g, q, none⟩ = _ := (hgrow1.cell_far ⟨g, q, none⟩ hglt (fun e => HNE.out e.symm)).trans HC.out; have hfs1 : w1.frozen? ⟨g, q, none⟩ = false := (hgrow1.frozen_far ⟨g, q, none⟩ hglt (fun e => HNE.out e.symm)).trans hf; clear hown1 hgrow1 hat1)
  go_end0
  refine ⟨rfl, r, c1, w1, rfl, ?_, HG1.out, HAT.out, ?_⟩
  · have := HO1.out
    rw [List.length_append, u32s_append]
    exact this
  · rcases HAT.out with h | h
    · exact fun e => HNE.out (h.trans (by rw [e]))
    · omega
/-- Nothing waits: nothing is told. -/
theorem tell_none (g q : Nat) (room : Int) (w : World) (hc : w.cell? ⟨g, q, none⟩ = some (.slice none 0 0)) (hf : w.frozen? ⟨g, q, none⟩ = false) :
    Calls Try.prog 35 #[.pointer (some ⟨g, q, none⟩), .int .i64 room] w fun e w' => e = .returned (.slice none 0 0) ∧ w' = (w.setCell ⟨g, q, none⟩ (.slice none 0 0)).setCell ⟨g, q, none⟩ (.slice none 0 0) := by
  have h1 : (if (0 : Int) < (if room < 0 then 0 else room) then (0 : Int) else (if room < 0 then 0 else room)) = 0 := by split <;> split <;> omega
  go_enter Try.func35, Try.ntmps35
  go_wp2
  all_goals
    go_ret
    exact ⟨rfl, rfl⟩
def Told (w : World) (g q : Nat) (xs : List Int) (e : Ending) (w' : World) : Prop := ∃ r' c' w1 v1, e = .returned (.slice (some ⟨r', 0, none⟩) xs.length c') ∧ w' = (w1.setCell ⟨g, q, none⟩ v1).setCell ⟨g, q, none⟩ (.slice none 0 0) ∧
      w1.ownsRow w.heap.size 25 1 (.slice (some ⟨r', 0, none⟩) xs.length c') xs.length (u32s xs) ∧ Below w.heap.size w w1
set_option maxHeartbeats 1000000 in
/-- All that waits is told. -/
theorem tell_all (g q r base c : Nat) (xs : List Int) (room : Int) (w : World) (hc : w.cell? ⟨g, q, none⟩ = some (.slice (some ⟨r, 0, none⟩) xs.length c)) (hf : w.frozen? ⟨g, q, none⟩ = false)
    (ho : w.ownsRow base 25 1 (.slice (some ⟨r, 0, none⟩) xs.length c) xs.length (u32s xs)) (hne : r ≠ g) (h0 : 0 < xs.length) (hn : xs.length ≤ 1000000) (hr : (xs.length : Int) ≤ room) :
    Calls Try.prog 35 #[.pointer (some ⟨g, q, none⟩), .int .i64 room] w (Told w g q xs) := by
  obtain ⟨i0, hi, hz0, hz1, hz2⟩ := info_parts info_u32
  have hglt : g < w.heap.size := World.block_lt_of_cell? w ⟨g, q, none⟩ hc
  have HN : Hid (i0.zero = some (.int .u32 0) ∧ i0.size = 1 ∧ i0.bytes = 4 ∧ Try.prog.info? 25 = some i0) := ⟨hz0, hz1, hz2, hi⟩
  have HO := Lib.hid ho
  have hle : xs.length ≤ c := by
    rcases ho.2 with ⟨h1, _⟩ | ⟨g', cap, cur, h1, _, _, h4, _⟩
    · cases h1
    · injection h1 with _ _ h1; omega
  have hm : c ≤ 9223372036854775807 := by
    rcases ho.2 with ⟨h1, _⟩ | ⟨g', cap, cur, h1, _, _, h4, h5, _⟩
    · cases h1
    · injection h1 with _ _ h1; unfold maxLen at h5; omega
  have hcells := ho.cells (g := r) rfl
  have HCE := Lib.hid hcells
  have HC := Lib.hid hc
  have hsz : i0.size = 1 := hz1
  have hix := hi
  clear ho hz0 hz2 hi hcells
  obtain ⟨n, hnn⟩ : ∃ n, n = xs.length := ⟨_, rfl⟩
  rw [← hnn] at hle h0 hn hr hc
  have HNN := Lib.hid hnn
  clear hnn
  have h1 : (if (n : Int) < (if room < 0 then 0 else room) then (n : Int) else (if room < 0 then 0 else room)) = n := by
    rw [if_neg (show ¬ room < 0 by omega)]
    split <;> omega
  have h2 : ¬ room < 0 := by omega
  have h3 : (if (n : Int) < room then (n : Int) else room) = n := by split <;> omega
  by_cases hcn : c = n
  · subst hcn
    go_enter Try.func35, Try.ntmps35
    go_wp2_with (at_builtin; refine wpList_append_lies _ rfl (.const (.slice none 0 0)) (.tmp 20) 24 rfl w.heap.size 25 i0 (.int .u32 0) 1 4 Try.underlying24 HN.out.2.2.2 HN.out.1 HN.out.2.1 HN.out.2.2.1 rfl (by decide) (.slice none 0 0) 0 [] rfl (World.ownsRow_nil _ _ _ _) ⟨r, 0, none⟩ _ _ (u32s xs) rfl ?c1 ?c2 ?c3 ?c4 ?c5 ?c6 (Nat.le_refl _) _ rfl ?_; (case c1 => rw [u32s_length, HNN.out]; omega); (case c2 => exact HCE.out); (case c3 => intro u hu; unfold u32s at hu; rw [List.mem_map] at hu; obtain ⟨y, _, rfl⟩ := hu; rfl); (case c4 => omega); (case c5 => unfold maxLen; omega); (case c6 => omega); intro r1 c1 w1 hown1 hgrow1 hat1 hlt1; have HO1 := Lib.hid hown1; have hb1 : Below w.heap.size w w1 := (Below.refl _ w).grown hgrow1 (Nat.le_refl _) (fun k hk => by simp [Value.ownBlock] at hk); have hcs1 : w1.cell? ⟨g, q, none⟩ = _ := (hb1.cell (p := ⟨g, q, none⟩) hglt).trans HC.out; have hfs1 : w1.frozen? ⟨g, q, none⟩ = false := (hb1.frozen (p := ⟨g, q, none⟩) hglt).trans hf; rw [← HNN.out] at hcs1; have HB1 := Lib.hid hb1; clear hown1 hgrow1 hat1 hlt1 hb1)
    go_ret
    have hO := HO1.out
    simp only [Nat.zero_add, List.nil_append] at hO
    unfold Told
    rw [← HNN.out]
    exact ⟨r1, c1, w1, _, by simp, rfl, hO, HB1.out⟩
  · have hcn' : n < c := by omega
    clear hcn
    go_enter Try.func35, Try.ntmps35
    go_wp2_with (at_builtin; refine wpList_append_lies _ rfl (.const (.slice none 0 0)) (.tmp 20) 24 rfl w.heap.size 25 i0 (.int .u32 0) 1 4 Try.underlying24 HN.out.2.2.2 HN.out.1 HN.out.2.1 HN.out.2.2.1 rfl (by decide) (.slice none 0 0) 0 [] rfl (World.ownsRow_nil _ _ _ _) ⟨r, 0, none⟩ _ _ (u32s xs) rfl ?c1 ?c2 ?c3 ?c4 ?c5 ?c6 (Nat.le_refl _) _ rfl ?_; (case c1 => rw [u32s_length, HNN.out]; omega); (case c2 => exact HCE.out); (case c3 => intro u hu; unfold u32s at hu; rw [List.mem_map] at hu; obtain ⟨y, _, rfl⟩ := hu; rfl); (case c4 => omega); (case c5 => unfold maxLen; omega); (case c6 => omega); intro r1 c1 w1 hown1 hgrow1 hat1 hlt1; have HO1 := Lib.hid hown1; have hb1 : Below w.heap.size w w1 := (Below.refl _ w).grown hgrow1 (Nat.le_refl _) (fun k hk => by simp [Value.ownBlock] at hk); have hcs1 : w1.cell? ⟨g, q, none⟩ = _ := (hb1.cell (p := ⟨g, q, none⟩) hglt).trans HC.out; have hfs1 : w1.frozen? ⟨g, q, none⟩ = false := (hb1.frozen (p := ⟨g, q, none⟩) hglt).trans hf; rw [← HNN.out] at hcs1; have HB1 := Lib.hid hb1; clear hown1 hgrow1 hat1 hlt1 hb1)
    go_ret
    have hO := HO1.out
    simp only [Nat.zero_add, List.nil_append] at hO
    unfold Told
    rw [← HNN.out]
    exact ⟨r1, c1, w1, _, by simp, rfl, hO, HB1.out⟩
end Go.Proofs.Ytnkinbfglenddaa.Stp
