/- The reference's text: a unit. -/
import Derived.Test.YtkfiahildoljfaaRst
import Derived.WalkLawsBesides
namespace Go.Proofs.Ytkfiahildoljfaa.Rst
open Go.RowKit Go.Proofs.Ytkfiahildoljfaa.Win Go.Proofs.Ytkfiahildoljfaa.Stp Go.Proofs.Ytkfiahildoljfaa.Mach
set_option linter.unusedVariables false
set_option linter.unusedSimpArgs false
theorem own_snoc {w : World} {base : Nat} {v : Value} {xs : List Int} {u : Int} (h : w.ownsRow base 35 1 v (xs.length + 1) (u32s xs ++ [.int .u32 u])) : w.ownsRow base 35 1 v (xs ++ [u]).length (u32s (xs ++ [u])) := by
  rw [List.length_append, u32s_append]; exact h
theorem size_le (w : World) (o : Obj) : w.heap.size ≤ (w.alloc o).heap.size := by simp
theorem app_ne {v : Value} {r g H : Nat} (h : v.ownBlock = some r ∨ r = H) (hv : v.ownBlock ≠ some g) (hg : g < H) : r ≠ g := by
  rcases h with h | h
  · exact fun e => hv (by rw [h, e])
  · omega
/-- An appended scalar, at the append. -/
structure Grew (w : World) (rb : Nat) (v : Value) (n : Nat) (xs : List Int) (r c : Nat) (w1 : World) : Prop where
  own : w1.ownsRow rb 35 1 (.slice (some ⟨r, 0, none⟩) (n + 1) c) xs.length (u32s xs)
  grown : w.grownBy w1 v.ownBlock
  at_ : v.ownBlock = some r ∨ r = w.heap.size
set_option maxRecDepth 100000 in
set_option maxHeartbeats 8000000 in
theorem runit_calls {w : World} {g go rb : Nat} {v : Value} {t : R} (s : ByteArray) (k : Nat) (h : RAt w g go rb v t) (hs : s.size ≤ 100000) (hk : k ≤ 200000) (hl : t.out.length < 1000000) :
    Calls Try.prog 49 #[.pointer (some ⟨g, 0, none⟩), .string s, .int .i64 k] w (RPost w g go rb v (runit t (byt s) k)) := by
  have HCUT := Lib.hid (rcut_calls s h hs)
  have HWR := Lib.hid (rwrong_calls k h)
  have H := Lib.hid h
  have hlen := byt_length s
  unfold runit
  rw [hlen]
  by_cases hk0 : s.size ≤ k
  · rw [if_pos hk0]
    clear h hlen
    go_enter Try.func49, Try.ntmps49
    go_wp2_with (go_at_call 37; refine HCUT.out.mono ?_; rintro e w1 ⟨rfl, hp⟩; have HP := Lib.hid hp; clear hp)
    go_ret
    exact ⟨rfl, HP.out⟩
  rw [if_neg hk0]
  have hklt : k < s.size := by omega
  rw [byt_at s k hklt]
  have h4 := h.f4
  have hf4 := h.fz 4
  have h0 := h.f0
  have hf0 := h.fz 0
  have hhi := h.hi
  have hb1 : (s[k].toNat : Int) ≤ 255 := by have := s[k].toNat_lt; omega
  obtain ⟨i0, hi, hz0, hz1, hz2⟩ := info_parts info_u32
  have HN : Hid (i0.zero = some (.int .u32 0) ∧ i0.size = 1 ∧ i0.bytes = 4 ∧ Try.prog.info? 35 = some i0) := ⟨hz0, hz1, hz2, hi⟩
  have hrow := h.row
  obtain ⟨A, c0, rfl⟩ : ∃ A c, v = .slice A t.out.length c := by
    rcases hrow.2 with ⟨h1, h2⟩ | ⟨g', cap, cur, h1, _⟩
    · exact ⟨none, 0, by rw [h1, h2]⟩
    · exact ⟨_, _, h1⟩
  have HRW := Lib.hid hrow
  clear hz0 hz1 hz2 hi hrow
  have hcs : ((s[k].toNat : Int) < 220) ∨ (220 ≤ (s[k].toNat : Int) ∧ ¬ (s[k].toNat : Int) ≤ 223) ∨ (220 ≤ (s[k].toNat : Int) ∧ (s[k].toNat : Int) ≤ 223) := by omega
  have hhc : (t.high = 0 ∧ decide (0 < t.high) = false) ∨ (0 < t.high ∧ decide (0 < t.high) = true) := by
    rcases hhi with e | e
    · exact .inl ⟨e, by simp [e]⟩
    · exact .inr ⟨by omega, by simp; omega⟩
  clear hlen
  rcases hcs with hlo | ⟨hlo, hlo2⟩ | ⟨hlo, hlo2⟩
  · have hL : low8 (s[k].toNat : Int) = false := by unfold low8; simp; omega
    rcases hhc with ⟨hz, hzb⟩ | ⟨hz, hzb⟩
    · have hH : decide (t.high > 0) = false := by simp; omega
      rw [hL, hH, if_neg (by decide)]
      by_cases hk1 : s.size ≤ k + 1
      · rw [if_pos hk1]
        clear h hL hH hhi hz
        go_enter Try.func49, Try.ntmps49
        go_wp2_with (go_at_call 37; refine HCUT.out.mono ?_; rintro e w1 ⟨rfl, hp⟩; have HP := Lib.hid hp; clear hp)
        go_ret
        exact ⟨rfl, HP.out⟩
      rw [if_neg hk1]
      have hk1lt : k + 1 < s.size := by omega
      rw [byt_at s (k + 1) hk1lt]
      have hb2 : (s[k + 1].toNat : Int) ≤ 255 := by have := s[k + 1].toNat_lt; omega
      have w1 : IntKind.u32.wrap (s[k].toNat : Int) = (s[k].toNat : Int) := by rw [IntKind.wrap_u32]; omega
      have w2 : IntKind.u32.wrap (s[k + 1].toNat : Int) = (s[k + 1].toNat : Int) := by rw [IntKind.wrap_u32]; omega
      have w3 : IntKind.u32.wrap ((s[k].toNat : Int) * 256) = (s[k].toNat : Int) * 256 := by rw [IntKind.wrap_u32]; omega
      have w4 : IntKind.u32.wrap ((s[k].toNat : Int) * 256 + (s[k + 1].toNat : Int)) = (s[k].toNat : Int) * 256 + (s[k + 1].toNat : Int) := by rw [IntKind.wrap_u32]; omega
      have w5 : IntKind.i64.wrap ((k : Int) + 1) = (k : Int) + 1 := by rw [IntKind.wrap_i64]; omega
      have w6 : ((k : Int) + 1).toNat = k + 1 := by omega
      have w7 : (0 : Int) ≤ (k : Int) + 1 := by omega
      have w8 : (k : Int) + 1 < (s.size : Int) := by omega
      rw [if_neg (by decide)]
      clear hL hH hhi hz
      obtain ⟨u, hu⟩ : ∃ u : Int, u = (s[k].toNat : Int) * 256 + (s[k + 1].toNat : Int) := ⟨_, rfl⟩
      rw [← hu] at w4 ⊢
      have hu0 : 0 ≤ u := by omega
      have hu1 : u ≤ 65535 := by omega
      have HU := Lib.hid hu
      have huc : (55296 ≤ u ∧ u ≤ 56319) ∨ (u < 55296 ∧ ¬ (55296 ≤ u ∧ u ≤ 56319)) ∨ ((55296 ≤ u ∧ ¬ u ≤ 56319) ∧ ¬ (55296 ≤ u ∧ u ≤ 56319)) := by omega
      clear hu
      rcases huc with hc | ⟨hc, hn⟩ | ⟨hc, hn⟩
      · rw [if_pos hc]
        obtain ⟨c1, c2⟩ := hc
        go_enter Try.func49, Try.ntmps49
        go_wp2_with fail
        go_quiet (fail)
        rw [← HU.out]
        obtain ⟨wq, hwq⟩ : ∃ wq, wq = w.drewN nq := ⟨_, rfl⟩
        rw [← hwq]
        have hA : RAt wq g go rb (.slice A t.out.length c0) t := by rw [hwq]; exact H.out.keep (Nat.le_refl _) rfl rfl (fun _ _ => rfl)
        have hQ : Chg (RS g go (.slice A t.out.length c0)) w wq := by rw [hwq]; exact Chg.drewN w nq
        have q0 := hA.f0
        have q4 := hA.f4
        have qf := hA.fz
        have qz0 := qf 0
        have qz4 := qf 4
        have qlt := hA.lt
        have qrb := hA.rbl
        have qrg := Lib.hid hA.row_g
        have HA := Lib.hid hA
        have HQ := Lib.hid hQ
        clear hwq hA hQ qf h0 h4 hf0 hf4 w1 w2 w3 w4 hb1 hb2 hlo
        go_wp2_with fail
        go_ret
        exact ⟨by simp, _, HA.out.set 4 (.int .u32 u) (t' := { t with high := u }) rfl rfl rfl HA.out.ac (.inr ⟨c1, by show u < 56320; omega⟩), HQ.out.trans (rs_g 4 _)⟩
      · rw [if_neg hn]
        clear hn
        go_enter Try.func49, Try.ntmps49
        go_wp2_with fail
        go_quiet (fail)
        rw [← HU.out]
        obtain ⟨wq, hwq⟩ : ∃ wq, wq = w.drewN nq := ⟨_, rfl⟩
        rw [← hwq]
        have hA : RAt wq g go rb (.slice A t.out.length c0) t := by rw [hwq]; exact H.out.keep (Nat.le_refl _) rfl rfl (fun _ _ => rfl)
        have hQ : Chg (RS g go (.slice A t.out.length c0)) w wq := by rw [hwq]; exact Chg.drewN w nq
        have q0 := hA.f0
        have q4 := hA.f4
        have qf := hA.fz
        have qz0 := qf 0
        have qz4 := qf 4
        have qlt := hA.lt
        have qrb := hA.rbl
        have qrg := Lib.hid hA.row_g
        have HA := Lib.hid hA
        have HQ := Lib.hid hQ
        clear hwq hA hQ qf h0 h4 hf0 hf4 w1 w2 w3 w4 hb1 hb2 hlo
        go_wp2_with (at_builtin; refine wpList_append_lies _ rfl (.tmp 96) (.tmp 98) 22 rfl rb 35 i0 (.int .u32 0) 1 4 Try.underlying22 HN.out.2.2.2 HN.out.1 HN.out.2.1 HN.out.2.2.1 rfl (by decide) _ _ _ rfl (HA.out.row.alloc _) ⟨wq.heap.size, 0, none⟩ 1 1 [.int .u32 u] rfl rfl ?c1 ?c2 (by decide) ?c3 ?c4 ?c5 _ rfl ?_; (case c1 => exact World.news_of_block (heap_alloc_new wq _)); (case c2 => intro q hq; simp at hq; subst hq; rfl); (case c3 => unfold maxLen; omega); (case c4 => omega); (case c5 => exact Nat.le_trans qrb (size_le _ _)); intro r c1 w1 hown1 hgrow1 hat1 hlt1; have hcs1 : w1.cell? ⟨g, 0, none⟩ = _ := (hgrow1.cell_far ⟨g, 0, none⟩ (Nat.lt_of_lt_of_le qlt (size_le _ _)) (fun e => qrg.out e.symm)).trans ((((Below.refl wq.heap.size wq).alloc (Nat.le_refl _) _).cell (p := ⟨g, 0, none⟩) qlt).trans q0); have hfs1 : w1.frozen? ⟨g, 0, none⟩ = false := (hgrow1.frozen_far ⟨g, 0, none⟩ (Nat.lt_of_lt_of_le qlt (size_le _ _)) (fun e => qrg.out e.symm)).trans ((((Below.refl wq.heap.size wq).alloc (Nat.le_refl _) _).frozen (p := ⟨g, 0, none⟩) qlt).trans qz0); have hrg : r ≠ g := app_ne hat1 qrg.out (Nat.lt_of_lt_of_le qlt (size_le _ _)); have HO1 := Lib.hid (own_snoc hown1); have HG1 := Lib.hid hgrow1; have HRG := Lib.hid hrg; clear hown1 hgrow1 hat1 hlt1 hrg)
        go_ret
        obtain ⟨hr1, hr2⟩ := (HA.out.below ((Below.refl _ _).alloc (Nat.le_refl _) _)).push u HO1.out HG1.out HRG.out hl
        exact ⟨by simp, _, hr1, HQ.out.trans (chg_then (Chg.alloc _ _) hr2 (fun i _ hi => hi))⟩
      · rw [if_neg hn]
        clear hn
        obtain ⟨c1, c2⟩ := hc
        go_enter Try.func49, Try.ntmps49
        go_wp2_with fail
        go_quiet (fail)
        rw [← HU.out]
        obtain ⟨wq, hwq⟩ : ∃ wq, wq = w.drewN nq := ⟨_, rfl⟩
        rw [← hwq]
        have hA : RAt wq g go rb (.slice A t.out.length c0) t := by rw [hwq]; exact H.out.keep (Nat.le_refl _) rfl rfl (fun _ _ => rfl)
        have hQ : Chg (RS g go (.slice A t.out.length c0)) w wq := by rw [hwq]; exact Chg.drewN w nq
        have q0 := hA.f0
        have q4 := hA.f4
        have qf := hA.fz
        have qz0 := qf 0
        have qz4 := qf 4
        have qlt := hA.lt
        have qrb := hA.rbl
        have qrg := Lib.hid hA.row_g
        have HA := Lib.hid hA
        have HQ := Lib.hid hQ
        clear hwq hA hQ qf h0 h4 hf0 hf4 w1 w2 w3 w4 hb1 hb2 hlo
        go_wp2_with (at_builtin; refine wpList_append_lies _ rfl (.tmp 96) (.tmp 98) 22 rfl rb 35 i0 (.int .u32 0) 1 4 Try.underlying22 HN.out.2.2.2 HN.out.1 HN.out.2.1 HN.out.2.2.1 rfl (by decide) _ _ _ rfl (HA.out.row.alloc _) ⟨wq.heap.size, 0, none⟩ 1 1 [.int .u32 u] rfl rfl ?c1 ?c2 (by decide) ?c3 ?c4 ?c5 _ rfl ?_; (case c1 => exact World.news_of_block (heap_alloc_new wq _)); (case c2 => intro q hq; simp at hq; subst hq; rfl); (case c3 => unfold maxLen; omega); (case c4 => omega); (case c5 => exact Nat.le_trans qrb (size_le _ _)); intro r c1 w1 hown1 hgrow1 hat1 hlt1; have hcs1 : w1.cell? ⟨g, 0, none⟩ = _ := (hgrow1.cell_far ⟨g, 0, none⟩ (Nat.lt_of_lt_of_le qlt (size_le _ _)) (fun e => qrg.out e.symm)).trans ((((Below.refl wq.heap.size wq).alloc (Nat.le_refl _) _).cell (p := ⟨g, 0, none⟩) qlt).trans q0); have hfs1 : w1.frozen? ⟨g, 0, none⟩ = false := (hgrow1.frozen_far ⟨g, 0, none⟩ (Nat.lt_of_lt_of_le qlt (size_le _ _)) (fun e => qrg.out e.symm)).trans ((((Below.refl wq.heap.size wq).alloc (Nat.le_refl _) _).frozen (p := ⟨g, 0, none⟩) qlt).trans qz0); have hrg : r ≠ g := app_ne hat1 qrg.out (Nat.lt_of_lt_of_le qlt (size_le _ _)); have HO1 := Lib.hid (own_snoc hown1); have HG1 := Lib.hid hgrow1; have HRG := Lib.hid hrg; clear hown1 hgrow1 hat1 hlt1 hrg)
        go_ret
        obtain ⟨hr1, hr2⟩ := (HA.out.below ((Below.refl _ _).alloc (Nat.le_refl _) _)).push u HO1.out HG1.out HRG.out hl
        exact ⟨by simp, _, hr1, HQ.out.trans (chg_then (Chg.alloc _ _) hr2 (fun i _ hi => hi))⟩
    · have hH : decide (t.high > 0) = true := by simp; omega
      rw [hL, hH, if_pos (by decide)]
      clear h hL hH hz hhi
      go_enter Try.func49, Try.ntmps49
      go_wp2_with (go_at_call 50; refine HWR.out.mono ?_; rintro e w1 ⟨rfl, hp⟩; have HP := Lib.hid hp; clear hp)
      go_ret
      exact ⟨rfl, HP.out⟩
  · have hL : low8 (s[k].toNat : Int) = false := by unfold low8; simp; omega
    rcases hhc with ⟨hz, hzb⟩ | ⟨hz, hzb⟩
    · have hH : decide (t.high > 0) = false := by simp; omega
      rw [hL, hH, if_neg (by decide)]
      by_cases hk1 : s.size ≤ k + 1
      · rw [if_pos hk1]
        clear h hL hH hhi hz
        go_enter Try.func49, Try.ntmps49
        go_wp2_with (go_at_call 37; refine HCUT.out.mono ?_; rintro e w1 ⟨rfl, hp⟩; have HP := Lib.hid hp; clear hp)
        go_ret
        exact ⟨rfl, HP.out⟩
      rw [if_neg hk1]
      have hk1lt : k + 1 < s.size := by omega
      rw [byt_at s (k + 1) hk1lt]
      have hb2 : (s[k + 1].toNat : Int) ≤ 255 := by have := s[k + 1].toNat_lt; omega
      have w1 : IntKind.u32.wrap (s[k].toNat : Int) = (s[k].toNat : Int) := by rw [IntKind.wrap_u32]; omega
      have w2 : IntKind.u32.wrap (s[k + 1].toNat : Int) = (s[k + 1].toNat : Int) := by rw [IntKind.wrap_u32]; omega
      have w3 : IntKind.u32.wrap ((s[k].toNat : Int) * 256) = (s[k].toNat : Int) * 256 := by rw [IntKind.wrap_u32]; omega
      have w4 : IntKind.u32.wrap ((s[k].toNat : Int) * 256 + (s[k + 1].toNat : Int)) = (s[k].toNat : Int) * 256 + (s[k + 1].toNat : Int) := by rw [IntKind.wrap_u32]; omega
      have w5 : IntKind.i64.wrap ((k : Int) + 1) = (k : Int) + 1 := by rw [IntKind.wrap_i64]; omega
      have w6 : ((k : Int) + 1).toNat = k + 1 := by omega
      have w7 : (0 : Int) ≤ (k : Int) + 1 := by omega
      have w8 : (k : Int) + 1 < (s.size : Int) := by omega
      rw [if_neg (by decide)]
      clear hL hH hhi hz
      obtain ⟨u, hu⟩ : ∃ u : Int, u = (s[k].toNat : Int) * 256 + (s[k + 1].toNat : Int) := ⟨_, rfl⟩
      rw [← hu] at w4 ⊢
      have hu0 : 0 ≤ u := by omega
      have hu1 : u ≤ 65535 := by omega
      have HU := Lib.hid hu
      have huc : (55296 ≤ u ∧ u ≤ 56319) ∨ (u < 55296 ∧ ¬ (55296 ≤ u ∧ u ≤ 56319)) ∨ ((55296 ≤ u ∧ ¬ u ≤ 56319) ∧ ¬ (55296 ≤ u ∧ u ≤ 56319)) := by omega
      clear hu
      rcases huc with hc | ⟨hc, hn⟩ | ⟨hc, hn⟩
      · rw [if_pos hc]
        obtain ⟨c1, c2⟩ := hc
        go_enter Try.func49, Try.ntmps49
        go_wp2_with fail
        go_quiet (fail)
        rw [← HU.out]
        obtain ⟨wq, hwq⟩ : ∃ wq, wq = w.drewN nq := ⟨_, rfl⟩
        rw [← hwq]
        have hA : RAt wq g go rb (.slice A t.out.length c0) t := by rw [hwq]; exact H.out.keep (Nat.le_refl _) rfl rfl (fun _ _ => rfl)
        have hQ : Chg (RS g go (.slice A t.out.length c0)) w wq := by rw [hwq]; exact Chg.drewN w nq
        have q0 := hA.f0
        have q4 := hA.f4
        have qf := hA.fz
        have qz0 := qf 0
        have qz4 := qf 4
        have qlt := hA.lt
        have qrb := hA.rbl
        have qrg := Lib.hid hA.row_g
        have HA := Lib.hid hA
        have HQ := Lib.hid hQ
        clear hwq hA hQ qf h0 h4 hf0 hf4 w1 w2 w3 w4 hb1 hb2 hlo hlo2
        go_wp2_with fail
        go_ret
        exact ⟨by simp, _, HA.out.set 4 (.int .u32 u) (t' := { t with high := u }) rfl rfl rfl HA.out.ac (.inr ⟨c1, by show u < 56320; omega⟩), HQ.out.trans (rs_g 4 _)⟩
      · rw [if_neg hn]
        clear hn
        go_enter Try.func49, Try.ntmps49
        go_wp2_with fail
        go_quiet (fail)
        rw [← HU.out]
        obtain ⟨wq, hwq⟩ : ∃ wq, wq = w.drewN nq := ⟨_, rfl⟩
        rw [← hwq]
        have hA : RAt wq g go rb (.slice A t.out.length c0) t := by rw [hwq]; exact H.out.keep (Nat.le_refl _) rfl rfl (fun _ _ => rfl)
        have hQ : Chg (RS g go (.slice A t.out.length c0)) w wq := by rw [hwq]; exact Chg.drewN w nq
        have q0 := hA.f0
        have q4 := hA.f4
        have qf := hA.fz
        have qz0 := qf 0
        have qz4 := qf 4
        have qlt := hA.lt
        have qrb := hA.rbl
        have qrg := Lib.hid hA.row_g
        have HA := Lib.hid hA
        have HQ := Lib.hid hQ
        clear hwq hA hQ qf h0 h4 hf0 hf4 w1 w2 w3 w4 hb1 hb2 hlo hlo2
        go_wp2_with (at_builtin; refine wpList_append_lies _ rfl (.tmp 96) (.tmp 98) 22 rfl rb 35 i0 (.int .u32 0) 1 4 Try.underlying22 HN.out.2.2.2 HN.out.1 HN.out.2.1 HN.out.2.2.1 rfl (by decide) _ _ _ rfl (HA.out.row.alloc _) ⟨wq.heap.size, 0, none⟩ 1 1 [.int .u32 u] rfl rfl ?c1 ?c2 (by decide) ?c3 ?c4 ?c5 _ rfl ?_; (case c1 => exact World.news_of_block (heap_alloc_new wq _)); (case c2 => intro q hq; simp at hq; subst hq; rfl); (case c3 => unfold maxLen; omega); (case c4 => omega); (case c5 => exact Nat.le_trans qrb (size_le _ _)); intro r c1 w1 hown1 hgrow1 hat1 hlt1; have hcs1 : w1.cell? ⟨g, 0, none⟩ = _ := (hgrow1.cell_far ⟨g, 0, none⟩ (Nat.lt_of_lt_of_le qlt (size_le _ _)) (fun e => qrg.out e.symm)).trans ((((Below.refl wq.heap.size wq).alloc (Nat.le_refl _) _).cell (p := ⟨g, 0, none⟩) qlt).trans q0); have hfs1 : w1.frozen? ⟨g, 0, none⟩ = false := (hgrow1.frozen_far ⟨g, 0, none⟩ (Nat.lt_of_lt_of_le qlt (size_le _ _)) (fun e => qrg.out e.symm)).trans ((((Below.refl wq.heap.size wq).alloc (Nat.le_refl _) _).frozen (p := ⟨g, 0, none⟩) qlt).trans qz0); have hrg : r ≠ g := app_ne hat1 qrg.out (Nat.lt_of_lt_of_le qlt (size_le _ _)); have HO1 := Lib.hid (own_snoc hown1); have HG1 := Lib.hid hgrow1; have HRG := Lib.hid hrg; clear hown1 hgrow1 hat1 hlt1 hrg)
        go_ret
        obtain ⟨hr1, hr2⟩ := (HA.out.below ((Below.refl _ _).alloc (Nat.le_refl _) _)).push u HO1.out HG1.out HRG.out hl
        exact ⟨by simp, _, hr1, HQ.out.trans (chg_then (Chg.alloc _ _) hr2 (fun i _ hi => hi))⟩
      · rw [if_neg hn]
        clear hn
        obtain ⟨c1, c2⟩ := hc
        go_enter Try.func49, Try.ntmps49
        go_wp2_with fail
        go_quiet (fail)
        rw [← HU.out]
        obtain ⟨wq, hwq⟩ : ∃ wq, wq = w.drewN nq := ⟨_, rfl⟩
        rw [← hwq]
        have hA : RAt wq g go rb (.slice A t.out.length c0) t := by rw [hwq]; exact H.out.keep (Nat.le_refl _) rfl rfl (fun _ _ => rfl)
        have hQ : Chg (RS g go (.slice A t.out.length c0)) w wq := by rw [hwq]; exact Chg.drewN w nq
        have q0 := hA.f0
        have q4 := hA.f4
        have qf := hA.fz
        have qz0 := qf 0
        have qz4 := qf 4
        have qlt := hA.lt
        have qrb := hA.rbl
        have qrg := Lib.hid hA.row_g
        have HA := Lib.hid hA
        have HQ := Lib.hid hQ
        clear hwq hA hQ qf h0 h4 hf0 hf4 w1 w2 w3 w4 hb1 hb2 hlo hlo2
        go_wp2_with (at_builtin; refine wpList_append_lies _ rfl (.tmp 96) (.tmp 98) 22 rfl rb 35 i0 (.int .u32 0) 1 4 Try.underlying22 HN.out.2.2.2 HN.out.1 HN.out.2.1 HN.out.2.2.1 rfl (by decide) _ _ _ rfl (HA.out.row.alloc _) ⟨wq.heap.size, 0, none⟩ 1 1 [.int .u32 u] rfl rfl ?c1 ?c2 (by decide) ?c3 ?c4 ?c5 _ rfl ?_; (case c1 => exact World.news_of_block (heap_alloc_new wq _)); (case c2 => intro q hq; simp at hq; subst hq; rfl); (case c3 => unfold maxLen; omega); (case c4 => omega); (case c5 => exact Nat.le_trans qrb (size_le _ _)); intro r c1 w1 hown1 hgrow1 hat1 hlt1; have hcs1 : w1.cell? ⟨g, 0, none⟩ = _ := (hgrow1.cell_far ⟨g, 0, none⟩ (Nat.lt_of_lt_of_le qlt (size_le _ _)) (fun e => qrg.out e.symm)).trans ((((Below.refl wq.heap.size wq).alloc (Nat.le_refl _) _).cell (p := ⟨g, 0, none⟩) qlt).trans q0); have hfs1 : w1.frozen? ⟨g, 0, none⟩ = false := (hgrow1.frozen_far ⟨g, 0, none⟩ (Nat.lt_of_lt_of_le qlt (size_le _ _)) (fun e => qrg.out e.symm)).trans ((((Below.refl wq.heap.size wq).alloc (Nat.le_refl _) _).frozen (p := ⟨g, 0, none⟩) qlt).trans qz0); have hrg : r ≠ g := app_ne hat1 qrg.out (Nat.lt_of_lt_of_le qlt (size_le _ _)); have HO1 := Lib.hid (own_snoc hown1); have HG1 := Lib.hid hgrow1; have HRG := Lib.hid hrg; clear hown1 hgrow1 hat1 hlt1 hrg)
        go_ret
        obtain ⟨hr1, hr2⟩ := (HA.out.below ((Below.refl _ _).alloc (Nat.le_refl _) _)).push u HO1.out HG1.out HRG.out hl
        exact ⟨by simp, _, hr1, HQ.out.trans (chg_then (Chg.alloc _ _) hr2 (fun i _ hi => hi))⟩
    · have hH : decide (t.high > 0) = true := by simp; omega
      rw [hL, hH, if_pos (by decide)]
      clear h hL hH hz hhi
      go_enter Try.func49, Try.ntmps49
      go_wp2_with (go_at_call 50; refine HWR.out.mono ?_; rintro e w1 ⟨rfl, hp⟩; have HP := Lib.hid hp; clear hp)
      go_ret
      exact ⟨rfl, HP.out⟩
  · have hL : low8 (s[k].toNat : Int) = true := by unfold low8; simp; omega
    rcases hhc with ⟨hz, hzb⟩ | ⟨hz, hzb⟩
    · have hH : decide (t.high > 0) = false := by simp; omega
      rw [hL, hH, if_pos (by decide)]
      clear h hL hH hz hhi
      go_enter Try.func49, Try.ntmps49
      go_wp2_with (go_at_call 50; refine HWR.out.mono ?_; rintro e w1 ⟨rfl, hp⟩; have HP := Lib.hid hp; clear hp)
      go_ret
      exact ⟨rfl, HP.out⟩
    · have hH : decide (t.high > 0) = true := by simp; omega
      rw [hL, hH, if_neg (by decide)]
      by_cases hk1 : s.size ≤ k + 1
      · rw [if_pos hk1]
        clear h hL hH hhi
        go_enter Try.func49, Try.ntmps49
        go_wp2_with (go_at_call 37; refine HCUT.out.mono ?_; rintro e w1 ⟨rfl, hp⟩; have HP := Lib.hid hp; clear hp)
        go_ret
        exact ⟨rfl, HP.out⟩
      rw [if_neg hk1]
      have hk1lt : k + 1 < s.size := by omega
      rw [byt_at s (k + 1) hk1lt]
      have hb2 : (s[k + 1].toNat : Int) ≤ 255 := by have := s[k + 1].toNat_lt; omega
      have w1 : IntKind.u32.wrap (s[k].toNat : Int) = (s[k].toNat : Int) := by rw [IntKind.wrap_u32]; omega
      have w2 : IntKind.u32.wrap (s[k + 1].toNat : Int) = (s[k + 1].toNat : Int) := by rw [IntKind.wrap_u32]; omega
      have w3 : IntKind.u32.wrap ((s[k].toNat : Int) * 256) = (s[k].toNat : Int) * 256 := by rw [IntKind.wrap_u32]; omega
      have w4 : IntKind.u32.wrap ((s[k].toNat : Int) * 256 + (s[k + 1].toNat : Int)) = (s[k].toNat : Int) * 256 + (s[k + 1].toNat : Int) := by rw [IntKind.wrap_u32]; omega
      have w5 : IntKind.i64.wrap ((k : Int) + 1) = (k : Int) + 1 := by rw [IntKind.wrap_i64]; omega
      have w6 : ((k : Int) + 1).toNat = k + 1 := by omega
      have w7 : (0 : Int) ≤ (k : Int) + 1 := by omega
      have w8 : (k : Int) + 1 < (s.size : Int) := by omega
      rw [if_pos rfl]
      have hh2 : t.high < 56320 := by omega
      have hh1 : 55296 ≤ t.high := by omega
      clear hL hH hhi h
      obtain ⟨u, hu⟩ : ∃ u : Int, u = (s[k].toNat : Int) * 256 + (s[k + 1].toNat : Int) := ⟨_, rfl⟩
      rw [← hu] at w4 ⊢
      have hu0 : 56320 ≤ u := by omega
      have hu1 : u ≤ 57343 := by omega
      have HU := Lib.hid hu
      clear hu
      go_enter Try.func49, Try.ntmps49
      go_wp2_with fail
      go_quiet (fail)
      rw [← HU.out]
      obtain ⟨wq, hwq⟩ : ∃ wq, wq = w.drewN nq := ⟨_, rfl⟩
      rw [← hwq]
      have hA : RAt wq g go rb (.slice A t.out.length c0) t := by rw [hwq]; exact H.out.keep (Nat.le_refl _) rfl rfl (fun _ _ => rfl)
      have hQ : Chg (RS g go (.slice A t.out.length c0)) w wq := by rw [hwq]; exact Chg.drewN w nq
      have q0 := hA.f0
      have q4 := hA.f4
      have qf := hA.fz
      have qz0 := qf 0
      have qz4 := qf 4
      have qlt := hA.lt
      have qrb := hA.rbl
      have qrg := Lib.hid hA.row_g
      have HA := Lib.hid hA
      have HQ := Lib.hid hQ
      clear hwq hA hQ qf h0 h4 hf0 hf4 w1 w2 w3 w4 hb1 hb2 hlo hlo2
      have x1 : IntKind.u32.wrap (t.high - 55296) = t.high - 55296 := by rw [IntKind.wrap_u32]; omega
      have x2 : IntKind.u32.wrap ((t.high - 55296) * 1024) = (t.high - 55296) * 1024 := by rw [IntKind.wrap_u32]; omega
      have x3 : IntKind.u32.wrap (65536 + (t.high - 55296) * 1024) = 65536 + (t.high - 55296) * 1024 := by rw [IntKind.wrap_u32]; omega
      have x4 : IntKind.u32.wrap (65536 + (t.high - 55296) * 1024 + u) = 65536 + (t.high - 55296) * 1024 + u := by rw [IntKind.wrap_u32]; omega
      obtain ⟨y, hy⟩ : ∃ y : Int, y = 65536 + (t.high - 55296) * 1024 + u - 56320 := ⟨_, rfl⟩
      have x5 : IntKind.u32.wrap (65536 + (t.high - 55296) * 1024 + u - 56320) = y := by rw [hy, IntKind.wrap_u32]; omega
      have HY := Lib.hid hy
      clear hy
      have qb : Below wq.heap.size wq (wq.alloc (.cells #[.int .u32 y] 35)).drew := ((Below.refl wq.heap.size wq).alloc (Nat.le_refl _) _).drew
      have QB := Lib.hid qb
      clear qb
      go_wp2_with fail
      go_region_law (refine step_append_lies (wq.alloc (.cells #[.int .u32 y] 35)).drew rfl (.tmp 60) (.tmp 71) 22 rfl rb 35 i0 (.int .u32 0) 1 4 Try.underlying22 HN.out.2.2.2 HN.out.1 HN.out.2.1 HN.out.2.2.1 rfl (by decide) _ _ _ rfl (HA.out.row.alloc (.cells #[.int .u32 y] 35)) ⟨wq.heap.size, 0, none⟩ 1 1 [.int .u32 y] rfl rfl ?c1 ?c2 (by decide) ?c3 ?c4 ?c5 _ rfl ?_; (case c1 => exact World.news_of_block (w := (wq.alloc (.cells #[.int .u32 y] 35)).drew) (heap_alloc_new wq _)); (case c2 => intro q hq; simp at hq; subst hq; rfl); (case c3 => unfold maxLen; omega); (case c4 => omega); (case c5 => exact Nat.le_trans qrb (size_le _ _)); intro r c1 w1 hown1 hgrow1 hat1 hlt1; have hcs1 : w1.cell? ⟨g, 0, none⟩ = _ := (hgrow1.cell_far ⟨g, 0, none⟩ (Nat.lt_of_lt_of_le qlt (size_le _ _)) (fun e => qrg.out e.symm)).trans ((QB.out.cell (p := ⟨g, 0, none⟩) qlt).trans q0); have hfs1 : w1.frozen? ⟨g, 0, none⟩ = false := (hgrow1.frozen_far ⟨g, 0, none⟩ (Nat.lt_of_lt_of_le qlt (size_le _ _)) (fun e => qrg.out e.symm)).trans ((QB.out.frozen (p := ⟨g, 0, none⟩) qlt).trans qz0); have hcs4 : w1.cell? ⟨g, 4, none⟩ = _ := (hgrow1.cell_far ⟨g, 4, none⟩ (Nat.lt_of_lt_of_le qlt (size_le _ _)) (fun e => qrg.out e.symm)).trans ((QB.out.cell (p := ⟨g, 4, none⟩) qlt).trans q4); have hfs4 : w1.frozen? ⟨g, 4, none⟩ = false := (hgrow1.frozen_far ⟨g, 4, none⟩ (Nat.lt_of_lt_of_le qlt (size_le _ _)) (fun e => qrg.out e.symm)).trans ((QB.out.frozen (p := ⟨g, 4, none⟩) qlt).trans qz4); have hrg : r ≠ g := app_ne hat1 qrg.out (Nat.lt_of_lt_of_le qlt (size_le _ _)); have HO1 := Lib.hid (own_snoc hown1); have HG1 := Lib.hid hgrow1; have HRG := Lib.hid hrg; clear hown1 hgrow1 hat1 hlt1 hrg)
      all_goals
        go_wp2_with fail
        go_ret
        obtain rfl := HY.out
        obtain ⟨hr1, hr2⟩ := (HA.out.below QB.out).push _ HO1.out HG1.out HRG.out hl
        exact ⟨by simp, _, hr1.set 4 (.int .u32 0) rfl rfl rfl hr1.ac (.inl rfl), HQ.out.trans ((chg_then (Chg.of_below QB.out) hr2 (fun i _ hi => hi)).trans (rs_g 4 _))⟩
end Go.Proofs.Ytkfiahildoljfaa.Rst
