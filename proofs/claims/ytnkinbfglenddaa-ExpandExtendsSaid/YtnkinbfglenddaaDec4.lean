/- The expander: a part's byte behind the first one; a byte. -/
import Derived.Test.YtnkinbfglenddaaDec3
import Derived.Test.YtnkinbfglenddaaWin5
namespace Go.Proofs.Ytnkinbfglenddaa.Dec
open Go.RowKit Go.Proofs.Ytnkinbfglenddaa.Win Go.Proofs.Ytnkinbfglenddaa.Stp Go.Proofs.Ytnkinbfglenddaa.Mach
set_option linter.unusedVariables false
set_option linter.unusedSimpArgs false
section
variable {w w' : World} {g gw rb : Nat} {v : Value} {b : B4} {l : List Int} {m : M}
theorem DecAt.below (h : DecAt w g gw rb v b l m) (hb : Below w.heap.size w w') : DecAt w' g gw rb v b l m := h.keep hb.size (hb.block g h.lt) (hb.block gw h.win.lt) (fun k hk => hb.block k (h.row.lt k hk).2)
theorem DecAt.wins {o : List Int} (h : DecAt w g gw rb v b l m) (hw : WinAt w' gw o used0) (hc : Chg (· = gw) w w') : DecAt w' g gw rb v b l { m with o := o } := by
  have hne := h.ne_gw
  have h1 := h.row_gw
  have h2 : ∀ k, v.ownBlock = some k → w'.heap[k]? = w.heap[k]? := fun k hk => hc.block k (h.row.lt k hk).2 (fun e => h1 (by rw [hk, e]))
  obtain ⟨a1, a2⟩ := h.row
  refine ⟨(hc.block g h.lt (fun e => hne e.symm)).trans h.blk, hw, ⟨a1, ?_⟩, h.nil, Nat.le_trans h.rbl hc.size⟩
  rcases a2 with a2 | ⟨g', cap, cur, hv, hb, hh, r⟩
  · exact .inl a2
  · exact .inr ⟨g', cap, cur, hv, hb, (h2 g' (by rw [hv]; rfl)).trans hh, r⟩
theorem chg_gw (hc : Chg (· = gw) w w') : Chg (FS g gw v) w w' := hc.mono (fun i hi => .inr (.inl hi))
end
set_option maxRecDepth 100000 in
set_option maxHeartbeats 4000000 in
theorem more_1 {w : World} {g gw rb : Nat} {v : Value} {b : B4} {l : List Int} {m : M} (x : Int) (h : DecAt w g gw rb v b l m) (hG : Mach.Good m) (x0 : 0 ≤ x) (x1 : x ≤ 255) (hl : l.length ≤ 1000000) (hbeg : m.beg = 1) :
    Calls Try.prog 40 #[.pointer (some ⟨g, 0, none⟩), .int .u8 x] w (NextPost w g gw rb v b l (Mach.more m x)) := by
  have h5 := h.c5
  have h8 := h.c8
  have h9 := h.c9
  rw [hbeg] at h8
  have hn := hG.n
  have hst := static_rng hn.1 hn.2
  have hat := hG.at_ hn.1 hn.2
  have hs := fun w => static_calls m.n w
  have hwat : ∀ k : Nat, Calls Try.prog 48 #[.pointer (some ⟨gw, 0, none⟩), .int .i64 m.n] (w.drewN k) fun e w' => e = .returned (.int .u32 (wAt m.o m.n)) ∧ w' = w.drewN k := fun k => (at_calls gw m.o used0 m.n (w.drewN k) (h.win.keep rfl)).mono fun e w' h => ⟨h.1, h.2.symm⟩
  have H := Lib.hid h
  obtain ⟨z, hz⟩ : ∃ z, z = (wStatic m.n).1 := ⟨_, rfl⟩
  obtain ⟨y, hy⟩ : ∃ y, y = wAt m.o m.n := ⟨_, rfl⟩
  have hr : Mach.more m x = some ({ m with beg := 0 }, [if 128 ≤ x then y - 128 + x else z + x]) := by unfold Mach.more; rw [if_pos hbeg, hz, hy]
  rw [hr]
  rw [← hz] at hst hs
  rw [← hy] at hat hwat
  have HS := Lib.hid hs
  have HWAT := Lib.hid hwat
  obtain ⟨z0, z1⟩ := hst
  obtain ⟨y0, y1⟩ := hat
  have w1 : IntKind.u32.wrap (y - 128) = y - 128 := by rw [IntKind.wrap_u32]; omega
  clear h hG hn hs hwat hr hz hy hbeg
  by_cases hx : 128 ≤ x
  · rw [if_pos hx]
    go_enter Try.func40, Try.ntmps40
    go_wp2_with fail
    refine (HS.out _).mono ?_
    rintro e w2 ⟨rfl, rfl⟩
    go_wp2_with fail
    go_quiet ((go_at_call 48; exact Calls.quiet_of_same (HWAT.out _)))
    go_wp2_with (go_at_call 49; refine (hold_in (y - 128 + x) _ ((H.out.drewN nq).alloc (.cells #[.int .u32 (y - 128 + x)] 25)) ((cell_of (show ((w.drewN nq).alloc (.cells #[.int .u32 (y - 128 + x)] 25)).heap[w.heap.size]? = _ from heap_alloc_new (w.drewN nq) _) 0).trans rfl) hl).mono ?_; rintro e w3 ⟨rfl, hd⟩; obtain ⟨v', hd, hc⟩ := hd; have hh8 := hd.c8; have hf8 := hd.fz 8; have HD := Lib.hid hd; have HC := Lib.hid hc; clear hd hc)
    go_ret
    exact ⟨rfl, _, HD.out.set 8 (.int .i64 0) rfl rfl, ((Chg.drewN _ _).trans (chg_then (Chg.alloc _ _) HC.out (fun i _ hi => hi))).trans (chg_g 8 _)⟩
  · rw [if_neg hx]
    go_enter Try.func40, Try.ntmps40
    go_wp2_with fail
    refine (HS.out _).mono ?_
    rintro e w2 ⟨rfl, rfl⟩
    go_wp2_with (go_at_call 49; refine (hold_in (z + x) _ (H.out.alloc (.cells #[.int .u32 (z + x)] 25)) (by rw [cell_of (heap_alloc_new _ _)]; rfl) hl).mono ?_; rintro e w3 ⟨rfl, hd⟩; obtain ⟨v', hd, hc⟩ := hd; have hh8 := hd.c8; have hf8 := hd.fz 8; have HD := Lib.hid hd; have HC := Lib.hid hc; clear hd hc)
    go_ret
    exact ⟨rfl, _, HD.out.set 8 (.int .i64 0) rfl rfl, ((chg_then (Chg.alloc _ _) HC.out (fun i _ hi => hi))).trans (chg_g 8 _)⟩
set_option maxRecDepth 100000 in
set_option maxHeartbeats 4000000 in
theorem more_2 {w : World} {g gw rb : Nat} {v : Value} {b : B4} {l : List Int} {m : M} (x : Int) (h : DecAt w g gw rb v b l m) (hG : Mach.Good m) (x0 : 0 ≤ x) (x1 : x ≤ 255) (hl : l.length ≤ 1000000) (hbeg : m.beg = 2) :
    Calls Try.prog 40 #[.pointer (some ⟨g, 0, none⟩), .int .u8 x] w (NextPost w g gw rb v b l (Mach.more m x)) := by
  have h8 := h.c8
  rw [hbeg] at h8
  have hn := hG.n
  have hs := fun w => offset_calls x w x0 x1
  have H := Lib.hid h
  obtain ⟨o, ok, hok⟩ : ∃ o ok, wOffset x = (o, ok) := ⟨_, _, rfl⟩
  rw [hok] at hs
  have HS := Lib.hid hs
  cases ok with
  | false =>
    have hr : Mach.more m x = none := by unfold Mach.more; rw [if_neg (by rw [hbeg]; decide), if_pos hbeg, hok]; rfl
    rw [hr]
    clear h hG hn hs hr hok hbeg
    go_enter Try.func40, Try.ntmps40
    go_wp2_with fail
    refine (HS.out _).mono ?_
    rintro e w2 ⟨rfl, hb⟩
    have HB := Lib.hid hb
    clear hb
    go_wp2_with fail
    go_ret
    exact np_nof (H.out.below HB.out) (Chg.of_below HB.out)
  | true =>
    have hr : Mach.more m x = some (({ m with o := m.o.set m.n.toNat o } : M).activate m.n, []) := by unfold Mach.more; rw [if_neg (by rw [hbeg]; decide), if_pos hbeg, hok, if_pos rfl]
    rw [hr]
    obtain ⟨n, hnn⟩ : ∃ n, n = m.n := ⟨_, rfl⟩
    rw [← hnn] at hn ⊢
    have HNN := Lib.hid hnn
    obtain ⟨n0, n1⟩ := hn
    clear h hG hs hr hok hbeg hnn
    go_enter Try.func40, Try.ntmps40
    go_wp2_with fail
    refine (HS.out _).mono ?_
    rintro e w2 ⟨rfl, hb⟩
    have hd2 := H.out.below hb
    have HB := Lib.hid hb
    have q5 := hd2.c5
    have q9 := hd2.c9
    rw [← HNN.out] at q9
    have HD2 := Lib.hid hd2
    clear hb hd2
    go_wp2_with fail
    have hset : ∀ w3 : World, WinAt w3 gw m.o used0 → Calls Try.prog 51 #[.pointer (some ⟨gw, 0, none⟩), .int .i64 n, .int .u32 o] w3 fun e w' => e = .returned (.tuple #[]) ∧ WinAt w' gw (m.o.set n.toNat o) used0 ∧ Chg (· = gw) w3 w' := by
      intro w3 hw3
      have := set_calls gw m.o used0 n o w3 hw3
      rw [if_pos ⟨n0, n1⟩] at this
      exact this
    have HSET := Lib.hid hset
    clear hset
    go_region_with (go_at_call 51; refine (HSET.out _ (HD2.out.drewN 1).win).mono ?_; rintro e w3 ⟨rfl, hw3, hc3⟩; have hd3 := (HD2.out.drewN 1).wins hw3 hc3; have r9 := hd3.c9; simp only [← HNN.out] at r9; have HD3 := Lib.hid hd3; have HC3 := Lib.hid hc3; clear hw3 hc3 hd3)
    all_goals
      go_wp2_with (go_at_call 52; refine (activate_calls _ HD3.out).mono ?_; rintro e w4 ⟨rfl, rfl⟩)
      go_ret
      obtain rfl := HNN.out
      exact np_of (at_act HD3.out _) ((((Chg.of_below HB.out).trans (Chg.drewN _ _)).trans (chg_gw HC3.out)).trans (((chg_g 7 _).trans (chg_g 6 _)).trans (chg_g 8 _)))
end Go.Proofs.Ytnkinbfglenddaa.Dec
