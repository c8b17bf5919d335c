/- ExpandWindows: each window can be laid, is active, can be quoted from. -/
import Derived.Test.YtnkinbfglenddaaLawAscii
import Derived.Test.YtnkinbfglenddaaRef13
namespace Go.Proofs.Ytnkinbfglenddaa.Dec
open Go.RowKit Go.Proofs.Ytnkinbfglenddaa.Win Go.Proofs.Ytnkinbfglenddaa.Stp Go.Proofs.Ytnkinbfglenddaa.Mach Go.Proofs.Ytnkinbfglenddaa.Lst
set_option linter.unusedVariables false
set_option linter.unusedSimpArgs false
theorem or128 (b : Int) (h0 : 0 ≤ b) (h1 : b ≤ 255) : 128 ≤ bits .or .u8 b 128 ∧ bits .or .u8 b 128 ≤ 255 := by
  have key : ∀ b : Fin 256, 128 ≤ bits .or .u8 (b.val : Int) 128 ∧ bits .or .u8 (b.val : Int) 128 ≤ 255 := by decide +kernel
  have := key ⟨b.toNat, by omega⟩
  simp only [Int.toNat_of_nonneg h0] at this
  exact this
def win1 (n x b : Int) : List Int := [24 + n, x, b, 16 + (n + 1) % 8, 1 + n, b]
def win2 (n x b : Int) : List Int := [15, 232 + n, x, b, 15, 224 + n, b]
theorem sgl {m : M} {b : Int} (h : m.beg = 0) (hu : m.uni = false) : Mach.step m b = single m b := by
  unfold Mach.step
  rw [if_neg (by rw [h]; simp), hu]
  rfl
theorem dbl {m : M} {b : Int} (h : m.beg = 0) (hu : m.uni = true) : Mach.step m b = double m b := by
  unfold Mach.step
  rw [if_neg (by rw [h]; simp), if_pos hu]
theorem mor {m : M} {b : Int} (h : m.beg ≠ 0) : Mach.step m b = more m b := by
  unfold Mach.step
  rw [if_pos h]
theorem pass_no {b : Int} (h1 : 1 ≤ b) (h2 : b ≤ 31) (h3 : b ≠ 9) (h4 : b ≠ 10) (h5 : b ≠ 13) : ¬ pass b = true := by
  unfold pass; simp; omega
theorem s_hi {m : M} {b : Int} (hu : m.upper = 0) (hb : 128 ≤ b) : single m b = some (m, [wAt m.o m.act + b - 128]) := by
  unfold single
  rw [if_neg (by rw [hu]; simp; omega), if_pos hb]
theorem s_lay {m : M} {b : Int} (hu : m.upper = 0) (h1 : 24 ≤ b) (h2 : b ≤ 31) : single m b = some (m.begin 2 (b - 24), []) := by
  unfold single
  rw [if_neg (by rw [hu]; simp; omega), if_neg (by omega), if_neg (pass_no (by omega) (by omega) (by omega) (by omega) (by omega)), if_pos h1]
theorem s_act {m : M} {b : Int} (hu : m.upper = 0) (h1 : 16 ≤ b) (h2 : b ≤ 23) : single m b = some (m.activate (b - 16), []) := by
  unfold single
  rw [if_neg (by rw [hu]; simp; omega), if_neg (by omega), if_neg (pass_no (by omega) (by omega) (by omega) (by omega) (by omega)), if_neg (by omega), if_pos h1]
theorem s_15 {m : M} (hu : m.upper = 0) : single m 15 = some ({ m with uni := true }, []) := by
  unfold single
  rw [if_neg (by rw [hu]; simp), if_neg (by omega), if_neg (pass_no (by omega) (by omega) (by omega) (by omega) (by omega)), if_neg (by omega), if_neg (by omega), if_pos rfl]
theorem s_quo {m : M} {b : Int} (hu : m.upper = 0) (h1 : 1 ≤ b) (h2 : b ≤ 8) : single m b = some (m.begin 1 (b - 1), []) := by
  unfold single
  rw [if_neg (by rw [hu]; simp; omega), if_neg (by omega), if_neg (pass_no (by omega) (by omega) (by omega) (by omega) (by omega)), if_neg (by omega), if_neg (by omega), if_neg (by omega), if_neg (by omega), if_neg (by omega)]
theorem d_lay {m : M} {b : Int} (hu : m.upper = 0) (h1 : 232 ≤ b) (h2 : b ≤ 239) : double m b = some (m.begin 2 (b - 232), []) := by
  unfold double
  rw [if_neg (by omega), if_neg (by omega), if_neg (by rw [hu]; simp; omega), if_neg (by omega), if_pos h1]
theorem d_act {m : M} {b : Int} (hu : m.upper = 0) (h1 : 224 ≤ b) (h2 : b ≤ 231) : double m b = some (m.activate (b - 224), []) := by
  unfold double
  rw [if_neg (by omega), if_neg (by omega), if_neg (by rw [hu]; simp; omega), if_neg (by omega), if_neg (by omega)]
theorem m_quo {m : M} {b : Int} (h : m.beg = 1) (hb : 128 ≤ b) : more m b = some ({ m with beg := 0 }, [wAt m.o m.n - 128 + b]) := by
  unfold more
  rw [if_pos h, if_pos hb]
theorem m_lay {m : M} {b : Int} (h : m.beg = 2) : more m b = if (wOffset b).2 = true then some (({ m with o := m.o.set m.n.toNat (wOffset b).1 } : M).activate m.n, []) else none := by
  unfold more
  rw [if_neg (by rw [h]; decide), if_pos h]
theorem wAt_set {o : List Int} {n c : Int} (hn : 0 ≤ n) (hn8 : n < 8) (hl : o.length = 8) : wAt (o.set n.toNat c) n = c := by
  unfold wAt
  rw [if_pos ⟨hn, hn8⟩, List.getD_eq_getElem?_getD, List.getElem?_set_self (by omega)]
  rfl
theorem win1_bad {n x b : Int} (hn : 0 ≤ n) (hn8 : n < 8) (h : (wOffset x).2 = false) : ∃ m, steps m0 ((win1 n x b).take 1) = some (m, []) ∧ Mach.step m x = none := by
  have e1 : Mach.step m0 (24 + n) = some (m0.begin 2 (24 + n - 24), []) := by rw [sgl rfl rfl, s_lay rfl (by omega) (by omega)]
  refine ⟨m0.begin 2 (24 + n - 24), ?_, ?_⟩
  · simp only [win1, List.take_succ_cons, List.take_zero, steps, e1]
    rfl
  · rw [mor (by unfold M.begin; simp), m_lay rfl, h]
    rfl
theorem win2_bad {n x b : Int} (hn : 0 ≤ n) (hn8 : n < 8) (h : (wOffset x).2 = false) : ∃ m, steps m0 ((win2 n x b).take 2) = some (m, []) ∧ Mach.step m x = none := by
  have e0 : Mach.step m0 15 = some ({ m0 with uni := true }, []) := rfl
  have e1 : Mach.step { m0 with uni := true } (232 + n) = some (({ m0 with uni := true } : M).begin 2 (232 + n - 232), []) := by rw [dbl rfl rfl, d_lay rfl (by omega) (by omega)]
  refine ⟨({ m0 with uni := true } : M).begin 2 (232 + n - 232), ?_, ?_⟩
  · simp only [win2, List.take_succ_cons, List.take_zero, steps, e0, e1]
    rfl
  · rw [mor (by unfold M.begin; simp), m_lay rfl, h]
    rfl
theorem win1_good {n x b : Int} (hn : 0 ≤ n) (hn8 : n < 8) (hb : 128 ≤ b) (h : (wOffset x).2 = true) : ∃ m, steps m0 (win1 n x b) = some (m, [(wOffset x).1 + b - 128, (wOffset x).1 + b - 128]) := by
  have e1 : Mach.step m0 (24 + n) = some (m0.begin 2 n, []) := by
    have : 24 + n - 24 = n := by omega
    rw [sgl rfl rfl, s_lay rfl (by omega) (by omega), this]
  have e2 : Mach.step (m0.begin 2 n) x = some ((({ (m0.begin 2 n) with o := m0.o.set n.toNat (wOffset x).1 } : M)).activate n, []) := by
    rw [mor (by unfold M.begin; simp), m_lay rfl, h, if_pos rfl]; rfl
  obtain ⟨L, hL⟩ : ∃ L, L = (({ (m0.begin 2 n) with o := m0.o.set n.toNat (wOffset x).1 } : M)).activate n := ⟨_, rfl⟩
  have l1 : L.beg = 0 := by rw [hL]; rfl
  have l2 : L.uni = false := by rw [hL]; rfl
  have l3 : L.upper = 0 := by rw [hL]; rfl
  have l4 : L.act = n := by rw [hL]; rfl
  have l5 : wAt L.o n = (wOffset x).1 := by rw [hL]; exact wAt_set hn hn8 rfl
  rw [← hL] at e2
  clear hL
  have e3 : Mach.step L b = some (L, [(wOffset x).1 + b - 128]) := by rw [sgl l1 l2, s_hi l3 hb, l4, l5]
  obtain ⟨k, hk⟩ : ∃ k, k = (n + 1) % 8 := ⟨_, rfl⟩
  have e4 : Mach.step L (16 + k) = some (L.activate (16 + k - 16), []) := by rw [sgl l1 l2, s_act l3 (by omega) (by omega)]
  have e5 : Mach.step (L.activate (16 + k - 16)) (1 + n) = some ((L.activate (16 + k - 16)).begin 1 n, []) := by
    have : 1 + n - 1 = n := by omega
    rw [sgl (m := L.activate (16 + k - 16)) rfl rfl, s_quo (m := L.activate (16 + k - 16)) l3 (by omega) (by omega), this]
  have e6 : Mach.step ((L.activate (16 + k - 16)).begin 1 n) b = some ({ ((L.activate (16 + k - 16)).begin 1 n) with beg := 0 }, [(wOffset x).1 + b - 128]) := by
    rw [mor (by unfold M.begin; simp), m_quo rfl hb]
    have e : wAt ((L.activate (16 + k - 16)).begin 1 n).o ((L.activate (16 + k - 16)).begin 1 n).n = (wOffset x).1 := l5
    rw [e]
    have : (wOffset x).1 - 128 + b = (wOffset x).1 + b - 128 := by omega
    rw [this]
  simp only [win1, steps, e1, e2, e3, ← hk, e4, e5, e6]
  exact ⟨_, rfl⟩
theorem win2_good {n x b : Int} (hn : 0 ≤ n) (hn8 : n < 8) (hb : 128 ≤ b) (h : (wOffset x).2 = true) : ∃ m, steps m0 (win2 n x b) = some (m, [(wOffset x).1 + b - 128, (wOffset x).1 + b - 128]) := by
  have e0 : Mach.step m0 15 = some ({ m0 with uni := true }, []) := rfl
  have e1 : Mach.step { m0 with uni := true } (232 + n) = some (({ m0 with uni := true } : M).begin 2 n, []) := by
    have : 232 + n - 232 = n := by omega
    rw [dbl rfl rfl, d_lay rfl (by omega) (by omega), this]
  have e2 : Mach.step (({ m0 with uni := true } : M).begin 2 n) x = some ((({ (({ m0 with uni := true } : M).begin 2 n) with o := m0.o.set n.toNat (wOffset x).1 } : M)).activate n, []) := by
    rw [mor (by unfold M.begin; simp), m_lay rfl, h, if_pos rfl]; rfl
  obtain ⟨L, hL⟩ : ∃ L, L = (({ (({ m0 with uni := true } : M).begin 2 n) with o := m0.o.set n.toNat (wOffset x).1 } : M)).activate n := ⟨_, rfl⟩
  have l1 : L.beg = 0 := by rw [hL]; rfl
  have l2 : L.uni = false := by rw [hL]; rfl
  have l3 : L.upper = 0 := by rw [hL]; rfl
  have l4 : L.act = n := by rw [hL]; rfl
  have l5 : wAt L.o n = (wOffset x).1 := by rw [hL]; exact wAt_set hn hn8 rfl
  rw [← hL] at e2
  clear hL
  have e3 : Mach.step L b = some (L, [(wOffset x).1 + b - 128]) := by rw [sgl l1 l2, s_hi l3 hb, l4, l5]
  have e4 : Mach.step L 15 = some ({ L with uni := true }, []) := by rw [sgl l1 l2, s_15 l3]
  have e5 : Mach.step { L with uni := true } (224 + n) = some (({ L with uni := true } : M).activate n, []) := by
    have : 224 + n - 224 = n := by omega
    rw [dbl (m := { L with uni := true }) l1 rfl, d_act (m := { L with uni := true }) l3 (by omega) (by omega), this]
  have e6 : Mach.step (({ L with uni := true } : M).activate n) b = some (({ L with uni := true } : M).activate n, [(wOffset x).1 + b - 128]) := by
    have e : wAt (({ L with uni := true } : M).activate n).o (({ L with uni := true } : M).activate n).act = (wOffset x).1 := l5
    rw [sgl (m := ({ L with uni := true } : M).activate n) rfl rfl, s_hi (m := ({ L with uni := true } : M).activate n) l3 hb, e]
  simp only [win2, steps, e0, e1, e2, e3, e4, e5, e6]
  exact ⟨_, rfl⟩
/-- A text all of whose bytes go: what is told. -/
theorem ran_all {l out e : List Int} {b : B4} {m : M} (h1 : steps m0 l = some (m, e)) (hr : Ran l out b) : out = e := by
  rcases hr with ⟨m, h2, _⟩ | ⟨m, h2, _⟩ | ⟨k, m, h2, h3, h4, _⟩
  · rw [h1] at h2; simp only [Option.some.injEq, Prod.mk.injEq] at h2; exact h2.2.symm
  · rw [h1] at h2; simp only [Option.some.injEq, Prod.mk.injEq] at h2; exact h2.2.symm
  · have := stop_le h2 h3 h4 (j := l.length) (by rw [List.take_length]; exact h1)
    omega
/-- A text that goes wrong at a place. -/
theorem ran_stop {l out e : List Int} {b : B4} {m : M} {k : Nat} (hk : k < l.length) (h1 : steps m0 (l.take k) = some (m, e)) (h2 : Mach.step m (l.getD k 0) = none) (hr : Ran l out b) : out = e ∧ b = { at_ := k, err := 3, pl := k, fin := false } := by
  rcases hr with ⟨m, h3, _⟩ | ⟨m, h3, _⟩ | ⟨j, m, h3, h4, h5, h6⟩
  · have := stop_le hk h1 h2 (j := l.length) (by rw [List.take_length]; exact h3)
    omega
  · have := stop_le hk h1 h2 (j := l.length) (by rw [List.take_length]; exact h3)
    omega
  · have q1 := stop_le hk h1 h2 h4
    have q2 := stop_le h3 h4 h5 h1
    obtain rfl : j = k := by omega
    rw [h1] at h4
    simp only [Option.some.injEq, Prod.mk.injEq] at h4
    exact ⟨h4.2.symm, h6⟩
theorem conv_lit (w : World) (xs : List Int) : (convert 37 9 (.slice (some ⟨w.heap.size, 0, none⟩) xs.length xs.length)).run Try.prog (w.alloc (.cells (xs.map fun x => Value.int .u8 x).toArray 5)) = .ok (.string (strOfNums xs)) (w.alloc (.cells (xs.map fun x => Value.int .u8 x).toArray 5)) := by
  refine run_convert_bytes_arg _ 37 5 Try.underlying37 Try.underlying5 w.heap.size 0 xs.length xs.length xs rfl (fun i hi => ?_) 9 Try.underlying9
  rw [cell_of (heap_alloc_new _ _)]
  simp [List.getD_eq_getElem?_getD, hi]
theorem byt_str {xs : List Int} (h : ∀ x ∈ xs, 0 ≤ x ∧ x ≤ 255) : byt (strOfNums xs) = xs := by
  unfold byt strOfNums
  simp only [List.map_map]
  conv => rhs; rw [← List.map_id xs]
  apply List.map_congr_left
  intro x hx
  have := h x hx
  simp
  omega
set_option maxRecDepth 100000 in
set_option maxHeartbeats 8000000 in
theorem windows_calls (n x b : Int) (w : World) (hn : 0 ≤ n) (hn2 : n ≤ 255) (hx : 0 ≤ x) (hx2 : x ≤ 255) (hb : 0 ≤ b) (hb2 : b ≤ 255) : Calls Try.prog 5 #[.int .u8 n, .int .u8 x, .int .u8 b] w (LawPost w) := by
  have hoff := roffset_calls x w hx hx2
  obtain ⟨o, ho⟩ : ∃ o, o = (wOffset x).1 := ⟨_, rfl⟩
  obtain ⟨ok, hok⟩ : ∃ k, k = (wOffset x).2 := ⟨_, rfl⟩
  have hrg : ok = true → 128 ≤ o ∧ o ≤ 1114000 := fun h => by rw [ho]; exact offset_rng hx hx2 (by rw [← hok]; exact h)
  rw [← ho, ← hok] at hoff
  obtain ⟨B, hB⟩ : ∃ B, bits .or .u8 b 128 = B := ⟨_, rfl⟩
  have hBr := or128 b hb hb2
  rw [hB] at hBr
  have HOF := Lib.hid hoff
  have HO := Lib.hid ho
  have HOK := Lib.hid hok
  have HRG := Lib.hid hrg
  clear hoff ho hok hrg
  obtain ⟨hB1, hB2⟩ := hBr
  go_enter Try.func5, Try.ntmps5
  go_wp2_with fail
  refine HOF.out.mono ?_
  rintro e w1 ⟨rfl, hb1⟩
  have HB1 := Lib.hid hb1
  clear hb1
  go_wp2_with fail
  refine (awake_calls _).mono ?_
  rintro e w2 ⟨rfl, hb2⟩
  have HB2 := Lib.hid (tb HB1.out hb2)
  clear hb2
  obtain ⟨S1, hS1⟩ : ∃ S, S = strOfNums [24 + n % 8, x, B, 16 + (n + 1) % 8, 1 + n % 8, B] := ⟨_, rfl⟩
  have hcv1 : (convert 37 9 (.slice (some ⟨w2.heap.size, 0, none⟩) 6 6)).run Try.prog (w2.alloc (.cells #[.int .u8 (24 + n % 8), .int .u8 x, .int .u8 B, .int .u8 (16 + (n + 1) % 8), .int .u8 (1 + n % 8), .int .u8 B] 5)) = .ok (.string S1) (w2.alloc (.cells #[.int .u8 (24 + n % 8), .int .u8 x, .int .u8 B, .int .u8 (16 + (n + 1) % 8), .int .u8 (1 + n % 8), .int .u8 B] 5)) := by
    rw [hS1]
    exact conv_lit w2 [24 + n % 8, x, B, 16 + (n + 1) % 8, 1 + n % 8, B]
  obtain ⟨w3, hw3⟩ : ∃ w3, w3 = w2.alloc (.cells #[.int .u8 (24 + n % 8), .int .u8 x, .int .u8 B, .int .u8 (16 + (n + 1) % 8), .int .u8 (1 + n % 8), .int .u8 B] 5) := ⟨_, rfl⟩
  rw [← hw3] at hcv1
  obtain ⟨S2, hS2⟩ : ∃ S, S = strOfNums [15, 232 + n % 8, x, B, 15, 224 + n % 8, B] := ⟨_, rfl⟩
  have hcv2 : (convert 37 9 (.slice (some ⟨w3.heap.size, 0, none⟩) 7 7)).run Try.prog (w3.alloc (.cells #[.int .u8 15, .int .u8 (232 + n % 8), .int .u8 x, .int .u8 B, .int .u8 15, .int .u8 (224 + n % 8), .int .u8 B] 5)) = .ok (.string S2) (w3.alloc (.cells #[.int .u8 15, .int .u8 (232 + n % 8), .int .u8 x, .int .u8 B, .int .u8 15, .int .u8 (224 + n % 8), .int .u8 B] 5)) := by
    rw [hS2]
    exact conv_lit w3 [15, 232 + n % 8, x, B, 15, 224 + n % 8, B]
  have hw3' : w2.alloc (.cells #[.int .u8 (24 + n % 8), .int .u8 x, .int .u8 B, .int .u8 (16 + (n + 1) % 8), .int .u8 (1 + n % 8), .int .u8 B] 5) = w3 := hw3.symm
  have HB3 := Lib.hid (show Below w.heap.size w w3 by rw [hw3]; exact HB2.out.alloc HB2.out.size _)
  have hs1 : S1.size = 6 := by rw [hS1]; rfl
  have hs2 : S2.size = 7 := by rw [hS2]; rfl
  have hby1 : byt S1 = win1 (n % 8) x B := by
    rw [hS1, byt_str (by intro y hy; simp only [List.mem_cons, List.not_mem_nil, or_false] at hy; omega)]
    unfold win1
    have : (n % 8 + 1) % 8 = (n + 1) % 8 := by omega
    rw [this]
  have hby2 : byt S2 = win2 (n % 8) x B := by
    rw [hS2, byt_str (by intro y hy; simp only [List.mem_cons, List.not_mem_nil, or_false] at hy; omega)]
    rfl
  have HS1 := Lib.hid hs1
  have HS2 := Lib.hid hs2
  have HY1 := Lib.hid hby1
  have HY2 := Lib.hid hby2
  clear hw3 hS1 hS2 hs1 hs2 hby1 hby2
  go_wp2_with fail
  obtain ⟨w5, hw5⟩ : ∃ w5, w5 = w3.alloc (.cells #[.int .u8 15, .int .u8 (232 + n % 8), .int .u8 x, .int .u8 B, .int .u8 15, .int .u8 (224 + n % 8), .int .u8 B] 5) := ⟨_, rfl⟩
  rw [← hw5]
  have HB5 := Lib.hid (show Below w.heap.size w w5 by rw [hw5]; exact HB3.out.alloc HB3.out.size _)
  clear hcv1 hcv2 hw3' hw5 hB
  refine (newDecoder_calls _).mono ?_
  rintro e w6 ⟨rfl, hd, hb, hz⟩
  obtain ⟨g1, hg1⟩ : ∃ g, g = w5.heap.size := ⟨_, rfl⟩
  rw [← hg1] at hd
  rw [← hg1]
  have HD := Lib.hid hd
  have HBl := Lib.hid hb
  have HG := Lib.hid hg1
  have HZ := Lib.hid hz
  clear hd hb hg1 hz
  go_wp2_with fail
  refine (newDecoder_calls _).mono ?_
  rintro e w7 ⟨rfl, hd, hb, hz⟩
  have hdd := HD.out.below hb
  obtain ⟨g2, hg2⟩ : ∃ g, g = w6.heap.size := ⟨_, rfl⟩
  rw [← hg2] at hd
  rw [← hg2]
  have hb3 := tb (tb HB5.out HBl.out) hb
  have hne : g1 + 1 < g2 ∧ w.heap.size ≤ g1 := by have := HZ.out; have := HG.out; have := HB5.out.size; omega
  have hrd := read_calls (parts := []) (rooms := []) (AP := none) (AR := none) (cP := 0) (cR := 0) S1 hdd (fun _ _ => Lst.nil _ _ _) (fun _ _ => Lst.nil _ _ _) (by decide) (by decide) (by have := HS1.out; omega)
  have HDD := Lib.hid hd
  have HB7 := Lib.hid hb3
  have HNE := Lib.hid hne
  have HRD := Lib.hid hrd
  clear hd hdd hb hz hg2 hb3 hne hrd
  go_wp2_with fail
  refine HRD.out.mono ?_
  rintro e w8 ⟨A1, c1, o1, b1, n1, rfl, hd1, hc1, ho1, hlen1, hran1⟩
  rw [HY1.out] at hran1
  have hk2 := HDD.out.keep hc1.size (hc1.block _ HDD.out.lt (by rintro (h | h | h) <;> first | (cases h; done) | (have := HNE.out; omega))) (hc1.block _ HDD.out.win.lt (by rintro (h | h | h) <;> first | (cases h; done) | (have := HNE.out; omega))) (fun k hk => by cases hk)
  have hrd2 := read_calls (parts := []) (rooms := []) (AP := none) (AR := none) (cP := 0) (cR := 0) S2 hk2 (fun _ _ => Lst.nil _ _ _) (fun _ _ => Lst.nil _ _ _) (by decide) (by decide) (by have := HS2.out; omega)
  have hb8 : Below w.heap.size w w8 := Chg.below HB7.out hc1 (by
    have := HNE.out
    rintro i (h | h | h)
    · omega
    · omega
    · cases h)
  have HRD2 := Lib.hid hrd2
  have HD1 := Lib.hid hd1
  have HO1 := Lib.hid ho1
  have HR1 := Lib.hid hran1
  have HB8 := Lib.hid hb8
  have HL1 := Lib.hid hlen1
  clear hrd2 hk2 hd1 hc1 ho1 hran1 hb8 hlen1
  go_wp2_with fail
  refine HRD2.out.mono ?_
  rintro e w9 ⟨A2, c2, o2, b2, n2, rfl, hd2, hc2, ho2, hlen2, hran2⟩
  rw [HY2.out] at hran2
  have hk1 := HD1.out.keep hc2.size (hc2.block _ HD1.out.lt (by rintro (h | h | h) <;> first | (cases h; done) | (have := HNE.out; omega))) (hc2.block _ HD1.out.win.lt (by rintro (h | h | h) <;> first | (cases h; done) | (have := HNE.out; omega))) (fun k hk => by cases hk)
  have ho1' := own_chg HO1.out hc2 (fs_ge HO1.out HDD.out.lt HDD.out.win.lt)
  have hb9 : Below w.heap.size w w9 := Chg.below HB8.out hc2 (by
    have := HNE.out
    rintro i (h | h | h)
    · omega
    · omega
    · cases h)
  have HK1 := Lib.hid hk1
  have HK2 := Lib.hid hd2
  have HB9 := Lib.hid hb9
  have HLS1 := Lib.hid (Lst.of_owns ho1')
  have HLS2 := Lib.hid (Lst.of_owns ho2)
  have HR2 := Lib.hid hran2
  clear hran2 hk1 ho1' hb9 hd2 hc2 ho2 hlen2
  cases ok with
  | true =>
    obtain ⟨hr1, hr2⟩ := HRG.out rfl
    obtain ⟨_, hs1⟩ := win1_good (n := n % 8) (x := x) (b := B) (by omega) (by omega) hB1 HOK.out.symm
    obtain ⟨_, hs2⟩ := win2_good (n := n % 8) (x := x) (b := B) (by omega) (by omega) hB1 HOK.out.symm
    obtain rfl := ran_all hs1 HR1.out
    obtain rfl := ran_all hs2 HR2.out
    rw [← HO.out] at HLS1 HLS2 ⊢
    clear hs1 hs2
    go_wp2_with fail
    have hz5 : Below w9.heap.size w9 (w9.alloc (.cells #[.int .u32 (o + B - 128), .int .u32 (o + B - 128)] 25)) := (Below.refl _ _).alloc (Nat.le_refl _) _
    have hs1 := same_calls (c := c1) (d := 2) (HLS1.out.below hz5) (lst_block [o + B - 128, o + B - 128] (heap_alloc_new w9 _)) (by simp) (by simp)
    rw [decide_eq_true rfl] at hs1
    have HS1' := Lib.hid hs1
    have HZ5 := Lib.hid hz5
    clear hs1 hz5
    refine HS1'.out.mono ?_
    rintro e w11 ⟨rfl, hdr⟩
    have HB11 := Lib.hid (HZ5.out.trans (hdr.below _))
    clear hdr
    go_wp2_with fail
    have hz7 : Below w11.heap.size w11 (w11.alloc (.cells #[.int .u32 (o + B - 128), .int .u32 (o + B - 128)] 25)) := (Below.refl _ _).alloc (Nat.le_refl _) _
    have hs2 := same_calls (c := c2) (d := 2) ((HLS2.out.below HB11.out).below hz7) (lst_block [o + B - 128, o + B - 128] (heap_alloc_new w11 _)) (by simp) (by simp)
    rw [decide_eq_true rfl] at hs2
    have HS2' := Lib.hid hs2
    have HZ7 := Lib.hid hz7
    clear hs2 hz7
    refine HS2'.out.mono ?_
    rintro e w12 ⟨rfl, hdr⟩
    have HB12 := Lib.hid (HZ7.out.trans (hdr.below _))
    clear hdr
    go_wp2_with fail
    go_ret
    exact ⟨rfl, tb (tb HB9.out HB11.out) HB12.out⟩
  | false =>
    obtain ⟨_, hs1, ht1⟩ := win1_bad (n := n % 8) (x := x) (b := B) (by omega) (by omega) HOK.out.symm
    obtain ⟨_, hs2, ht2⟩ := win2_bad (n := n % 8) (x := x) (b := B) (by omega) (by omega) HOK.out.symm
    obtain ⟨rfl, rfl⟩ := ran_stop (k := 1) (by show 1 < 6; omega) hs1 ht1 HR1.out
    obtain ⟨rfl, rfl⟩ := ran_stop (k := 2) (by show 2 < 7; omega) hs2 ht2 HR2.out
    clear hs1 hs2 ht1 ht2
    go_wp2_with fail
    refine (fail_calls _ _ _ HK1.out.base).mono ?_
    rintro e w10 ⟨rfl, rfl⟩
    obtain ⟨w10, hw10⟩ : ∃ w10, w10 = w9.alloc (.cells #[.int .i64 3, .int .i64 1] 40) := ⟨_, rfl⟩
    have HB10 := Lib.hid (show Below w9.heap.size w9 w10 by rw [hw10]; exact (Below.refl _ _).alloc (Nat.le_refl _) _)
    go_wp2_with fail
    rw [← hw10]
    clear hw10
    refine (failed_calls 3 1 _).mono ?_
    rintro e w11 ⟨rfl, hb11⟩
    have HB11 := Lib.hid (tb HB10.out hb11)
    clear hb11
    go_wp2_with fail
    refine (fail_calls _ _ _ (HK2.out.below HB11.out).base).mono ?_
    rintro e w12 ⟨rfl, rfl⟩
    obtain ⟨w12, hw12⟩ : ∃ w12, w12 = w11.alloc (.cells #[.int .i64 3, .int .i64 2] 40) := ⟨_, rfl⟩
    have HB12 := Lib.hid (show Below w11.heap.size w11 w12 by rw [hw12]; exact (Below.refl _ _).alloc (Nat.le_refl _) _)
    go_wp2_with fail
    rw [← hw12]
    clear hw12
    refine (failed_calls 3 2 _).mono ?_
    rintro e w13 ⟨rfl, hb13⟩
    have HB13 := Lib.hid (tb HB12.out hb13)
    clear hb13
    go_wp2_with fail
    go_ret
    exact ⟨rfl, tb (tb HB9.out HB11.out) HB13.out⟩
theorem u8_bd {x : Int} (h : (Lit.int .u8 x).wf = true) : 0 ≤ x ∧ x ≤ 255 := by
  simp [Lit.wf, IntKind.min, IntKind.max, IntKind.signed, IntKind.bits] at h
  omega
theorem expandWindows_row (n x b : Int) (w : World) (hn : (Lit.int .u8 n).wf = true) (hx : (Lit.int .u8 x).wf = true) (hb : (Lit.int .u8 b).wf = true) : Calls Try.prog 5 #[.int .u8 n, .int .u8 x, .int .u8 b] w fun e w' => e = .returned (.bool true) ∧ Below w.heap.size w w' := by
  exact windows_calls n x b w (u8_bd hn).1 (u8_bd hn).2 (u8_bd hx).1 (u8_bd hx).2 (u8_bd hb).1 (u8_bd hb).2
end Go.Proofs.Ytnkinbfglenddaa.Dec
