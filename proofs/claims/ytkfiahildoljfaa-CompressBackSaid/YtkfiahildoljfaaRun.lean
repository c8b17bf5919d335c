/- The reference's text: run, read. -/
import Derived.Test.YtkfiahildoljfaaRst7
import Derived.Test.YtkfiahildoljfaaSim
import Derived.Deep.LoopGhost
namespace Go.Proofs.Ytkfiahildoljfaa.Rst
open Go.RowKit Go.Proofs.Ytkfiahildoljfaa.Win Go.Proofs.Ytkfiahildoljfaa.Stp Go.Proofs.Ytkfiahildoljfaa.Mach Go.Proofs.Ytkfiahildoljfaa.Sim
set_option linter.unusedVariables false
set_option linter.unusedSimpArgs false
theorem rpart_calls {w : World} {g go rb : Nat} {v : Value} {t : R} (s : ByteArray) (k : Nat) (h : RAt w g go rb v t) (hs : s.size ≤ 100000) (hk : k < s.size) (hl : t.out.length < 1000000) :
    Calls Try.prog 36 #[.pointer (some ⟨g, 0, none⟩), .string s, .int .i64 k] w (RPost w g go rb v (rpart t (byt s) k)) := by
  unfold rpart
  cases hu : t.uni with
  | true => rw [if_pos rfl]; exact rpartU_calls s k h hs hk hl hu
  | false => rw [if_neg (by simp)]; exact rpartS_calls s k h hs hk hl hu
theorem way_len {l : List Int} {t : R} {k : Nat} (h : Sim.Way l t k) : t.out.length ≤ l.length := by
  have key : ∀ {m : M} {e : List Int} {n : Nat}, Dec.steps Dec.m0 (l.take n) = some (m, e) → e.length ≤ l.length := fun h => by
    have := Dec.steps_length h
    rw [List.length_take] at this
    omega
  rcases h with ⟨_, _, m, h, _⟩ | ⟨_, _, _, m, h, _⟩ | ⟨_, _, _, m, h, _⟩
  · exact key h
  · exact key h
  · exact Dec.steps_length h
def t0 : R := { out := [], o := firsts, act := 0, uni := false, high := 0, err := 0, pl := 0 }
def RunRel (w : World) (g go rb : Nat) (s : ByteArray) (gh : Nat) (i : Value) (wr : World) : Prop :=
  ∃ (k : Nat) (v : Value) (t : R), k ≤ s.size ∧ i = .int .i64 k ∧ RAt wr g go rb v t ∧ Sim.Way (byt s) t k ∧ Below w.heap.size w wr ∧ gh = (s.size - k) + (if t.err = 0 then 1 else 0)
def RunMid (w : World) (g go rb : Nat) (s : ByteArray) (wr : World) : Prop :=
  ∃ (k : Nat) (v : Value) (t : R), RAt wr g go rb v t ∧ Sim.Way (byt s) t k ∧ Below w.heap.size w wr ∧ (t.err = 0 → k = s.size)
def RunPost (w : World) (s : ByteArray) (e : Ending) (w' : World) : Prop :=
  ∃ (g go rb : Nat) (v : Value) (t : R), e = .returned (.pointer (some ⟨g, 0, none⟩)) ∧ RAt w' g go rb v t ∧ Sim.Same (byt s) t ∧ Below w.heap.size w w' ∧ w.heap.size ≤ g ∧ w.heap.size ≤ rb
theorem rs_below {w w1 w2 : World} {g go rb : Nat} {v : Value} {t : R} (hb : Below w.heap.size w w1) (h : RAt w1 g go rb v t) (hg : w.heap.size ≤ g) (hgo : w.heap.size ≤ go) (hrb : w.heap.size ≤ rb) (hc : Chg (RS g go v) w1 w2) : Below w.heap.size w w2 :=
  Chg.below hb hc (fun i hi => by
    rcases hi with rfl | rfl | hi
    · exact hg
    · exact hgo
    · have := (h.row.lt i hi).1; omega)
set_option maxHeartbeats 8000000 in
theorem run_calls (s : ByteArray) (w : World) (hs : s.size ≤ 100000) : Calls Try.prog 23 #[.string s] w (RunPost w s) := by
  go_enter Try.func23, Try.ntmps23
  go_wp2_with fail
  refine (rfirsts_calls w).mono ?_
  rintro e w1 ⟨rfl, hrow, hb, hz⟩
  have HRow := Lib.hid hrow
  have HB := Lib.hid hb
  have HZ := Lib.hid hz
  clear hrow hb hz
  go_upto_block 0 with fail
  obtain ⟨w2, hw2⟩ : ∃ w2, w2 = w1.alloc (.cells (rCells t0 (.slice none 0 0) w.heap.size) 58) := ⟨_, rfl⟩
  obtain ⟨g, hg⟩ : ∃ g, g = w1.heap.size := ⟨_, rfl⟩
  have hR : RAt w2 g w.heap.size w2.heap.size (.slice none 0 0) t0 := by
    rw [hw2, hg]
    refine ⟨heap_alloc_new _ _, HRow.out.keep (Below.heap_alloc _ _ _ HZ.out), World.ownsRow_nil _ _ _ _, rfl, Dec.good0.ro, by decide, .inl rfl, by decide, ?_, Nat.le_refl _⟩
    have := HZ.out
    simp
    omega
  have hB2 : Below w.heap.size w w2 := by rw [hw2]; exact HB.out.alloc HB.out.size _
  have hgw : w.heap.size ≤ g := by rw [hg]; exact HB.out.size
  have HR := Lib.hid hR
  have HB2 := Lib.hid hB2
  have HGW := Lib.hid hgw
  have hw2' : w1.alloc (.cells #[.slice none 0 0, .slice (some ⟨w.heap.size, 0, none⟩) 8 8, .int .i64 0, .bool false, .int .u32 0, .int .i64 0, .int .i64 0] 58) = w2 := hw2.symm
  rw [hw2', ← hg]
  clear hR hB2 hgw hw2 hw2' hg
  go_cut [] (fun wx => RunMid w g w.heap.size w2.heap.size s wx)
  case first =>
    go_wp2_with fail
    go_loopg [4] (s.size + 1) (fun gh i wr => RunRel w g w.heap.size w2.heap.size s gh i wr)
    case atStart => exact ⟨0, _, _, Nat.zero_le _, rfl, HR.out, Sim.way_start _ _ rfl, HB2.out, rfl⟩
    case round =>
      obtain ⟨k, v, t, hk, rfl, hR, hW, hB, hgh⟩ := hrel
      have q5 := hR.f5
      have hlen := way_len hW
      rw [byt_length] at hlen
      have HRr := Lib.hid hR
      have HWy := Lib.hid hW
      have HBr := Lib.hid hB
      have HGh := Lib.hid hgh
      clear hR hW hB hgh
      by_cases hlt : k < s.size
      · by_cases he : t.err = 0
        · have hbe : (t.err == 0) = true := by simp [he]
          have hp := rpart_calls s k HRr.out (by omega) hlt (by omega)
          have hn := Sim.way_next HWy.out he HRr.out.hi (Dec.byt_rng s) (by rw [byt_length]; exact hlt)
          have HP := Lib.hid hp
          have HNx := Lib.hid hn
          have HE := Lib.hid he
          clear hp hn he
          go_wp2_with fail
          refine HP.out.mono ?_
          rintro e w3 ⟨rfl, v', hR', hC'⟩
          have hb3 := rs_below HBr.out HRr.out HGW.out (Nat.le_refl _) HB2.out.size hC'
          obtain ⟨n1, n2, n3, n4⟩ := HNx.out
          rw [byt_length] at n3
          generalize rpart t (byt s) k = r at hR' n1 n2 n3 n4
          obtain ⟨t', k'⟩ := r
          simp only at hR' n1 n2 n3 n4
          have HR' := Lib.hid hR'
          have HN1 := Lib.hid n1
          have HN4 := Lib.hid n4
          have HB3 := Lib.hid hb3
          clear hR' n1 n4 hb3 hC'
          go_wp2_with fail
          go_roundg ((s.size - k') + (if t'.err = 0 then 1 else 0))
          case rel => exact ⟨k', v', t', n3, rfl, HR'.out, HN1.out, HB3.out, rfl⟩
          case measure =>
            have h1 := HGh.out
            have h2 := HN4.out
            rw [if_pos HE.out] at h1
            split
            · have := h2 ‹_›; omega
            · omega
        · have hbe : (t.err == 0) = false := by simp [he]
          go_wp2_with fail
          go_meet
          exact ⟨k, v, t, HRr.out, HWy.out, HBr.out, fun h => absurd h he⟩
      · obtain rfl : k = s.size := by omega
        go_wp2_with fail
        go_meet
        exact ⟨s.size, v, t, HRr.out, HWy.out, HBr.out, fun _ => rfl⟩
  case rest =>
    obtain ⟨k, v, t, hR, hW, hB, hend⟩ := hcut
    have q5 := hR.f5
    have q4 := hR.f4
    have HRr := Lib.hid hR
    have HBr := Lib.hid hB
    by_cases he : t.err = 0
    · obtain rfl := hend he
      have hws := Sim.way_end (by rw [byt_length]; exact hW) he
      rw [byt_length] at hws
      have hbe : (t.err == 0) = true := by simp [he]
      have hhi := hR.hi
      by_cases hh : t.high = 0
      · have hhb : decide (0 < t.high) = false := by simp [hh]
        have q6 := hR.f6
        have z6 := hR.fz 6
        have HS := Lib.hid (hws.1 hh)
        clear hR hW hB hend he hh hws hhi
        go_wp2_with fail
        go_ret
        refine ⟨g, _, _, v, { t with pl := s.size }, rfl, HRr.out.set 6 (.int .i64 s.size) rfl rfl rfl HRr.out.ac HRr.out.hi, HS.out, ?_, HGW.out, HB2.out.size⟩
        exact rs_below HBr.out HRr.out HGW.out (Nat.le_refl _) HB2.out.size (rs_g 6 _)
      · have hhb : decide (0 < t.high) = true := by simp; omega
        have HS := Lib.hid (hws.2 hh)
        have hcut := rcut_calls s HRr.out hs
        have HCUT := Lib.hid hcut
        clear hR hW hB hend he hh hws hhi hcut
        go_wp2_with fail
        refine HCUT.out.mono ?_
        rintro e w3 ⟨rfl, v', hR', hC'⟩
        have hb3 := rs_below HBr.out HRr.out HGW.out (Nat.le_refl _) HB2.out.size hC'
        have q5' := hR'.f5
        have HR' := Lib.hid hR'
        have HB3 := Lib.hid hb3
        have hbe2 : ((rcut t s.size).1.err == 0) = false := rfl
        clear hR' hb3 hC'
        go_wp2_with fail
        go_ret
        exact ⟨g, _, _, v', (rcut t s.size).1, rfl, HR'.out, HS.out, HB3.out, HGW.out, HB2.out.size⟩
    · have hbe : (t.err == 0) = false := by simp [he]
      have HS := Lib.hid (Sim.way_wrong hW he)
      clear hR hW hB hend he
      go_wp2_with fail
      go_ret
      exact ⟨g, _, _, v, t, rfl, HRr.out, HS.out, HBr.out, HGW.out, HB2.out.size⟩
end Go.Proofs.Ytkfiahildoljfaa.Rst
