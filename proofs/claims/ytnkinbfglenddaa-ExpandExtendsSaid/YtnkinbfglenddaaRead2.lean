/- The law's reading of a text by a decoder: the walk. -/
import Derived.Test.YtnkinbfglenddaaRead
namespace Go.Proofs.Ytnkinbfglenddaa.Dec
open Go.RowKit Go.Proofs.Ytnkinbfglenddaa.Win Go.Proofs.Ytnkinbfglenddaa.Stp Go.Proofs.Ytnkinbfglenddaa.Mach Go.Proofs.Ytnkinbfglenddaa.Lst Go.Proofs.YtnkinbfglenddaaW.PrintMore
set_option linter.unusedVariables false
set_option linter.unusedSimpArgs false
attribute [local go_sem] max2_int min2_int max_two min_two
set_option maxRecDepth 100000 in
set_option maxHeartbeats 8000000 in
theorem read_calls {w : World} {g gw : Nat} {AP AR : Option Addr} {cP cR : Nat} {parts rooms : List Int} (s : ByteArray) (h : DecAt w g gw 0 nilS b40 [] m0)
    (hP : ∀ wr, Chg (FS g gw nilS) w wr → Lst wr .i64 AP parts) (hR : ∀ wr, Chg (FS g gw nilS) w wr → Lst wr .i64 AR rooms) (lP : parts.length ≤ 1000) (lR : rooms.length ≤ 1000) (hs : s.size ≤ 10000) :
    Calls Try.prog 11 #[.pointer (some ⟨g, 0, none⟩), .string s, .slice AP parts.length cP, .slice AR rooms.length cR] w (ReadPost w g gw s) := by
  obtain ⟨i0, hi, hz0, hz1, hz2⟩ := info_parts info_u32
  have HN : Hid (i0.zero = some (.int .u32 0) ∧ i0.size = 1 ∧ i0.bytes = 4 ∧ Try.prog.info? 25 = some i0) := ⟨hz0, hz1, hz2, hi⟩
  have H := Lib.hid h
  have HP := Lib.hid hP
  have HR := Lib.hid hR
  clear h hP hR hz0 hz1 hz2 hi
  obtain ⟨P, hPP⟩ : ∃ P, P = parts.length := ⟨_, rfl⟩
  obtain ⟨R, hRR⟩ : ∃ R, R = rooms.length := ⟨_, rfl⟩
  rw [← hPP] at lP
  rw [← hRR] at lR
  rw [← hPP, ← hRR]
  have HPP := Lib.hid hPP
  have HRR := Lib.hid hRR
  clear hPP hRR
  go_enter Try.func11, Try.ntmps11
  go_upto_block 0 with fail
  go_cut [10] (fun vo wx => ReadMid w g gw s vo wx)
  case first =>
    go_wp2_with fail
    go_loopw [1, 10, 12] (fun vs vo i wr => ReadRel w g gw s P R vs vo i wr) (fun _ _ i _ => P + R + s.size + 8 - (intOf i).toNat)
    case atStart =>
      refine ⟨0, 0, s, [], m0, rfl, rfl, Nat.zero_le _, rfl, rfl, Nat.le_refl _, good0, H.out, Chg.refl _, World.ownsRow_nil _ _ _ _, Nat.zero_le _⟩
    case round =>
      obtain ⟨k, t, r, out, m, rfl, rfl, ht, hr, hst, hol, hg, hd, hc, ho, hk⟩ := hrel
      have hrs : r.size = s.size - t := by rw [← byt_length, hr, List.length_drop, byt_length]
      have hr4 : r.size ≤ 10000 := by omega
      have HRZ := Lib.hid hrs
      have HRS := Lib.hid hr
      have HST := Lib.hid hst
      have HG := Lib.hid hg
      have HD := Lib.hid hd
      have HC := Lib.hid hc
      have HO := Lib.hid ho
      obtain ⟨S, hS⟩ : ∃ S, S = s.size := ⟨_, rfl⟩
      clear hr hst hg hd hc ho hrs hS S
      by_cases hlt : k < P + R + s.size + 8
      · have hcap1 : ((k < P ∧ ∃ a x, AP = some a ∧ wr.cell? (a.add k) = some (.int .i64 x) ∧ capN parts k r.size r.size = clip x r.size) ∨ (¬ k < P ∧ capN parts k r.size r.size = r.size)) := by
          by_cases hkp : k < P
          · left
            have hkp' : k < parts.length := by rw [← HPP.out]; exact hkp
            obtain ⟨a, e1, e2⟩ := HP.out wr HC.out k hkp'
            exact ⟨hkp, a, _, e1, e2, by unfold capN; rw [if_pos hkp']⟩
          · right
            refine ⟨hkp, ?_⟩
            unfold capN
            rw [if_neg (by rw [← HPP.out]; exact hkp)]
        have hcap2 : ((k < R ∧ ∃ a x, AR = some a ∧ wr.cell? (a.add k) = some (.int .i64 x) ∧ capN rooms k 8 100 = clip x 100) ∨ (¬ k < R ∧ capN rooms k 8 100 = 8)) := by
          by_cases hkp : k < R
          · left
            have hkp' : k < rooms.length := by rw [← HRR.out]; exact hkp
            obtain ⟨a, e1, e2⟩ := HR.out wr HC.out k hkp'
            exact ⟨hkp, a, _, e1, e2, by unfold capN; rw [if_pos hkp']⟩
          · right
            refine ⟨hkp, ?_⟩
            unfold capN
            rw [if_neg (by rw [← HRR.out]; exact hkp)]
        have hn := capN_rng parts k r.size r.size (by omega) ⟨by omega, by omega⟩
        have hro := capN_rng rooms k 8 100 (by omega) ⟨by omega, by omega⟩
        obtain ⟨n, hnn⟩ : ∃ n : Nat, (n : Int) = capN parts k r.size r.size := ⟨(capN parts k r.size r.size).toNat, by omega⟩
        obtain ⟨room, hroom⟩ : ∃ room : Int, room = capN rooms k 8 100 := ⟨_, rfl⟩
        rw [← hnn] at hcap1 hn
        rw [← hroom] at hcap2 hro
        clear hnn hroom
        have HK1 := Lib.hid hcap1
        have HK2 := Lib.hid hcap2
        clear hcap1 hcap2
        obtain ⟨n0, n1⟩ := hn
        obtain ⟨r0, r1⟩ := hro
        go_upto_if 39 with fail
        go_cut [13] from 29 to 115 (fun vn wx => vn = .int .i64 n ∧ wr = wx)
        case first =>
          rcases HK1.out with ⟨hkp, a, x, rfl, hcell, he⟩ | ⟨hkp, he⟩
          · have HE := Lib.hid he
            clear he
            go_wp2_with fail
            all_goals
              go_meet
              refine ⟨?_, rfl⟩
              have e1 := HE.out
              unfold clip at e1
              rw [e1]
              congr 1
              repeat' (first | omega | split)
          · have HE := Lib.hid he
            clear he
            go_wp2_with fail
            go_meet
            exact ⟨by rw [HE.out], rfl⟩
        case rest =>
          obtain ⟨rfl, rfl⟩ := hcut
          go_upto_if 50 with fail
          go_cut [14] from 29 to 115 (fun vn wx => vn = .int .i64 room ∧ wr = wx)
          case first =>
            rcases HK2.out with ⟨hkp, a, x, rfl, hcell, he⟩ | ⟨hkp, he⟩
            · have HE := Lib.hid he
              clear he
              go_wp2_with fail
              all_goals
                go_meet
                refine ⟨?_, rfl⟩
                have e1 := HE.out
                unfold clip at e1
                rw [e1]
                congr 1
                repeat' (first | omega | split)
            · have HE := Lib.hid he
              clear he
              go_wp2_with fail
              go_meet
              exact ⟨by rw [HE.out], rfl⟩
          case rest =>
            obtain ⟨rfl, rfl⟩ := hcut
            have hsz : (r.extract 0 n).size = n := by rw [ByteArray.size_extract]; omega
            have hfeed := feed_calls (r.extract 0 n) room HD.out HG.out (by rw [hsz]; omega) (by show (0 : Int) ≤ (t : Int); omega) (by show (t : Int) ≤ 1000000; omega)
            have HF := Lib.hid hfeed
            have HSZ := Lib.hid hsz
            clear hfeed hsz
            go_wp2_with fail
            refine HF.out.mono ?_
            rintro e w1 ⟨q, A1, c1, o, b1, m1, rfl, hd1, hc1, ho1, hf⟩
            have hqn : q ≤ n := by have := hf.le; rw [byt_length, HSZ.out] at this; exact this
            have hoq : (o.length : Int) ≤ room := by
              rcases hf.fits with h | h
              · exact h
              · rw [h]; simpa using r0
            have hoc : o.length ≤ q := by
              rcases hf.way with ⟨m2, h, _⟩ | ⟨h, _⟩
              · have := steps_length h; rw [List.length_take] at this; omega
              · have := steps_length h; rw [List.length_take] at this; omega
            have hlt1 : g < w.heap.size := H.out.lt
            have hlt2 : gw < w.heap.size := H.out.win.lt
            have ho' := own_chg HO.out hc1 (fs_ge HO.out hlt1 hlt2)
            have HO' := Lib.hid ho'
            have HO1 := Lib.hid ho1
            have HD1 := Lib.hid hd1
            have HC1 := Lib.hid hc1
            have HFd := Lib.hid hf
            have hws : w.heap.size ≤ w1.heap.size := Nat.le_trans HC.out.size hc1.size
            have HWS := Lib.hid hws
            have HL1 := Lib.hid hlt1
            have HL2 := Lib.hid hlt2
            clear hd1 hc1 ho1 hf ho' hws hlt1 hlt2
            go_wp2_with (at_builtin; refine wpList_append_row rfl (.tmp 79) (.tmp 80) 24 rfl w.heap.size 25 i0 (.int .u32 0) 1 4 Try.underlying24 HN.out.2.2.2 HN.out.1 HN.out.2.1 HN.out.2.2.1 rfl (by decide) u10 out.length (u32s out) rfl HO'.out wr.heap.size (.slice A1 o.length c1) o.length (u32s o) rfl HO1.out ?c1 ?c2 ?c3 ?c4 ?c5 ?_; (case c1 => rw [u32s_length]; omega); (case c2 => intro u hu; unfold u32s at hu; rw [List.mem_map] at hu; obtain ⟨y, _, rfl⟩ := hu; rfl); (case c3 => unfold maxLen; omega); (case c4 => omega); (case c5 => exact HWS.out); intro v1 w2 hown2 hgrow2; have HO2 := Lib.hid hown2; have HG2 := Lib.hid hgrow2; clear hown2 hgrow2)
            have hd2 : DecAt w2 g gw 0 nilS b1 [] m1 := HD1.out.keep HG2.out.size (HG2.out.block g (Nat.lt_of_lt_of_le HL1.out HWS.out) (fun e => fs_ge HO.out HL1.out HL2.out g e.symm (.inl rfl))) (HG2.out.block gw (Nat.lt_of_lt_of_le HL2.out HWS.out) (fun e => fs_ge HO.out HL1.out HL2.out gw e.symm (.inr (.inl rfl)))) (fun k hk => by cases hk)
            have hfl := fail_calls g b1 w2 hd2.base
            have HD2 := Lib.hid hd2
            have HFL := Lib.hid hfl
            clear hd2 hfl
            have hcs := fed_on HRS.out ht (by omega) HST.out HFd.out
            have hfd : ∀ w : World, (Instr.field 40 (.agg #[.int .i64 b1.err, .int .i64 b1.pl]) 0).run Try.prog w = .ok (.int .i64 b1.err) w := fun _ => by kernel_rfl
            have HCS := Lib.hid hcs
            clear hcs
            refine HFL.out.mono ?_
            rintro e w3 ⟨rfl, rfl⟩
            have hMid : ∀ m2 : M, steps m0 ((byt s).take (t + q)) = some (m2, out ++ o) → ((t + q = s.size ∧ b1 = { b40 with at_ := ((t + q : Nat) : Int) } ∧ m1 = m2) ∨ (t + q < s.size ∧ Mach.step m2 ((byt s).getD (t + q) 0) = none ∧ b1 = { at_ := ((t + q : Nat) : Int), err := 3, pl := ((t + q : Nat) : Int), fin := false })) →
                ReadMid w g gw s v1 (w2.alloc (.cells #[.int .i64 b1.err, .int .i64 b1.pl] 40)) := fun m2 h1 h2 => by
              have hz := HRZ.out
              refine ⟨t + q, out ++ o, m2, b1, m1, h1, by rw [List.length_append]; omega, by omega, HD2.out.alloc _, ?_, ?_, h2⟩
              · exact (chg_then (HC.out.trans HC1.out) (chg_grown HG2.out) (fun i hi hh => absurd (HO.out.lt i hh).1 (by omega))).trans (Chg.alloc _ _)
              · have := HO2.out
                rw [List.length_append, u32s_append]
                exact own_chg this (Chg.alloc (S := FS g gw nilS) _ _) (fs_ge this HL1.out HL2.out)
            have hRel : ∀ r' : ByteArray, byt r' = (byt s).drop (t + q) → steps m0 ((byt s).take (t + q)) = some (m1, out ++ o) → Mach.Good m1 → b1 = { b40 with at_ := ((t + q : Nat) : Int) } → k + 1 ≤ P + R + (t + q) →
                ReadRel w g gw s P R (.string r') v1 (.int .i64 ((k : Int) + 1)) (w2.alloc (.cells #[.int .i64 b1.err, .int .i64 b1.pl] 40)) := fun r' h0 h1 h2 h3 h4 => by
              have hz := HRZ.out
              refine ⟨k + 1, t + q, r', out ++ o, m1, by go_num, rfl, by omega, h0, h1, by rw [List.length_append]; omega, h2, ?_, ?_, ?_, h4⟩
              · have := HD2.out.alloc (.cells #[.int .i64 b1.err, .int .i64 b1.pl] 40)
                rw [← h3]
                exact this
              · exact (chg_then (HC.out.trans HC1.out) (chg_grown HG2.out) (fun i hi hh => absurd (HO.out.lt i hh).1 (by omega))).trans (Chg.alloc _ _)
              · have := HO2.out
                rw [List.length_append, u32s_append]
                exact own_chg this (Chg.alloc (S := FS g gw nilS) _ _) (fs_ge this HL1.out HL2.out)
            have hdrop : byt (r.extract q r.size) = (byt s).drop (t + q) := by
              rw [byt_extract, HRS.out, List.drop_drop]
              rw [List.take_of_length_le]
              rw [List.length_drop, byt_length, HRZ.out]; omega
            have HDr := Lib.hid hdrop
            have HMid := Lib.hid hMid
            have HRel := Lib.hid hRel
            clear hMid hRel hdrop
            rcases HCS.out with ⟨hbe, m2, p1, p2, p3, p4⟩ | ⟨hbe, p1, p2, p3, p4⟩
            · have HP1 := Lib.hid p1
              have HP3 := Lib.hid p3
              have HP4 := Lib.hid p4
              clear p1 p3 p4
              go_wp2_with fail
              go_meet
              exact HMid.out m2 HP1.out (.inr ⟨p2, HP3.out, HP4.out⟩)
            · have HP1 := Lib.hid p1
              have HP2 := Lib.hid p2
              have HP3 := Lib.hid p3
              have HP4 := Lib.hid p4
              clear p1 p2 p3 p4
              by_cases hz : r.size = q
              · have hz1 := (extract_empty r q (by omega)).2 hz
                have hd0 := HDr.out
                rw [hz1] at hd0
                have HD0 := Lib.hid hd0
                have HZ := Lib.hid hz
                clear hz hd0
                by_cases hkp : k < P
                · go_wp2_with fail
                  go_roundw
                  case rel => exact HRel.out _ HD0.out HP1.out HP2.out HP3.out (by omega)
                  case measure => simp [intOf]; omega
                · go_wp2_with fail
                  go_meet
                  refine HMid.out m1 HP1.out (.inl ⟨?_, HP3.out, rfl⟩)
                  have := HRZ.out
                  have := HZ.out
                  omega
              · have hz1 : ¬ (r.extract q r.size).toList = [] := fun h => hz (extract_toList r q (by omega) h)
                by_cases hkp : k < P
                · go_wp2_with fail
                  go_roundw
                  case rel => exact HRel.out _ HDr.out HP1.out HP2.out HP3.out (by omega)
                  case measure => simp [intOf]; omega
                · by_cases hkr : k < R
                  · go_wp2_with fail
                    go_roundw
                    case rel => exact HRel.out _ HDr.out HP1.out HP2.out HP3.out (by omega)
                    case measure => simp [intOf]; omega
                  · have hq0 : 0 < q := by
                      rcases HK1.out with ⟨h, _⟩ | ⟨_, h1⟩
                      · exact absurd h hkp
                      · rcases HK2.out with ⟨h, _⟩ | ⟨_, h2⟩
                        · exact absurd h hkr
                        · have h3 := HP4.out
                          have h4 := HRZ.out
                          omega
                    go_wp2_with fail
                    go_roundw
                    case rel => exact HRel.out _ HDr.out HP1.out HP2.out HP3.out (by omega)
                    case measure => simp [intOf]; omega
      · exact absurd hk (by omega)
  case rest =>
    obtain ⟨t, out, m, b, m', h1, h2, h3, hd, hc, ho, hw⟩ := hcut
    obtain ⟨A, c, rfl⟩ := owns_form ho
    have hran := ran_of h1 hw
    have hend := end_calls hd
    have HRAN := Lib.hid hran
    have HEND := Lib.hid hend
    have HC := Lib.hid hc
    have HO := Lib.hid ho
    have HLN := Lib.hid (show out.length ≤ s.size by omega)
    clear hran hend hc ho hd h1 h2 hw
    go_wp2_with fail
    refine HEND.out.mono ?_
    rintro e w1 ⟨rfl, hd1, hc1⟩
    have hdone := done_calls hd1
    rw [endB_done] at hdone
    have HDN := Lib.hid hdone
    have HD1 := Lib.hid hd1
    have HC1 := Lib.hid hc1
    clear hdone hd1 hc1
    go_wp2_with fail
    go_loopw [10, 17] (fun vo i wr => vo = .slice A out.length c ∧ i = .int .i64 0 ∧ w1 = wr) (fun _ _ _ => 0)
    case atStart => exact ⟨rfl, rfl, rfl⟩
    case round =>
      obtain ⟨rfl, rfl, rfl⟩ := hrel
      go_wp2_with fail
      refine HDN.out.mono ?_
      rintro e w2 ⟨rfl, rfl⟩
      go_wp2_with fail
      go_ret2
      exact ⟨A, c, out, _, _, rfl, HD1.out, HC.out.trans HC1.out, own_chg HO.out HC1.out (fs_ge HO.out H.out.lt H.out.win.lt), HLN.out, HRAN.out⟩
end Go.Proofs.Ytnkinbfglenddaa.Dec
