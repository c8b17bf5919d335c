/- SignMarks over bytes: with a codec's signature ahead any text is sniffed as that codec's, but one of Utf16LE that goes on with 00 00. -/
import Derived.Test.YtakjkgjbjannbaaPSignMarksx1
namespace Go.Proofs.Ytakjkgjbjannbaa.Pure
open Go.RowKit Go.Proofs.Ytakjkgjbjannbaa.PSignMarks Go.Proofs.YtakjkgjbjannbaaW.PrintWords Go.Proofs.YtakjkgjbjannbaaW.PrintLast Go.Proofs.YtakjkgjbjannbaaW.PrintMore
set_option linter.unusedVariables false
theorem awakeL : pilcrowlaw17_awake.f 40 = some true := by decide +kernel
theorem awakeL_at (k : Nat) (hk : 40 ≤ k) : pilcrowlaw17_awake.f k = some true := at_rounds pilcrowlaw17_awake.mono hk awakeL
theorem w64 {i : Int} (h0 : 0 ≤ i) (h : i ≤ 100000) : wrap64 (i + 1) = i + 1 := by unfold wrap64; omega
def sigB (a0 : Int) : ByteArray := if a0 = 1 then ⟨#[239, 187, 191]⟩ else if a0 = 2 then ⟨#[254, 255]⟩ else if a0 = 3 then ⟨#[255, 254]⟩ else if a0 = 4 then ⟨#[0, 0, 254, 255]⟩ else if a0 = 5 then ⟨#[255, 254, 0, 0]⟩ else if a0 = 6 then ⟨#[221, 115, 102, 115]⟩ else if a0 = 8 then ⟨#[251, 238, 40]⟩ else if a0 = 9 then ⟨#[14, 254, 255]⟩ else ⟨#[]⟩
def sg (c : Int) : List UInt8 := (sigB c).data.toList
theorem of_f (c : Int) : sign_Of.f c = some (sigB c) := by unfold sign_Of.f sigB; (repeat' split) <;> rfl
theorem sig_size (c : Int) : (sigB c).size = (sg c).length := by unfold sg; rw [Array.length_toList]; rfl
def Pre (s : ByteArray) (c : Int) : Prop := sg c <+: s.data.toList
instance (s : ByteArray) (c : Int) : Decidable (Pre s c) := by unfold Pre; infer_instance
theorem prefix_f (s : ByteArray) (c : Int) : strings_HasPrefix.f s (sigB c) = some (decide (Pre s c)) := by
  have hs : s.data.toList.length = s.size := by rw [Array.length_toList]; rfl
  unfold strings_HasPrefix.f stringslite_HasPrefix.f
  rw [sig_size]
  by_cases h : (s.size : Int) ≥ ((sg c).length : Int)
  · rw [if_pos h, if_pos (by omega), if_pos (by omega)]
    simp only [Option.bind_some]
    congr 1
    rw [ByteArray.toList_eq, ByteArray.toList_eq, ByteArray.data_extract, Array.toList_extract]
    rw [Bool.eq_iff_iff, decide_eq_true_iff, beq_iff_eq]
    unfold Pre
    rw [List.prefix_iff_eq_take]
    simp only [Int.toNat_natCast, List.extract_eq_take_drop, List.drop_zero, Nat.sub_zero]
    show List.take (sg c).length s.data.toList = sg c ↔ sg c = List.take (sg c).length s.data.toList
    exact eq_comm
  · rw [if_neg h]
    simp only [Option.bind_some]
    congr 1
    symm
    rw [decide_eq_false_iff_not]
    intro hp
    have := List.IsPrefix.length_le hp
    omega
structure Sniffed (s : ByteArray) (i c n : Int) (ok : Bool) : Prop where
  yes : ok = true → 1 ≤ c ∧ c ≤ 10 ∧ n = (sg c).length ∧ Pre s c ∧ 0 < n
  no : ok = false → c = 0 ∧ n = 0
  all : ∀ j, 1 ≤ j → j < i → Pre s j → ((sg j).length : Int) ≤ n
  nn : 0 ≤ n
theorem sniff_loop (s : ByteArray) : ∀ (d k : Nat) (i c n : Int) (ok : Bool), i + d = 11 → 1 ≤ i → d < k → Sniffed s i c n ok → ∃ c' n' ok', sign_Sniff.l0 k s c n ok i = some (c', n', ok') ∧ Sniffed s 11 c' n' ok'
  | 0, k, i, c, n, ok, hi, h1, hk, h => by
    obtain ⟨k, rfl⟩ : ∃ q, k = q + 1 := ⟨k - 1, by omega⟩
    refine ⟨c, n, ok, ?_, by rw [show (11 : Int) = i by omega]; exact h⟩
    simp only [sign_Sniff.l0]
    rw [if_neg (by omega)]
  | d + 1, k, i, c, n, ok, hi, h1, hk, h => by
    obtain ⟨k, rfl⟩ : ∃ q, k = q + 1 := ⟨k - 1, by omega⟩
    simp only [sign_Sniff.l0]
    rw [if_pos (by omega), of_f]
    simp only [Option.bind_some]
    rw [sig_size, prefix_f, w64 (by omega) (by omega)]
    simp only [Option.bind_some]
    by_cases hn : ((sg i).length : Int) > n
    · rw [if_pos hn]
      by_cases hp : Pre s i
      · rw [if_pos (by simpa using hp)]
        have hnn := h.nn
        refine sniff_loop s d k (i + 1) i (sg i).length true (by omega) (by omega) (by omega) ⟨fun _ => ⟨h1, by omega, rfl, hp, by omega⟩, (fun h => by cases h), fun j hj0 hj hjp => ?_, by omega⟩
        rcases Int.lt_or_le j i with hlt | hge
        · have := h.all j hj0 hlt hjp; omega
        · have : j = i := by omega
          subst this; omega
      · rw [if_neg (by simpa using hp)]
        refine sniff_loop s d k (i + 1) c n ok (by omega) (by omega) (by omega) ⟨h.yes, h.no, fun j hj0 hj hjp => ?_, h.nn⟩
        rcases Int.lt_or_le j i with hlt | hge
        · exact h.all j hj0 hlt hjp
        · have : j = i := by omega
          subst this; exact absurd hjp hp
    · rw [if_neg hn]
      refine sniff_loop s d k (i + 1) c n ok (by omega) (by omega) (by omega) ⟨h.yes, h.no, fun j hj0 hj hjp => ?_, h.nn⟩
      rcases Int.lt_or_le j i with hlt | hge
      · exact h.all j hj0 hlt hjp
      · have : j = i := by omega
        subst this; omega
theorem sniff_f (s : ByteArray) (k : Nat) (hk : 12 ≤ k) : ∃ c n ok, sign_Sniff.f k s = some (c, n, ok) ∧ Sniffed s 11 c n ok := by
  unfold sign_Sniff.f
  exact sniff_loop s 10 k 1 0 0 false (by decide) (by decide) (by omega) ⟨(fun h => by cases h), fun _ => ⟨rfl, rfl⟩, (fun j h0 h1 => by omega), by decide⟩
theorem pre_app {s t : ByteArray} {c : Int} (h : Pre s c) : Pre (s ++ t) c := by
  unfold Pre at h ⊢
  rw [ByteArray.data_append, Array.toList_append]
  exact List.IsPrefix.trans h (List.prefix_append _ _)
theorem code_in {c : Int} (h0 : 1 ≤ c) (h1 : c ≤ 10) : c = 1 ∨ c = 2 ∨ c = 3 ∨ c = 4 ∨ c = 5 ∨ c = 6 ∨ c = 7 ∨ c = 8 ∨ c = 9 ∨ c = 10 := by omega
theorem sg_one {c d : Int} (hc : 1 ≤ c ∧ c ≤ 10) (hd : 1 ≤ d ∧ d ≤ 10) (h : sg c = sg d) (hp : 0 < (sg c).length) : c = d := by
  obtain ⟨c, rfl⟩ := Int.eq_ofNat_of_zero_le (show 0 ≤ c by omega)
  obtain ⟨d, rfl⟩ := Int.eq_ofNat_of_zero_le (show 0 ≤ d by omega)
  have key : ∀ (a b : Fin 11), sg (a.val : Int) = sg (b.val : Int) → 0 < (sg (a.val : Int)).length → a = b := by decide +kernel
  have := congrArg Fin.val (key ⟨c, by omega⟩ ⟨d, by omega⟩ h hp)
  simp only at this
  omega
theorem same_len {s : ByteArray} {c d : Int} (hc : Pre s c) (hd : Pre s d) (hl : (sg c).length = (sg d).length) : sg c = sg d := by
  unfold Pre at hc hd
  rw [List.prefix_iff_eq_take] at hc hd
  rw [hc, hd, hl]

theorem sg_longer (c d : Int) (hc : 1 ≤ c ∧ c ≤ 10) (hd : 1 ≤ d ∧ d ≤ 10) (hp : 0 < (sg c).length) (hl : (sg c).length < (sg d).length) (h : sg c <+: sg d) : c = 3 ∧ d = 5 := by
  obtain ⟨c, rfl⟩ := Int.eq_ofNat_of_zero_le (show 0 ≤ c by omega)
  obtain ⟨d, rfl⟩ := Int.eq_ofNat_of_zero_le (show 0 ≤ d by omega)
  have key : ∀ (a b : Fin 11), 0 < (sg (a.val : Int)).length → (sg (a.val : Int)).length < (sg (b.val : Int)).length → sg (a.val : Int) <+: sg (b.val : Int) → a.val = 3 ∧ b.val = 5 := by decide +kernel
  have := key ⟨c, by omega⟩ ⟨d, by omega⟩ hp hl h
  simp at this
  omega
theorem sig_none (c : Int) (h : sigB c ≠ ⟨#[]⟩) : 1 ≤ c ∧ c ≤ 10 := by
  unfold sigB at h
  (repeat' split at h) <;> first | omega | (exact absurd rfl h)
theorem SignMarks : pilcrowlaw17_SignMarks.Pure := by
  intro c s _ _
  refine ⟨40 + 1, ?_⟩
  unfold pilcrowlaw17_SignMarks.f
  rw [of_f, awakeL_at _ (by omega)]
  simp only [Option.bind_some, if_true, pilcrowlaw17_SignMarks.j0]
  rw [awakeL]
  by_cases he : (sigB c).toList = ([] : List UInt8)
  · rw [if_pos he]; rfl
  rw [if_neg he]
  by_cases hb : (s.size : Int) > 100
  · rw [if_pos (by simpa using hb)]; rfl
  rw [if_neg (by simpa using hb)]
  have he' : (sigB c).toList = sg c := ByteArray.toList_eq _
  have hpos : 0 < (sg c).length := by rw [← he']; exact List.length_pos_iff.2 he
  have hc := sig_none c (fun h => he (by rw [h, ByteArray.toList_eq]))
  have hlen4 : (sg c).length ≤ 4 := by
    have key : ∀ a : Fin 11, (sg (a.val : Int)).length ≤ 4 := by decide +kernel
    obtain ⟨n, rfl⟩ := Int.eq_ofNat_of_zero_le (show 0 ≤ c by omega)
    exact key ⟨n, by omega⟩
  rw [if_pos (by rw [sig_size]; omega)]
  obtain ⟨d, n, ok, hs, hq⟩ := sniff_f (sigB c ++ s) 40 (by decide)
  rw [hs]
  simp only [Option.bind_some]
  have hpc : Pre (sigB c ++ s) c := by
    unfold Pre
    rw [ByteArray.data_append, Array.toList_append]
    exact List.prefix_append _ _
  have hn := hq.all c hc.1 (by omega) hpc
  have hok : ok = true := by
    cases ok with
    | true => rfl
    | false => have := hq.no rfl; omega
  subst hok
  obtain ⟨d0, d1, hnd, hpd, hn0⟩ := hq.yes rfl
  rw [sig_size]
  -- who it is
  have who : (d = c ∧ n = (sg c).length) ∨ (c = 3 ∧ d = 5) := by
    by_cases hl : (sg d).length = (sg c).length
    · exact .inl ⟨(sg_one hc ⟨d0, d1⟩ (same_len hpc hpd hl.symm) hpos).symm, by omega⟩
    · refine .inr (sg_longer c d hc ⟨d0, d1⟩ hpos (by omega) ?_)
      exact List.prefix_of_prefix_length_le hpc hpd (by omega)
  -- the text behind FF FE
  have five : c = 3 → ((2 ≤ s.size ∧ (s.extract 0 2).toList = ([0, 0] : List UInt8)) ↔ Pre (sigB c ++ s) 5) := by
    intro h3
    subst h3
    unfold Pre
    rw [ByteArray.data_append, Array.toList_append, ByteArray.toList_eq, ByteArray.data_extract, Array.toList_extract]
    have hsz : s.data.toList.length = s.size := by rw [Array.length_toList]; rfl
    rw [show sg 5 = [255, 254, 0, 0] from rfl, show (sigB 3).data.toList = [255, 254] from rfl]
    simp only [List.extract_eq_take_drop]
    generalize s.data.toList = l at *
    rw [← hsz]
    match l with
    | [] => simp
    | [a] => simp
    | a :: b :: l => simp; constructor <;> (rintro ⟨rfl, rfl⟩; exact ⟨rfl, rfl⟩)
  by_cases h3 : c = 3
  · have h5 := five h3
    rw [if_pos h3]
    have hl3 : (sg c).length = 2 := by rw [h3]; rfl
    by_cases h2 : (s.size : Int) ≥ 2
    · rw [if_pos h2, if_pos (by decide), if_pos (by omega)]
      by_cases h00 : (s.extract 0 2).toList = ([0, 0] : List UInt8)
      · rw [if_pos h00]
        have hp5 := h5.1 ⟨by omega, h00⟩
        have := hq.all 5 (by decide) (by decide) hp5
        have e4 : ((sg 5).length : Int) = 4 := rfl
        have hd5 : d = 5 := by
          rcases who with ⟨rfl, h⟩ | ⟨_, h⟩
          · omega
          · exact h
        rw [if_pos rfl, if_pos hd5]
        subst hd5
        rw [hnd]; rfl
      · rw [if_neg h00]
        have hd : d = c ∧ n = (sg c).length := by
          rcases who with h | ⟨_, h⟩
          · exact h
          · exfalso; subst h; exact h00 (h5.2 hpd).2
        rw [if_pos rfl, if_pos hd.1, hd.2]; simp
    · rw [if_neg h2]
      have hd : d = c ∧ n = (sg c).length := by
        rcases who with h | ⟨_, h⟩
        · exact h
        · exfalso; subst h; have := (h5.2 hpd).1; omega
      rw [if_pos rfl, if_pos hd.1, hd.2]; simp
  · rw [if_neg h3]
    have hd : d = c ∧ n = (sg c).length := by
      rcases who with h | ⟨h, _⟩
      · exact h
      · exact absurd h h3
    rw [if_pos rfl, if_pos hd.1, hd.2]; simp
end Go.Proofs.Ytakjkgjbjannbaa.Pure
