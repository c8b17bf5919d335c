/- SignLongest over bytes: whose signature is sniffed it is the longest of all with which the text begins; what stands behind it plays no part, but where it makes a longer one. -/
import Derived.Test.YtakjkgjbjannbaaPSignLongestx2
namespace Go.Proofs.Ytakjkgjbjannbaa.Pure
open Go.RowKit Go.Proofs.Ytakjkgjbjannbaa.PSignLongest Go.Proofs.YtakjkgjbjannbaaW.PrintWords Go.Proofs.YtakjkgjbjannbaaW.PrintLast Go.Proofs.YtakjkgjbjannbaaW.PrintMore
set_option linter.unusedVariables false
theorem awakeL : pilcrowlaw17_awake.f 40 = some true := by decide +kernel
theorem awakeL_at (k : Nat) (hk : 40 ≤ k) : pilcrowlaw17_awake.f k = some true := at_rounds pilcrowlaw17_awake.mono hk awakeL
theorem w64 {i : Int} (h0 : 0 ≤ i) (h : i ≤ 100000) : wrap64 (i + 1) = i + 1 := by unfold wrap64; omega
def sigB (a0 : Int) : ByteArray := if a0 = 1 then ⟨#[239, 187, 191]⟩ else if a0 = 2 then ⟨#[254, 255]⟩ else if a0 = 3 then ⟨#[255, 254]⟩ else if a0 = 4 then ⟨#[0, 0, 254, 255]⟩ else if a0 = 5 then ⟨#[255, 254, 0, 0]⟩ else if a0 = 6 then ⟨#[221, 115, 102, 115]⟩ else if a0 = 8 then ⟨#[251, 238, 40]⟩ else if a0 = 9 then ⟨#[14, 254, 255]⟩ else ⟨#[]⟩
def sg (c : Int) : List UInt8 := (sigB c).data.toList
theorem of_f (c : Int) : sign_Of.f c = some (sigB c) := by unfold sign_Of.f sigB; (repeat' split) <;> rfl
theorem sig_size (c : Int) : (sigB c).size = (sg c).length := by unfold sg; rw [Array.length_toList]; rfl
def Pre (s : ByteArray) (c : Int) : Prop := sg c <+: s.data.toList
instance (s : ByteArray) (c : Int) : Decidable (Pre s c) := by unfold Pre; infer_instance
theorem prefix_f (s : ByteArray) (c : Int) : strings_HasPrefix.f s (sigB c) = some (decide (Pre s c)) := by
  have hs : s.data.toList.length = s.size := by rw [Array.length_toList]; rfl
  unfold strings_HasPrefix.f stringslite_HasPrefix.f
  rw [sig_size]
  by_cases h : (s.size : Int) ≥ ((sg c).length : Int)
  · rw [if_pos h, if_pos (by omega), if_pos (by omega)]
    simp only [Option.bind_some]
    congr 1
    rw [ByteArray.toList_eq, ByteArray.toList_eq, ByteArray.data_extract, Array.toList_extract]
    rw [Bool.eq_iff_iff, decide_eq_true_iff, beq_iff_eq]
    unfold Pre
    rw [List.prefix_iff_eq_take]
    simp only [Int.toNat_natCast, List.extract_eq_take_drop, List.drop_zero, Nat.sub_zero]
    show List.take (sg c).length s.data.toList = sg c ↔ sg c = List.take (sg c).length s.data.toList
    exact eq_comm
  · rw [if_neg h]
    simp only [Option.bind_some]
    congr 1
    symm
    rw [decide_eq_false_iff_not]
    intro hp
    have := List.IsPrefix.length_le hp
    omega
structure Sniffed (s : ByteArray) (i c n : Int) (ok : Bool) : Prop where
  yes : ok = true → 1 ≤ c ∧ c ≤ 10 ∧ n = (sg c).length ∧ Pre s c ∧ 0 < n
  no : ok = false → c = 0 ∧ n = 0
  all : ∀ j, 1 ≤ j → j < i → Pre s j → ((sg j).length : Int) ≤ n
  nn : 0 ≤ n
theorem sniff_loop (s : ByteArray) : ∀ (d k : Nat) (i c n : Int) (ok : Bool), i + d = 11 → 1 ≤ i → d < k → Sniffed s i c n ok → ∃ c' n' ok', sign_Sniff.l0 k s c n ok i = some (c', n', ok') ∧ Sniffed s 11 c' n' ok'
  | 0, k, i, c, n, ok, hi, h1, hk, h => by
    obtain ⟨k, rfl⟩ : ∃ q, k = q + 1 := ⟨k - 1, by omega⟩
    refine ⟨c, n, ok, ?_, by rw [show (11 : Int) = i by omega]; exact h⟩
    simp only [sign_Sniff.l0]
    rw [if_neg (by omega)]
  | d + 1, k, i, c, n, ok, hi, h1, hk, h => by
    obtain ⟨k, rfl⟩ : ∃ q, k = q + 1 := ⟨k - 1, by omega⟩
    simp only [sign_Sniff.l0]
    rw [if_pos (by omega), of_f]
    simp only [Option.bind_some]
    rw [sig_size, prefix_f, w64 (by omega) (by omega)]
    simp only [Option.bind_some]
    by_cases hn : ((sg i).length : Int) > n
    · rw [if_pos hn]
      by_cases hp : Pre s i
      · rw [if_pos (by simpa using hp)]
        have hnn := h.nn
        refine sniff_loop s d k (i + 1) i (sg i).length true (by omega) (by omega) (by omega) ⟨fun _ => ⟨h1, by omega, rfl, hp, by omega⟩, (fun h => by cases h), fun j hj0 hj hjp => ?_, by omega⟩
        rcases Int.lt_or_le j i with hlt | hge
        · have := h.all j hj0 hlt hjp; omega
        · have : j = i := by omega
          subst this; omega
      · rw [if_neg (by simpa using hp)]
        refine sniff_loop s d k (i + 1) c n ok (by omega) (by omega) (by omega) ⟨h.yes, h.no, fun j hj0 hj hjp => ?_, h.nn⟩
        rcases Int.lt_or_le j i with hlt | hge
        · exact h.all j hj0 hlt hjp
        · have : j = i := by omega
          subst this; exact absurd hjp hp
    · rw [if_neg hn]
      refine sniff_loop s d k (i + 1) c n ok (by omega) (by omega) (by omega) ⟨h.yes, h.no, fun j hj0 hj hjp => ?_, h.nn⟩
      rcases Int.lt_or_le j i with hlt | hge
      · exact h.all j hj0 hlt hjp
      · have : j = i := by omega
        subst this; omega
theorem sniff_f (s : ByteArray) (k : Nat) (hk : 12 ≤ k) : ∃ c n ok, sign_Sniff.f k s = some (c, n, ok) ∧ Sniffed s 11 c n ok := by
  unfold sign_Sniff.f
  exact sniff_loop s 10 k 1 0 0 false (by decide) (by decide) (by omega) ⟨(fun h => by cases h), fun _ => ⟨rfl, rfl⟩, (fun j h0 h1 => by omega), by decide⟩
theorem pre_app {s t : ByteArray} {c : Int} (h : Pre s c) : Pre (s ++ t) c := by
  unfold Pre at h ⊢
  rw [ByteArray.data_append, Array.toList_append]
  exact List.IsPrefix.trans h (List.prefix_append _ _)
theorem code_in {c : Int} (h0 : 1 ≤ c) (h1 : c ≤ 10) : c = 1 ∨ c = 2 ∨ c = 3 ∨ c = 4 ∨ c = 5 ∨ c = 6 ∨ c = 7 ∨ c = 8 ∨ c = 9 ∨ c = 10 := by omega
theorem sg_one {c d : Int} (hc : 1 ≤ c ∧ c ≤ 10) (hd : 1 ≤ d ∧ d ≤ 10) (h : sg c = sg d) (hp : 0 < (sg c).length) : c = d := by
  obtain ⟨c, rfl⟩ := Int.eq_ofNat_of_zero_le (show 0 ≤ c by omega)
  obtain ⟨d, rfl⟩ := Int.eq_ofNat_of_zero_le (show 0 ≤ d by omega)
  have key : ∀ (a b : Fin 11), sg (a.val : Int) = sg (b.val : Int) → 0 < (sg (a.val : Int)).length → a = b := by decide +kernel
  have := congrArg Fin.val (key ⟨c, by omega⟩ ⟨d, by omega⟩ h hp)
  simp only at this
  omega
theorem same_len {s : ByteArray} {c d : Int} (hc : Pre s c) (hd : Pre s d) (hl : (sg c).length = (sg d).length) : sg c = sg d := by
  unfold Pre at hc hd
  rw [List.prefix_iff_eq_take] at hc hd
  rw [hc, hd, hl]

theorem begins_one (s : ByteArray) (c : Int) (k : Nat) (hk : 2 ≤ k) : ∃ b, sign_Begins.f k s [c] = some b ∧ (b = true → Pre s c) := by
  obtain ⟨k, rfl⟩ : ∃ q, k = q + 1 + 1 := ⟨k - 2, by omega⟩
  unfold sign_Begins.f
  have h1 : sign_Begins.l0 (k + 1) s [c] (([c] : List Int).length : Int) (wrap64 (0 + 1)) = some false := by
    simp only [sign_Begins.l0]
    rw [w64 (by decide) (by decide), if_neg (by simp)]
  rw [sign_Begins.l0]
  rw [if_pos (by simp), if_pos (by decide), if_pos (by simp), show rd [c] 0 = c from rfl, of_f]
  simp only [Option.bind_some]
  rw [h1, prefix_f]
  simp only [Option.bind_some]
  by_cases he : (sigB c).toList = ([] : List UInt8)
  · rw [if_pos he]; exact ⟨false, rfl, fun h => by cases h⟩
  · rw [if_neg he]
    by_cases hp : Pre s c
    · rw [if_pos (by simpa using hp)]; exact ⟨true, rfl, fun _ => hp⟩
    · rw [if_neg (by simpa using hp)]; exact ⟨false, rfl, fun h => by cases h⟩
theorem fin_loop (s : ByteArray) (c n d m : Int) (ok too : Bool) (hq : Sniffed s 11 c n ok) (hfin : (if ok = true then (if too = true then (if m ≥ n then (if m > n then some true else some (c == d)) else some false) else some false) else (if m ≥ n then (if m > n then some true else some (c == d)) else some false)) = some true) :
    ∀ (e k : Nat) (i : Int), i + e = 10 → 0 ≤ i → e + 10 ≤ k → pilcrowlaw17_SignLongest.l0 k s c n ok d m too i = some true
  | 0, k, i, hi, h0, hk => by
    obtain ⟨k, rfl⟩ : ∃ q, k = q + 1 := ⟨k - 1, by omega⟩
    simp only [pilcrowlaw17_SignLongest.l0]
    rw [if_neg (by omega)]; exact hfin
  | e + 1, k, i, hi, h0, hk => by
    obtain ⟨k, rfl⟩ : ∃ q, k = q + 1 := ⟨k - 1, by omega⟩
    have ih := fin_loop s c n d m ok too hq hfin e k (i + 1) (by omega) (by omega) (by omega)
    obtain ⟨b, hb, hbp⟩ := begins_one s (i + 1) k (by omega)
    simp only [pilcrowlaw17_SignLongest.l0]
    rw [if_pos (by omega), w64 h0 (by omega), hb, of_f]
    simp only [Option.bind_some]
    rw [ih, sig_size]
    cases b with
    | false => simp
    | true =>
      have := hq.all (i + 1) (by omega) (by omega) (hbp rfl)
      rw [if_pos rfl, if_neg (by omega)]
theorem SignLongest : pilcrowlaw17_SignLongest.Pure := by
  intro s more _ _
  refine ⟨50 + 1, ?_⟩
  unfold pilcrowlaw17_SignLongest.f
  rw [awakeL_at _ (by omega)]
  simp only [Option.bind_some, if_true, pilcrowlaw17_SignLongest.j0]
  rw [awakeL_at 50 (by omega)]
  by_cases h1 : (s.size : Int) > 100
  · rw [if_pos h1]; rfl
  rw [if_neg h1]
  by_cases h2 : (more.size : Int) > 100
  · rw [if_pos (by simpa using h2)]; rfl
  rw [if_neg (by simpa using h2)]
  obtain ⟨c, n, ok, hs, hq⟩ := sniff_f s 50 (by decide)
  obtain ⟨d, m, too, ht, hr⟩ := sniff_f (s ++ more) 50 (by decide)
  rw [hs, ht]
  simp only [Option.bind_some]
  rw [if_pos (by omega)]
  refine fin_loop s c n d m ok too hq ?_ 10 50 0 (by decide) (by decide) (by decide)
  cases ok with
  | false =>
    obtain ⟨rfl, rfl⟩ := hq.no rfl
    rw [if_neg (by decide), if_pos (by have := hr.nn; omega)]
    by_cases hm : m > 0
    · rw [if_pos hm]
    · rw [if_neg hm]
      cases too with
      | false => obtain ⟨rfl, rfl⟩ := hr.no rfl; rfl
      | true => have := (hr.yes rfl).2.2.2.2; omega
  | true =>
    obtain ⟨c0, c1, hn, hp, hpos⟩ := hq.yes rfl
    have hp' : Pre (s ++ more) c := pre_app hp
    have hle := hr.all c c0 (by omega) hp'
    have htoo : too = true := by
      cases too with
      | true => rfl
      | false => have := hr.no rfl; omega
    subst htoo
    obtain ⟨d0, d1, hm, hpd, hmpos⟩ := hr.yes rfl
    rw [if_pos rfl, if_pos rfl, if_pos (by omega)]
    by_cases hmn : m > n
    · rw [if_pos hmn]
    · rw [if_neg hmn]
      have : c = d := sg_one ⟨c0, c1⟩ ⟨d0, d1⟩ (same_len hp' hpd (by omega)) (by omega)
      rw [this]; simp
end Go.Proofs.Ytakjkgjbjannbaa.Pure
