/- SignBegins over numbers and bytes. -/
import Derived.Test.YtakjkgjbjannbaaQSignBeginsx7
namespace Go.Proofs.Ytakjkgjbjannbaa.Pure
open Go.RowKit Go.Proofs.Ytakjkgjbjannbaa.QSignBegins Go.Proofs.YtakjkgjbjannbaaW.PrintWords Go.Proofs.YtakjkgjbjannbaaW.PrintLast Go.Proofs.YtakjkgjbjannbaaW.PrintMore
set_option linter.unusedVariables false
set_option maxRecDepth 100000
theorem awakeL : pilcrowlaw17_awake.f 40 = some true := by decide +kernel
theorem awakeL_at (k : Nat) (hk : 40 ≤ k) : pilcrowlaw17_awake.f k = some true := at_rounds pilcrowlaw17_awake.mono hk awakeL
theorem w64 {i : Int} (h0 : 0 ≤ i) (h : i ≤ 100000) : wrap64 (i + 1) = i + 1 := by unfold wrap64; omega
def sigB (a0 : Int) : ByteArray := if a0 = 1 then ⟨#[239, 187, 191]⟩ else if a0 = 2 then ⟨#[254, 255]⟩ else if a0 = 3 then ⟨#[255, 254]⟩ else if a0 = 4 then ⟨#[0, 0, 254, 255]⟩ else if a0 = 5 then ⟨#[255, 254, 0, 0]⟩ else if a0 = 6 then ⟨#[221, 115, 102, 115]⟩ else if a0 = 8 then ⟨#[251, 238, 40]⟩ else if a0 = 9 then ⟨#[14, 254, 255]⟩ else ⟨#[]⟩
def sg (c : Int) : List UInt8 := (sigB c).data.toList
theorem of_f (c : Int) : sign_Of.f c = some (sigB c) := by unfold sign_Of.f sigB; (repeat' split) <;> rfl
theorem sig_size (c : Int) : (sigB c).size = (sg c).length := by unfold sg; rw [Array.length_toList]; rfl
def Pre (s : ByteArray) (c : Int) : Prop := sg c <+: s.data.toList
instance (s : ByteArray) (c : Int) : Decidable (Pre s c) := by unfold Pre; infer_instance
theorem prefix_f (s : ByteArray) (c : Int) : strings_HasPrefix.f s (sigB c) = some (decide (Pre s c)) := by
  have hs : s.data.toList.length = s.size := by rw [Array.length_toList]; rfl
  unfold strings_HasPrefix.f stringslite_HasPrefix.f
  rw [sig_size]
  by_cases h : (s.size : Int) ≥ ((sg c).length : Int)
  · rw [if_pos h, if_pos (by omega), if_pos (by omega)]
    simp only [Option.bind_some]
    congr 1
    rw [ByteArray.toList_eq, ByteArray.toList_eq, ByteArray.data_extract, Array.toList_extract]
    rw [Bool.eq_iff_iff, decide_eq_true_iff, beq_iff_eq]
    unfold Pre
    rw [List.prefix_iff_eq_take]
    simp only [Int.toNat_natCast, List.extract_eq_take_drop, List.drop_zero, Nat.sub_zero]
    show List.take (sg c).length s.data.toList = sg c ↔ sg c = List.take (sg c).length s.data.toList
    exact eq_comm
  · rw [if_neg h]
    simp only [Option.bind_some]
    congr 1
    symm
    rw [decide_eq_false_iff_not]
    intro hp
    have := List.IsPrefix.length_le hp
    omega
structure Sniffed (s : ByteArray) (i c n : Int) (ok : Bool) : Prop where
  yes : ok = true → 1 ≤ c ∧ c ≤ 10 ∧ n = (sg c).length ∧ Pre s c ∧ 0 < n
  no : ok = false → c = 0 ∧ n = 0
  all : ∀ j, 1 ≤ j → j < i → Pre s j → ((sg j).length : Int) ≤ n
  nn : 0 ≤ n
theorem sniff_loop (s : ByteArray) : ∀ (d k : Nat) (i c n : Int) (ok : Bool), i + d = 11 → 1 ≤ i → d < k → Sniffed s i c n ok → ∃ c' n' ok', sign_Sniff.l0 k s c n ok i = some (c', n', ok') ∧ Sniffed s 11 c' n' ok'
  | 0, k, i, c, n, ok, hi, h1, hk, h => by
    obtain ⟨k, rfl⟩ : ∃ q, k = q + 1 := ⟨k - 1, by omega⟩
    refine ⟨c, n, ok, ?_, by rw [show (11 : Int) = i by omega]; exact h⟩
    simp only [sign_Sniff.l0]
    rw [if_neg (by omega)]
  | d + 1, k, i, c, n, ok, hi, h1, hk, h => by
    obtain ⟨k, rfl⟩ : ∃ q, k = q + 1 := ⟨k - 1, by omega⟩
    simp only [sign_Sniff.l0]
    rw [if_pos (by omega), of_f]
    simp only [Option.bind_some]
    rw [sig_size, prefix_f, w64 (by omega) (by omega)]
    simp only [Option.bind_some]
    by_cases hn : ((sg i).length : Int) > n
    · rw [if_pos hn]
      by_cases hp : Pre s i
      · rw [if_pos (by simpa using hp)]
        have hnn := h.nn
        refine sniff_loop s d k (i + 1) i (sg i).length true (by omega) (by omega) (by omega) ⟨fun _ => ⟨h1, by omega, rfl, hp, by omega⟩, (fun h => by cases h), fun j hj0 hj hjp => ?_, by omega⟩
        rcases Int.lt_or_le j i with hlt | hge
        · have := h.all j hj0 hlt hjp; omega
        · have : j = i := by omega
          subst this; omega
      · rw [if_neg (by simpa using hp)]
        refine sniff_loop s d k (i + 1) c n ok (by omega) (by omega) (by omega) ⟨h.yes, h.no, fun j hj0 hj hjp => ?_, h.nn⟩
        rcases Int.lt_or_le j i with hlt | hge
        · exact h.all j hj0 hlt hjp
        · have : j = i := by omega
          subst this; exact absurd hjp hp
    · rw [if_neg hn]
      refine sniff_loop s d k (i + 1) c n ok (by omega) (by omega) (by omega) ⟨h.yes, h.no, fun j hj0 hj hjp => ?_, h.nn⟩
      rcases Int.lt_or_le j i with hlt | hge
      · exact h.all j hj0 hlt hjp
      · have : j = i := by omega
        subst this; omega
theorem sniff_f (s : ByteArray) (k : Nat) (hk : 12 ≤ k) : ∃ c n ok, sign_Sniff.f k s = some (c, n, ok) ∧ Sniffed s 11 c n ok := by
  unfold sign_Sniff.f
  exact sniff_loop s 10 k 1 0 0 false (by decide) (by decide) (by omega) ⟨(fun h => by cases h), fun _ => ⟨rfl, rfl⟩, (fun j h0 h1 => by omega), by decide⟩
theorem pre_app {s t : ByteArray} {c : Int} (h : Pre s c) : Pre (s ++ t) c := by
  unfold Pre at h ⊢
  rw [ByteArray.data_append, Array.toList_append]
  exact List.IsPrefix.trans h (List.prefix_append _ _)
theorem code_in {c : Int} (h0 : 1 ≤ c) (h1 : c ≤ 10) : c = 1 ∨ c = 2 ∨ c = 3 ∨ c = 4 ∨ c = 5 ∨ c = 6 ∨ c = 7 ∨ c = 8 ∨ c = 9 ∨ c = 10 := by omega
theorem sg_one {c d : Int} (hc : 1 ≤ c ∧ c ≤ 10) (hd : 1 ≤ d ∧ d ≤ 10) (h : sg c = sg d) (hp : 0 < (sg c).length) : c = d := by
  obtain ⟨c, rfl⟩ := Int.eq_ofNat_of_zero_le (show 0 ≤ c by omega)
  obtain ⟨d, rfl⟩ := Int.eq_ofNat_of_zero_le (show 0 ≤ d by omega)
  have key : ∀ (a b : Fin 11), sg (a.val : Int) = sg (b.val : Int) → 0 < (sg (a.val : Int)).length → a = b := by decide +kernel
  have := congrArg Fin.val (key ⟨c, by omega⟩ ⟨d, by omega⟩ h hp)
  simp only at this
  omega
theorem same_len {s : ByteArray} {c d : Int} (hc : Pre s c) (hd : Pre s d) (hl : (sg c).length = (sg d).length) : sg c = sg d := by
  unfold Pre at hc hd
  rw [List.prefix_iff_eq_take] at hc hd
  rw [hc, hd, hl]

theorem sg_longer (c d : Int) (hc : 1 ≤ c ∧ c ≤ 10) (hd : 1 ≤ d ∧ d ≤ 10) (hp : 0 < (sg c).length) (hl : (sg c).length < (sg d).length) (h : sg c <+: sg d) : c = 3 ∧ d = 5 := by
  obtain ⟨c, rfl⟩ := Int.eq_ofNat_of_zero_le (show 0 ≤ c by omega)
  obtain ⟨d, rfl⟩ := Int.eq_ofNat_of_zero_le (show 0 ≤ d by omega)
  have key : ∀ (a b : Fin 11), 0 < (sg (a.val : Int)).length → (sg (a.val : Int)).length < (sg (b.val : Int)).length → sg (a.val : Int) <+: sg (b.val : Int) → a.val = 3 ∧ b.val = 5 := by decide +kernel
  have := key ⟨c, by omega⟩ ⟨d, by omega⟩ hp hl h
  simp at this
  omega
theorem sig_none (c : Int) (h : sigB c ≠ ⟨#[]⟩) : 1 ≤ c ∧ c ≤ 10 := by
  unfold sigB at h
  (repeat' split at h) <;> first | omega | (exact absurd rfl h)
theorem empty_app (b : ByteArray) : (⟨#[]⟩ : ByteArray) ++ b = b := by
  apply ByteArray.ext
  rw [ByteArray.data_append]
  simp
theorem r06 (k : Nat) : pilcrowref06_Bytes.f (k + 2) [65279] = some ⟨#[241, 191, 183, 191]⟩ := by
  unfold pilcrowref06_Bytes.f
  rw [pilcrowref06_Bytes.l0, if_pos (by decide), if_pos (by decide), show Hand.pilcrowref06_One.f (rd [65279] 0) = some ⟨#[241, 191, 183, 191]⟩ from rfl, Option.bind_some, if_pos (by decide), pilcrowref06_Bytes.l0, if_neg (by decide +kernel), empty_app]
theorem w1 {i : Nat} (h : i ≤ 1000) : wrap64 ((i : Int) + 1) = ((i + 1 : Nat) : Int) := by unfold wrap64; omega
def memF (x1 : List Int) (v : Int) : Nat → Nat → Bool
  | 0, _ => false
  | d + 1, i => (rd x1 (i : Int) == v) || memF x1 v d (i + 1)
theorem all_l2 (x1 : List Int) (hx : 160 ≤ x1.length ∧ x1.length ≤ 1000) (x3 : Int) (k : Nat) : ∀ (d i : Nat) (b : Bool), i + d = 160 → pilcrowref07_All.l2 (d + 1 + k) x1 x3 b (i : Int) = if (b || memF x1 (x3 % 256) d i) = true then pilcrowref07_All.l1 k x1 (wrap64 (x3 + 1)) else pilcrowref07_All.l1 k (x1 ++ [x3 % 256]) (wrap64 (x3 + 1))
  | 0, i, b, h => by
    rw [show 0 + 1 + k = k + 1 by omega, pilcrowref07_All.l2, if_neg (by omega)]
    cases b
    · rw [if_neg (by decide), if_pos (by omega)]; rfl
    · rfl
  | d + 1, i, b, h => by
    have ih := all_l2 x1 hx x3 k d (i + 1)
    rw [show d + 1 + 1 + k = (d + 1 + k) + 1 by omega, pilcrowref07_All.l2, if_pos (by omega), w1 (by omega)]
    cases b
    · rw [if_neg (by decide), if_pos (by omega), if_pos (by omega), ih _ (by omega)]
      simp only [memF, Bool.false_or]
    · rw [if_pos rfl, ih _ (by omega)]
      simp
def restF (F : List Int) : Nat → Nat → List Int → List Int
  | 0, _, t => t
  | d + 1, x, t => restF F d (x + 1) (if memF F (x : Int) 160 0 then t else t ++ [(x : Int)])
theorem rd_app (F t : List Int) (i : Nat) (h : i < F.length) : rd (F ++ t) (i : Int) = rd F (i : Int) := by
  unfold rd
  rw [Int.toNat_natCast, List.getD_eq_getElem?_getD, List.getD_eq_getElem?_getD, List.getElem?_append_left h]
theorem mem_app (F t : List Int) (v : Int) (hF : F.length = 160) : ∀ d i, i + d = 160 → memF (F ++ t) v d i = memF F v d i
  | 0, _, _ => rfl
  | d + 1, i, h => by simp only [memF]; rw [rd_app F t i (by omega), mem_app F t v hF d (i + 1) (by omega)]
theorem all_l1 (F : List Int) (hF : F.length = 160) (k : Nat) : ∀ (d x : Nat) (t : List Int), x + d = 256 → t.length ≤ x → pilcrowref07_All.l1 (d * 162 + 1 + k) (F ++ t) (x : Int) = some (strOfNums (F ++ restF F d x t))
  | 0, x, t, h, ht => by rw [show 0 * 162 + 1 + k = k + 1 by omega, pilcrowref07_All.l1, if_neg (by omega)]; rfl
  | d + 1, x, t, h, ht => by
    have hl : (F ++ t).length = 160 + t.length := by rw [List.length_append, hF]
    have h2 := all_l2 (F ++ t) (by omega) (x : Int) (d * 162 + 1 + k) 160 0 false rfl
    rw [show (d + 1) * 162 + 1 + k = (160 + 1 + (d * 162 + 1 + k)) + 1 by omega, pilcrowref07_All.l1, if_pos (by omega)]
    rw [show ((0 : Nat) : Int) = 0 from rfl] at h2
    rw [h2, Bool.false_or, mem_app F t _ hF 160 0 rfl, w1 (by omega), show (x : Int) % 256 = (x : Int) by omega]
    simp only [restF]
    split
    · exact all_l1 F hF k d (x + 1) t (by omega) (by omega)
    · rw [List.append_assoc]; exact all_l1 F hF k d (x + 1) (t ++ [(x : Int)]) (by omega) (by simp; omega)
def knownF (i : Nat) : Int := ((pilcrowref07_known.f (i : Int)).getD 0) % 256
theorem known_some : ∀ i : Fin 160, (pilcrowref07_known.f ((i.val : Nat) : Int)).isSome = true := by decide +kernel
def firstF : Nat → Nat → List Int → List Int
  | 0, _, t => t
  | d + 1, i, t => firstF d (i + 1) (t ++ [knownF i])
theorem firstF_length : ∀ d i t, (firstF d i t).length = t.length + d
  | 0, _, _ => rfl
  | d + 1, i, t => by simp only [firstF]; rw [firstF_length d]; simp; omega
theorem all_l0 (k : Nat) : ∀ (d i : Nat) (t : List Int), i + d = 160 → t.length = i → pilcrowref07_All.l0 (d + 1 + k) t (i : Int) = pilcrowref07_All.l1 k (firstF d i t) 0
  | 0, i, t, h, ht => by rw [show 0 + 1 + k = k + 1 by omega, pilcrowref07_All.l0, if_neg (by omega)]; rfl
  | d + 1, i, t, h, ht => by
    have hs := known_some ⟨i, by omega⟩
    obtain ⟨v, hv⟩ := Option.isSome_iff_exists.1 hs
    simp only at hv
    rw [show d + 1 + 1 + k = (d + 1 + k) + 1 by omega, pilcrowref07_All.l0, if_pos (by omega), hv, Option.bind_some, if_pos (by omega), w1 (by omega), all_l0 k d (i + 1) _ (by omega) (by simp; omega)]
    simp only [firstF, knownF]
    rw [hv]; rfl
def allF : ByteArray := strOfNums (firstF 160 0 [] ++ restF (firstF 160 0 []) 256 0 [])
theorem all_f : pilcrowref07_All.f 50000 = some allF := by
  unfold pilcrowref07_All.f allF
  have h0 := all_l0 49839 160 0 [] rfl rfl
  have h1 := all_l1 (firstF 160 0 []) (firstF_length 160 0 []) 8366 256 0 [] rfl (Nat.le_refl _)
  rw [List.append_nil] at h1
  rw [show 160 + 1 + 49839 = 50000 from rfl] at h0
  rw [show 256 * 162 + 1 + 8366 = 49839 from rfl] at h1
  rw [show ((0 : Nat) : Int) = 0 from rfl] at h0 h1
  rw [h0, h1]
theorem turn_f : pilcrowref07_Turn.f 300 ⟨#[241, 191, 183, 191]⟩ allF = some ⟨#[221, 115, 102, 115]⟩ := by decide +kernel
theorem turn_at : pilcrowref07_Turn.f 50000 ⟨#[241, 191, 183, 191]⟩ allF = some ⟨#[221, 115, 102, 115]⟩ := at_rounds (fun k => pilcrowref07_Turn.mono _ _ k) (by decide) turn_f
theorem t6 : pilcrowref17_Of.f 50000 6 = some ⟨#[221, 115, 102, 115]⟩ := by
  unfold pilcrowref17_Of.f
  rw [Option.bind_some, if_neg (by decide), if_neg (by decide), if_neg (by decide), if_neg (by decide), if_neg (by decide), if_pos rfl]
  unfold pilcrowref08_Bytes.f
  rw [r06 49998, Option.bind_some]
  unfold pilcrowref07_Text.f
  rw [all_f, Option.bind_some, turn_at]
  rfl
def pk1 : Nat → Int → Int → Int → List Int → Int → Option (ByteArray)
  | 0, _, _, _, _, _ => none
  | k + 1, x3, x8, x9, x10, x11 => if x11 < x8 then ((pilcrowref11_Trails.f k).bind fun t238 => (if 0 ≤ (Int.tmod x9 243) then (if (Int.tmod x9 243) < (t238.length : Int) then ((some (([rd t238 (Int.tmod x9 243)] : List Int) : List Int)).bind fun y242 => (if y242.length + x10.length < 140737488355328 then (pk1 k x3 x8 (wrap64 (Int.tdiv x9 243)) (y242 ++ x10) (wrap64 (x11 + 1))) else (none))) else (none)) else (none))) else ((some (([x3] : List Int) : List Int)).bind fun y248 => (if y248.length + x10.length < 140737488355328 then (some (strOfNums (y248 ++ x10))) else (none)))
def pk0 : Nat → Int → Int → Int → Option (ByteArray)
  | 0, _, _, _ => none
  | k + 1, x0, x3, x4 => if x4 ≤ 254 then ((pilcrowref11_Least.f k ((x4) % 256)).bind fun bt231 => (if bt231.1 ≤ x0 then (pk0 k x0 ((x4) % 256) (wrap64 (x4 + 1))) else (pk0 k x0 x3 (wrap64 (x4 + 1))))) else ((pilcrowref11_Least.f k x3).bind fun bt233 => (pk1 k x3 bt233.2 (wrap64 (x0 - bt233.1)) (([] : List Int)) 0))
theorem pk1_eq : ∀ (k : Nat) (a b c : Int) (l : List Int) (d : Int), pilcrowref11_Pack.l1 k a b c l d = pk1 k a b c l d
  | 0, _, _, _, _, _ => by rw [pilcrowref11_Pack.l1, pk1]
  | k + 1, a, b, c, l, d => by
    rw [pilcrowref11_Pack.l1, pk1]
    simp only [pk1_eq k]
theorem pk0_eq : ∀ (k : Nat) (a b c : Int), pilcrowref11_Pack.l0 k a b c = pk0 k a b c
  | 0, _, _, _ => by rw [pilcrowref11_Pack.l0, pk0]
  | k + 1, a, b, c => by
    rw [pilcrowref11_Pack.l0, pk0]
    simp only [pk0_eq k, pk1_eq k]
theorem p11 : pilcrowref11_Pack.f 600 65215 = some ⟨#[251, 238, 40]⟩ := by
  unfold pilcrowref11_Pack.f
  rw [pk0_eq]
  decide +kernel
theorem q11 : ∃ v, pilcrowref11_Prev.f 600 65279 = some v := by
  have h : (pilcrowref11_Prev.f 600 65279).isSome = true := by decide +kernel
  exact Option.isSome_iff_exists.1 h
theorem t8 : pilcrowref17_Of.f 50000 8 = some ⟨#[251, 238, 40]⟩ := by
  obtain ⟨v, hv⟩ := q11
  have p := at_rounds (fun k => pilcrowref11_Pack.mono 65215 k) (show 600 ≤ 49999 by decide) p11
  have q := at_rounds (fun k => pilcrowref11_Prev.mono 65279 k) (show 600 ≤ 49999 by decide) hv
  unfold pilcrowref17_Of.f
  rw [Option.bind_some, if_neg (by decide), if_neg (by decide), if_neg (by decide), if_neg (by decide), if_neg (by decide), if_neg (by decide), if_pos rfl]
  unfold pilcrowref12_Bytes.f
  rw [show (50000 : Nat) = 49999 + 1 from rfl, pilcrowref12_Bytes.l0, if_pos (by decide), if_pos (by decide), if_pos (by decide), show wrap64 (wrap64 (rd [65279] 0) - 64) = 65215 from by decide +kernel, p, Option.bind_some, if_pos (by decide), show rd [65279] 0 = 65279 from rfl, q, Option.bind_some, show (49999 : Nat) = 49998 + 1 from rfl, pilcrowref12_Bytes.l0, if_neg (by decide +kernel), empty_app]
  rfl

theorem t1 : pilcrowref17_Of.f 300 1 = some ⟨#[239, 187, 191]⟩ := by decide +kernel
theorem t2 : pilcrowref17_Of.f 300 2 = some ⟨#[254, 255]⟩ := by decide +kernel
theorem t3 : pilcrowref17_Of.f 300 3 = some ⟨#[255, 254]⟩ := by decide +kernel
theorem t4 : pilcrowref17_Of.f 300 4 = some ⟨#[0, 0, 254, 255]⟩ := by decide +kernel
theorem t5 : pilcrowref17_Of.f 300 5 = some ⟨#[255, 254, 0, 0]⟩ := by decide +kernel
theorem t9 : pilcrowref17_Of.f 300 9 = some ⟨#[14, 254, 255]⟩ := by decide +kernel
theorem ref_of (c : Int) : pilcrowref17_Of.f 50000 c = some (sigB c) := by
  have up : ∀ {c : Int} {r : ByteArray}, pilcrowref17_Of.f 300 c = some r → pilcrowref17_Of.f 50000 c = some r := fun h => at_rounds (fun k => pilcrowref17_Of.mono _ k) (by decide) h
  by_cases h1 : c = 1
  · subst h1; exact up t1
  by_cases h2 : c = 2
  · subst h2; exact up t2
  by_cases h3 : c = 3
  · subst h3; exact up t3
  by_cases h4 : c = 4
  · subst h4; exact up t4
  by_cases h5 : c = 5
  · subst h5; exact up t5
  by_cases h6 : c = 6
  · subst h6; exact t6
  by_cases h8 : c = 8
  · subst h8; exact t8
  by_cases h9 : c = 9
  · subst h9; exact up t9
  unfold pilcrowref17_Of.f sigB
  rw [Option.bind_some, if_neg h1, if_neg h2, if_neg h3, if_neg h4, if_neg h5, if_neg h6, if_neg h8, if_neg h9, if_neg h1, if_neg h2, if_neg h3, if_neg h4, if_neg h5, if_neg h6, if_neg h8, if_neg h9]
theorem ref_of_at (k : Nat) (hk : 50000 ≤ k) (c : Int) : pilcrowref17_Of.f k c = some (sigB c) := at_rounds (fun k => pilcrowref17_Of.mono c k) hk (ref_of c)
theorem has_f (k : Nat) (hk : 50000 ≤ k) (s : ByteArray) (c : Int) : pilcrowref17_Has.f k s c = some (decide (sg c ≠ [] ∧ Pre s c)) := by
  have hs : s.data.toList.length = s.size := by rw [Array.length_toList]; rfl
  have he : (sigB c).toList = [] ↔ sg c = [] := by rw [ByteArray.toList_eq]; rfl
  unfold pilcrowref17_Has.f
  rw [ref_of_at k hk, Option.bind_some]
  by_cases h0 : sg c = []
  · rw [if_pos (he.2 h0)]; simp [h0]
  rw [if_neg (fun h => h0 (he.1 h)), sig_size]
  by_cases h1 : (s.size : Int) < ((sg c).length : Int)
  · rw [if_pos h1]
    congr 1
    symm
    rw [decide_eq_false_iff_not]
    rintro ⟨_, hp⟩
    have := List.IsPrefix.length_le hp
    omega
  · rw [if_neg h1, if_pos (by omega), if_pos (by omega)]
    congr 1
    rw [ByteArray.toList_eq, ByteArray.toList_eq, ByteArray.data_extract, Array.toList_extract]
    rw [Bool.eq_iff_iff, decide_eq_true_iff, beq_iff_eq]
    unfold Pre
    rw [List.prefix_iff_eq_take]
    simp only [Int.toNat_natCast, List.extract_eq_take_drop, List.drop_zero, Nat.sub_zero]
    show List.take (sg c).length s.data.toList = sg c ↔ (sg c ≠ [] ∧ sg c = List.take (sg c).length s.data.toList)
    constructor
    · intro h; exact ⟨h0, h.symm⟩
    · intro h; exact h.2.symm
def hs (s : ByteArray) (c : Int) : Bool := decide (sg c ≠ [] ∧ Pre s c)
theorem rd_at (l : List Int) (i : Nat) (h : i < l.length) : rd l (i : Int) = l[i] := by
  unfold rd
  rw [Int.toNat_natCast, List.getD_eq_getElem?_getD, List.getElem?_eq_getElem h]; rfl
theorem w1' {i : Nat} (h : i ≤ 100000) : wrap64 ((i : Int) + 1) = ((i + 1 : Nat) : Int) := by unfold wrap64; omega
theorem begins_l (s : ByteArray) (l : List Int) (hl : l.length ≤ 100) (K : Nat) : ∀ (d i : Nat), i + d = l.length → sign_Begins.l0 (d + 1 + K) s l (l.length : Int) (i : Int) = some ((l.drop i).any (hs s))
  | 0, i, h => by
    rw [show 0 + 1 + K = K + 1 by omega, sign_Begins.l0, if_neg (by omega), List.drop_eq_nil_of_le (by omega)]; rfl
  | d + 1, i, h => by
    have ih := begins_l s l hl K d (i + 1) (by omega)
    have he : (sigB l[i]).toList = [] ↔ sg l[i] = [] := by rw [ByteArray.toList_eq]; rfl
    have hd := List.drop_eq_getElem_cons (l := l) (i := i) (by omega)
    rw [show d + 1 + 1 + K = (d + 1 + K) + 1 by omega, sign_Begins.l0, if_pos (by omega), if_pos (by omega), if_pos (by omega), rd_at l i (by omega), of_f, Option.bind_some, w1' (by omega), ih, hd, List.any_cons]
    by_cases h0 : sg l[i] = []
    · rw [if_pos (he.2 h0)]; simp [hs, h0]
    · rw [if_neg (fun h => h0 (he.1 h)), prefix_f, Option.bind_some]
      by_cases hp : Pre s l[i]
      · rw [if_pos (by simpa using hp)]; simp [hs, h0, hp]
      · rw [if_neg (by simpa using hp)]; simp [hs, hp]
theorem begins_f (s : ByteArray) (l : List Int) (hl : l.length ≤ 100) (k : Nat) (hk : 200 ≤ k) : sign_Begins.f k s l = some (l.any (hs s)) := by
  unfold sign_Begins.f
  have := begins_l s l hl (k - (l.length + 1)) l.length 0 (by omega)
  rw [show l.length + 1 + (k - (l.length + 1)) = k by omega, show ((0 : Nat) : Int) = 0 from rfl, List.drop_zero] at this
  exact this
theorem law_l (s : ByteArray) (l : List Int) (hl : l.length ≤ 100) (K : Nat) (hK : 50000 ≤ K) : ∀ (d i : Nat) (acc : Bool), i + d = l.length → (acc || (l.drop i).any (hs s)) = l.any (hs s) → pilcrowlaw17_SignBegins.l0 (d + 1 + K) s l acc l (l.length : Int) (i : Int) = some true
  | 0, i, acc, h, ha => by
    rw [List.drop_eq_nil_of_le (by omega)] at ha
    rw [show 0 + 1 + K = K + 1 by omega, pilcrowlaw17_SignBegins.l0, if_neg (by omega), begins_f s l hl K (by omega), Option.bind_some, ← ha, begins_f s [] (by decide) K (by omega)]
    simp
  | d + 1, i, acc, h, ha => by
    have ih := law_l s l hl K hK d (i + 1)
    have hd := List.drop_eq_getElem_cons (l := l) (i := i) (by omega)
    rw [hd, List.any_cons] at ha
    rw [show d + 1 + 1 + K = (d + 1 + K) + 1 by omega, pilcrowlaw17_SignBegins.l0, if_pos (by omega), if_pos (by omega), if_pos (by omega), w1' (by omega)]
    cases acc with
    | true => rw [if_pos rfl, ih true (by omega)]; rw [← ha]; simp
    | false =>
      rw [if_neg (by decide), rd_at l i (by omega), has_f _ (by omega), Option.bind_some, ih _ (by omega)]
      rw [← ha, Bool.false_or]; rfl
theorem SignBegins : pilcrowlaw17_SignBegins.Pure := by
  intro s l _ _ _ _
  refine ⟨50202, ?_⟩
  unfold pilcrowlaw17_SignBegins.f
  rw [awakeL_at _ (by decide), Option.bind_some, if_pos rfl, show (50202 : Nat) = 50201 + 1 from rfl, pilcrowlaw17_SignBegins.j0]
  by_cases hb : (l.length : Int) > 100
  · rw [if_pos (by simpa using hb), awakeL_at _ (by decide)]; rfl
  · rw [if_neg (by simpa using hb)]
    have := law_l s l (by omega) (50201 - (l.length + 1)) (by omega) l.length 0 false (by omega) (by simp)
    rw [show l.length + 1 + (50201 - (l.length + 1)) = 50201 by omega] at this
    exact this
end Go.Proofs.Ytakjkgjbjannbaa.Pure
