/- reply: the printed functions as plain functions of lists. -/
import Derived.Test.YtaoacibahdbdkaaQReplySamex4
import Derived.Test.YtaoacibahdbdkaaValPure
import Derived.Laws.Strings
namespace Go.Proofs.Ytaoacibahdbdkaa.Rep
set_option linter.unusedVariables false
open Go.RowKit Go.Proofs.Ytaoacibahdbdkaa.QReplySame Go.Proofs.Ytaoacibahdbdkaa.ValPure Go.Proofs.YtaoacibahdbdkaaW.PrintWords Go.Proofs.YtaoacibahdbdkaaW.PrintLast
theorem kind_cmp (a b : Int) : value_Kind_112.f a b = some (cmpI a b) := by
  simp only [value_Kind_112.f, value_Kind_134.f, Option.bind_some, bne_self_eq_false, Bool.false_eq_true, if_false, cmpI]
  split <;> (try split) <;> rfl
theorem int_cmp (a b : Int) : cmp_Compare_int64.f a b = some (cmpI a b) := by
  simp only [cmp_Compare_int64.f, cmp_isNaN_int64.f, Option.bind_some, bne_self_eq_false, Bool.false_eq_true, if_false, cmpI]
  split <;> (try split) <;> rfl
theorem or_l0 (l : List Int) (hl : l.length ≤ 100000) (d : Nat) : ∀ (k j : Nat), l.length - j = d → j ≤ l.length → d < k → cmp_Or_int.l0 k 0 l (l.length : Int) j = some (or0 (l.drop j)) := by
  induction d with
  | zero =>
    intro k j hd hj hk
    obtain ⟨k, rfl⟩ : ∃ m, k = m + 1 := ⟨k - 1, by omega⟩
    simp only [cmp_Or_int.l0]
    rw [if_neg (by omega), List.drop_eq_nil_of_le (by omega)]; rfl
  | succ d ih =>
    intro k j hd hj hk
    obtain ⟨k, rfl⟩ : ∃ m, k = m + 1 := ⟨k - 1, by omega⟩
    have hlt : j < l.length := by omega
    have hdrop : l.drop j = l.getD j 0 :: l.drop (j + 1) := by
      rw [List.drop_eq_getElem_cons hlt]; simp [List.getD, hlt]
    have hrd : rd l (j : Int) = l.getD j 0 := rfl
    have hw : wrap64 ((j : Int) + 1) = ((j + 1 : Nat) : Int) := by unfold wrap64; omega
    simp only [cmp_Or_int.l0]
    rw [if_pos (by omega), if_pos (by omega), if_pos (by omega), hrd, hw, hdrop]
    by_cases h0 : l.getD j 0 = 0
    · rw [if_pos h0, ih k (j + 1) (by omega) (by omega) (by omega)]
      simp only [or0]; rw [if_pos h0]
    · rw [if_neg h0]; simp only [or0]; rw [if_neg h0]
theorem compare_f (k : Nat) (hk : 4 ≤ k) (a0 a1 : Int) (a2 : ByteArray) (b0 b1 : Int) (b2 : ByteArray) : value_Compare.f k a0 a1 a2 b0 b1 b2 = some (cmpV a0 a1 a2 b0 b1 b2) := by
  unfold value_Compare.f
  rw [kind_cmp, int_cmp]
  simp only [strings_Compare.f, Option.bind_some]
  unfold cmp_Or_int.f
  rw [show ((([cmpI a0 b0, cmpI a1 b1, Lib.compareBytes a2.data.toList b2.data.toList] : List Int).length : Int)) = (3 : Nat) from rfl]
  have := or_l0 [cmpI a0 b0, cmpI a1 b1, Lib.compareBytes a2.data.toList b2.data.toList] (by simp) 3 k 0 rfl (by simp) (by omega)
  rw [show ((0 : Nat) : Int) = 0 from rfl] at this
  simp only [List.length_cons, List.length_nil, Nat.zero_add, Nat.reduceAdd, List.drop_zero] at this
  rw [this]; rfl
def rightV (a0 a1 : Int) (a2 : ByteArray) : Bool := if a0 = 0 then a1 == 0 && a2.size == 0 else if a0 = 1 then (a1 == 0 || a1 == 1) && a2.size == 0 else if a0 = 2 then a2.size == 0 else if a0 = 3 then a1 == 0 && decide (a2.size ≤ 4096) else false
theorem empty_eq (s : ByteArray) : (s.toList == ([] : List UInt8)) = (s.size == 0) := by
  rw [ByteArray.toList_eq]
  have h : s.data.toList.length = s.size := by rw [Array.length_toList]; rfl
  cases hl : s.data.toList with
  | nil => rw [hl] at h; rw [← h]; rfl
  | cons x l => rw [hl] at h; rw [← h]; rfl
theorem right_f (a0 a1 : Int) (a2 : ByteArray) : value_Value_Right.f a0 a1 a2 = some (rightV a0 a1 a2) := by
  unfold value_Value_Right.f rightV
  have e : ((⟨#[]⟩ : ByteArray)).toList = ([] : List UInt8) := by rw [ByteArray.toList_eq]
  rw [empty_eq]
  split
  · rename_i h; simp [h]
  · split
    · rename_i h
      unfold value_Truth.f
      by_cases h1 : a1 = 1
      · simp only [h1, beq_self_eq_true, if_true, Option.bind_some, e, empty_eq]; simp [h]
      · have : (a1 == 1) = false := by simpa using h1
        simp only [this, Bool.false_eq_true, if_false, Option.bind_some, e, empty_eq]; simp [h]
    · split
      · rfl
      · split
        · by_cases h : a1 = 0
          · simp only [h, if_true]
            have : ((a2.size : Int) ≤ 4096) ↔ a2.size ≤ 4096 := by omega
            simp [this]
          · simp [h]
        · rfl

theorem intlen_cmp (a b : Int) : cmp_Compare_int.f a b = some (cmpI a b) := by
  simp only [cmp_Compare_int.f, cmp_isNaN_int.f, Option.bind_some, bne_self_eq_false, Bool.false_eq_true, if_false, cmpI]
  split <;> (try split) <;> rfl
abbrev vat (l : List S54) (i : Nat) : S54 := l.getD i z54
def cmpS (x y : S54) : Int := cmpV x.f0 x.f1 x.f2 y.f0 y.f1 y.f2
def G (l0 l1 : List S54) : Nat → Nat → Int
  | 0, _ => cmpI l0.length l1.length
  | d + 1, i => if cmpS (vat l0 i) (vat l1 i) = 0 then G l0 l1 d (i + 1) else cmpS (vat l0 i) (vat l1 i)
theorem lists_l0 (l0 l1 : List S54) (m : Nat) (hm0 : m ≤ l0.length) (hm1 : m ≤ l1.length) (hm : (m : Int) ≤ 140737488351232) (d : Nat) : ∀ (k i : Nat), m - i = d → i ≤ m → d + 5 ≤ k → value_Lists.l0 k l0 l1 m i = some (G l0 l1 d i) := by
  induction d with
  | zero =>
    intro k i hd hi hk
    obtain ⟨k, rfl⟩ : ∃ m, k = m + 1 := ⟨k - 1, by omega⟩
    simp only [value_Lists.l0]
    rw [if_neg (by omega), intlen_cmp]; rfl
  | succ d ih =>
    intro k i hd hi hk
    obtain ⟨k, rfl⟩ : ∃ m, k = m + 1 := ⟨k - 1, by omega⟩
    have hw : wrap64 ((i : Int) + 1) = ((i + 1 : Nat) : Int) := by unfold wrap64; omega
    have e0 : rd_T54 l0 (i : Int) = vat l0 i := rfl
    have e1 : rd_T54 l1 (i : Int) = vat l1 i := rfl
    simp only [value_Lists.l0]
    rw [if_pos (by omega), if_pos (by omega), if_pos (by omega), if_pos (by omega), compare_f k (by omega), Option.bind_some, e0, e1]
    unfold G
    by_cases h : cmpS (vat l0 i) (vat l1 i) = 0
    · have h' : cmpV (vat l0 i).f0 (vat l0 i).f1 (vat l0 i).f2 (vat l1 i).f0 (vat l1 i).f1 (vat l1 i).f2 = 0 := h
      rw [if_pos h', if_pos h, hw, ih k (i + 1) (by omega) (by omega) (by omega)]
    · have h' : ¬ cmpV (vat l0 i).f0 (vat l0 i).f1 (vat l0 i).f2 (vat l1 i).f0 (vat l1 i).f1 (vat l1 i).f2 = 0 := h
      rw [if_neg h', if_neg h]; rfl
theorem mn_nat (a b : Nat) : mn (a : Int) (b : Int) = ((min a b : Nat) : Int) := by unfold mn; split <;> omega
theorem lists_f (k : Nat) (l0 l1 : List S54) (h0 : l0.length ≤ 100000) (hk : l0.length + 5 ≤ k) : value_Lists.f k l0 l1 = some (G l0 l1 (min l0.length l1.length) 0) := by
  unfold value_Lists.f
  rw [mn_nat]
  have := lists_l0 l0 l1 (min l0.length l1.length) (by omega) (by omega) (by omega) (min l0.length l1.length) k 0 (by omega) (by omega) (by omega)
  simpa using this
theorem G_same (l : List S54) (d : Nat) : ∀ i, G l l d i = 0 := by
  induction d with
  | zero => intro i; exact (cmpI_zero _ _).2 rfl
  | succ d ih =>
    intro i
    unfold G
    have hz : cmpS (vat l i) (vat l i) = 0 := (cmpV_zero _ _ _ _ _ _).2 ⟨rfl, rfl, rfl⟩
    rw [if_pos hz]
    exact ih (i + 1)
def rightS (x : S54) : Bool := rightV x.f0 x.f1 x.f2
theorem drop_cons' (l : List S54) (i : Nat) (h : i < l.length) : l.drop i = vat l i :: l.drop (i + 1) := by
  rw [List.drop_eq_getElem_cons h]; simp [vat, List.getD, h]
theorem all_l0 (l : List S54) (h0 : l.length ≤ 100000) (d : Nat) : ∀ (k i : Nat), l.length - i = d → i ≤ l.length → d + 1 ≤ k → value_All.l0 k l (l.length : Int) i = some ((l.drop i).all rightS) := by
  induction d with
  | zero =>
    intro k i hd hi hk
    obtain ⟨k, rfl⟩ : ∃ m, k = m + 1 := ⟨k - 1, by omega⟩
    simp only [value_All.l0]
    rw [if_neg (by omega), List.drop_eq_nil_of_le (by omega)]; rfl
  | succ d ih =>
    intro k i hd hi hk
    obtain ⟨k, rfl⟩ : ∃ m, k = m + 1 := ⟨k - 1, by omega⟩
    have hw : wrap64 ((i : Int) + 1) = ((i + 1 : Nat) : Int) := by unfold wrap64; omega
    have e0 : rd_T54 l (i : Int) = vat l i := rfl
    simp only [value_All.l0]
    rw [if_pos (by omega), if_pos (by omega), if_pos (by omega), right_f, Option.bind_some, e0, drop_cons' l i (by omega), List.all_cons]
    by_cases h : rightS (vat l i) = true
    · have h' : rightV (vat l i).f0 (vat l i).f1 (vat l i).f2 = true := h
      rw [if_pos h', hw, ih k (i + 1) (by omega) (by omega) (by omega), h, Bool.true_and]
    · have h' : ¬ rightV (vat l i).f0 (vat l i).f1 (vat l i).f2 = true := h
      have hf : rightS (vat l i) = false := by simpa using h
      rw [if_neg h', hf, Bool.false_and]
theorem all_f (k : Nat) (l : List S54) (h0 : l.length ≤ 100000) (hk : l.length + 1 ≤ k) : value_All.f k l = some (l.all rightS) := by
  unfold value_All.f
  have := all_l0 l h0 l.length k 0 (by omega) (by omega) (by omega)
  simpa using this
theorem S54_ext {x y : S54} (h0 : x.f0 = y.f0) (h1 : x.f1 = y.f1) (h2 : x.f2 = y.f2) : x = y := by cases x; cases y; simp_all
theorem cmpS_zero (x y : S54) : cmpS x y = 0 ↔ x = y := by
  constructor
  · intro h; obtain ⟨a, b, c⟩ := (cmpV_zero _ _ _ _ _ _).1 h; exact S54_ext a b c
  · rintro rfl; exact (cmpV_zero _ _ _ _ _ _).2 ⟨rfl, rfl, rfl⟩
theorem G_zero (l0 l1 : List S54) (d : Nat) : ∀ i, G l0 l1 d i = 0 ↔ (l0.length = l1.length ∧ ∀ j, i ≤ j → j < i + d → vat l0 j = vat l1 j) := by
  induction d with
  | zero =>
    intro i
    unfold G
    rw [cmpI_zero]
    constructor
    · intro h; exact ⟨by omega, fun j h1 h2 => by omega⟩
    · intro h; have := h.1; omega
  | succ d ih =>
    intro i
    unfold G
    by_cases h : cmpS (vat l0 i) (vat l1 i) = 0
    · rw [if_pos h, ih]
      constructor
      · rintro ⟨h1, h2⟩
        refine ⟨h1, fun j a b => ?_⟩
        by_cases e : j = i
        · rw [e]; exact (cmpS_zero _ _).1 h
        · exact h2 j (by omega) (by omega)
      · rintro ⟨h1, h2⟩
        exact ⟨h1, fun j a b => h2 j (by omega) (by omega)⟩
    · rw [if_neg h]
      constructor
      · intro e; exact absurd e h
      · rintro ⟨_, h2⟩
        exact absurd ((cmpS_zero _ _).2 (h2 i (Nat.le_refl _) (by omega))) h
theorem G_eq (l0 l1 : List S54) : G l0 l1 (min l0.length l1.length) 0 = 0 ↔ l0 = l1 := by
  rw [G_zero]
  constructor
  · rintro ⟨h1, h2⟩
    refine List.ext_getElem h1 (fun j a b => ?_)
    have := h2 j (by omega) (by omega)
    simpa [vat, List.getD, a, b] using this
  · rintro rfl
    exact ⟨rfl, fun _ _ _ => rfl⟩
instance : DecidableEq S54 := fun x y => if h : x.f0 = y.f0 ∧ x.f1 = y.f1 ∧ x.f2 = y.f2 then isTrue (S54_ext h.1 h.2.1 h.2.2) else isFalse (fun e => h (by rw [e]; exact ⟨rfl, rfl, rfl⟩))
/-- Two replies are one. -/
def sameR (e0 : Int) (h0 g0 : Int) (l0 : List S54) (e1 : Int) (h1 g1 : Int) (l1 : List S54) : Bool := decide (e0 = e1) && (decide (h0 = h1) && decide (g0 = g1)) && decide (l0 = l1)
theorem same_f (k : Nat) (e0 h0 g0 : Int) (l0 : List S54) (e1 h1 g1 : Int) (l1 : List S54) (hl : l0.length ≤ 100000) (hk : l0.length + 5 ≤ k) : reply_Same.f k e0 h0 g0 l0 e1 h1 g1 l1 = some (sameR e0 h0 g0 l0 e1 h1 g1 l1) := by
  unfold reply_Same.f sameR
  rw [lists_f k l0 l1 hl hk]
  have hG : (G l0 l1 (min l0.length l1.length) 0 == 0) = decide (l0 = l1) := by
    rw [Bool.eq_iff_iff, beq_iff_eq, decide_eq_true_iff]; exact G_eq l0 l1
  by_cases a : e0 = e1
  · rw [if_pos a]
    by_cases b : h0 = h1 <;> by_cases c : g0 = g1
    · simp [a, b, c, hG]
    · simp [a, b, c]
    · simp [a, b, c]
    · simp [a, b, c]
  · rw [if_neg a]; simp [a]
def rightR (e h g : Int) (l : List S54) : Bool := decide (0 ≤ e) && decide (e ≤ 14) && l.all rightS && decide (l.length ≤ 128) && (decide (e = 0) || (decide (h = 0) && decide (g = 0) && decide (l.length = 0)))
theorem rright_f (k : Nat) (e h g : Int) (l : List S54) (hl : l.length ≤ 100000) (hk : l.length + 1 ≤ k) : reply_Reply_Right.f k e h g l = some (rightR e h g l) := by
  unfold reply_Reply_Right.f rightR
  rw [all_f k l hl hk]
  by_cases a : e < 0
  · rw [if_pos a]
    have : ¬ 0 ≤ e := by omega
    simp [this]
  rw [if_neg a]
  have a' : 0 ≤ e := by omega
  by_cases b : e > 14
  · rw [if_pos b]
    have : ¬ e ≤ 14 := by omega
    simp [this]
  rw [if_neg b]
  have b' : e ≤ 14 := by omega
  simp only [Option.bind_some]
  cases hc : l.all rightS
  · simp
  rw [if_pos rfl]
  by_cases d : (l.length : Int) > 128
  · rw [if_pos d]
    have : ¬ l.length ≤ 128 := by omega
    simp [this]
  rw [if_neg d]
  have d' : l.length ≤ 128 := by omega
  by_cases f : e = 0
  · rw [if_pos f]; simp [d', f]
  rw [if_neg f]
  by_cases i : h = 0 <;> by_cases j : g = 0
  · have z : ((l.length : Int) == 0) = decide (l.length = 0) := by rw [Bool.eq_iff_iff]; simp
    rw [z]
    simp [i, j, a', b', d', f]
  · simp [i, j, f]
  · simp [i, j, f]
  · simp [i, j, f]
end Go.Proofs.Ytaoacibahdbdkaa.Rep
