/- ValueLists: the plain law over the printed functions: lists compare as the reference's, and all may be where each may be. No condition. -/
import Derived.Test.YtcpcnnpdbognlaaQValueListsx
import Derived.Test.YtcpcnnpdbognlaaValPure
import Derived.Test.YtcpcnnpdbognlaaOpen
import Derived.Laws.Strings
namespace Go.Proofs.Ytcpcnnpdbognlaa.VcValueLists
set_option linter.unusedVariables false
open Go.RowKit Go.Proofs.Ytcpcnnpdbognlaa.QValueLists Go.Proofs.Ytcpcnnpdbognlaa.ValPure Go.Proofs.YtcpcnnpdbognlaaW.PrintWords Go.Proofs.YtcpcnnpdbognlaaW.PrintLast
theorem kind_cmp (a b : Int) : value_Kind_70.f a b = some (cmpI a b) := by
  simp only [value_Kind_70.f, value_Kind_79.f, Option.bind_some, bne_self_eq_false, Bool.false_eq_true, if_false, cmpI]
  split <;> (try split) <;> rfl
theorem int_cmp (a b : Int) : cmp_Compare_int64.f a b = some (cmpI a b) := by
  simp only [cmp_Compare_int64.f, cmp_isNaN_int64.f, Option.bind_some, bne_self_eq_false, Bool.false_eq_true, if_false, cmpI]
  split <;> (try split) <;> rfl
theorem or_l0 (l : List Int) (hl : l.length ≤ 1000) (d : Nat) : ∀ (k j : Nat), l.length - j = d → j ≤ l.length → d < k → cmp_Or_int.l0 k 0 l (l.length : Int) j = some (or0 (l.drop j)) := by
  induction d with
  | zero =>
    intro k j hd hj hk
    obtain ⟨k, rfl⟩ : ∃ m, k = m + 1 := ⟨k - 1, by omega⟩
    simp only [cmp_Or_int.l0]
    rw [if_neg (by omega), List.drop_eq_nil_of_le (by omega)]; rfl
  | succ d ih =>
    intro k j hd hj hk
    obtain ⟨k, rfl⟩ : ∃ m, k = m + 1 := ⟨k - 1, by omega⟩
    have hlt : j < l.length := by omega
    have hdrop : l.drop j = l.getD j 0 :: l.drop (j + 1) := by
      rw [List.drop_eq_getElem_cons hlt]; simp [List.getD, hlt]
    have hrd : rd l (j : Int) = l.getD j 0 := rfl
    have hw : wrap64 ((j : Int) + 1) = ((j + 1 : Nat) : Int) := by unfold wrap64; omega
    simp only [cmp_Or_int.l0]
    rw [if_pos (by omega), if_pos (by omega), if_pos (by omega), hrd, hw, hdrop]
    by_cases h0 : l.getD j 0 = 0
    · rw [if_pos h0, ih k (j + 1) (by omega) (by omega) (by omega)]
      simp only [or0]; rw [if_pos h0]
    · rw [if_neg h0]; simp only [or0]; rw [if_neg h0]
theorem compare_f (k : Nat) (hk : 4 ≤ k) (a0 a1 : Int) (a2 : ByteArray) (b0 b1 : Int) (b2 : ByteArray) : value_Compare.f k a0 a1 a2 b0 b1 b2 = some (cmpV a0 a1 a2 b0 b1 b2) := by
  unfold value_Compare.f
  rw [kind_cmp, int_cmp]
  simp only [strings_Compare.f, Option.bind_some]
  unfold cmp_Or_int.f
  rw [show ((([cmpI a0 b0, cmpI a1 b1, Lib.compareBytes a2.data.toList b2.data.toList] : List Int).length : Int)) = (3 : Nat) from rfl]
  have := or_l0 [cmpI a0 b0, cmpI a1 b1, Lib.compareBytes a2.data.toList b2.data.toList] (by simp) 3 k 0 rfl (by simp) (by omega)
  rw [show ((0 : Nat) : Int) = 0 from rfl] at this
  simp only [List.length_cons, List.length_nil, Nat.zero_add, Nat.reduceAdd, List.drop_zero] at this
  rw [this]; rfl
theorem bt_nat (s : ByteArray) (i : Nat) (h : i < s.size) : bt s (i : Int) = ((s.data.toList[i]'(by rw [Array.length_toList]; exact h)).toNat : Int) := by
  unfold bt
  rw [dif_pos (by simpa using h)]; rfl
theorem drop_cons (s : ByteArray) (i : Nat) (h : i < s.size) : s.data.toList.drop i = (s.data.toList[i]'(by rw [Array.length_toList]; exact h)) :: s.data.toList.drop (i + 1) := by
  rw [List.drop_eq_getElem_cons (by rw [Array.length_toList]; exact h)]
theorem drop_none (s : ByteArray) (i : Nat) (h : s.size ≤ i) : s.data.toList.drop i = [] := List.drop_eq_nil_of_le (by rw [Array.length_toList]; exact h)
theorem less_l0 (a0 a1 : Int) (a2 : ByteArray) (b0 b1 : Int) (b2 : ByteArray) (ha : a2.size ≤ 140737488351232) (d : Nat) : ∀ (k i : Nat), a2.size - i = d → i ≤ a2.size → i ≤ b2.size → 2 * d + 2 ≤ k →
    easementref01_Less.l0 k i a0 a1 a2 b0 b1 b2 = some (decide (cmpB (a2.data.toList.drop i) (b2.data.toList.drop i) < 0)) := by
  induction d with
  | zero =>
    intro k i hd hi hi2 hk
    obtain ⟨k, rfl⟩ : ∃ m, k = m + 2 := ⟨k - 2, by omega⟩
    simp only [easementref01_Less.l0, easementref01_Less.j1]
    rw [if_neg (by omega), if_neg (by simp), drop_none a2 i (by omega)]
    by_cases h : i < b2.size
    · rw [drop_cons b2 i h]; simp [cmpB, Lib.compareBytes]; omega
    · rw [drop_none b2 i (by omega)]; simp [cmpB, Lib.compareBytes]; omega
  | succ d ih =>
    intro k i hd hi hi2 hk
    obtain ⟨k, rfl⟩ : ∃ m, k = m + 2 := ⟨k - 2, by omega⟩
    have h1 : i < a2.size := by omega
    simp only [easementref01_Less.l0, easementref01_Less.j1]
    rw [if_pos (by omega)]
    by_cases h : i < b2.size
    · have hdec : decide ((i : Int) < (b2.size : Int)) = true := by simpa using h
      rw [hdec, if_pos rfl, if_pos (by omega), if_pos (by omega), if_pos (by omega), bt_nat a2 i h1, bt_nat b2 i h, drop_cons a2 i h1, drop_cons b2 i h]
      have hw : wrap64 ((i : Int) + 1) = ((i + 1 : Nat) : Int) := by unfold wrap64; omega
      rw [hw, ih k (i + 1) (by omega) (by omega) (by omega) (by omega)]
      generalize a2.data.toList[i]'(by rw [Array.length_toList]; exact h1) = x
      generalize b2.data.toList[i]'(by rw [Array.length_toList]; exact h) = y
      simp only [cmpB, Lib.compareBytes, UInt8.lt_iff_toNat_lt]
      by_cases e : (x.toNat : Int) = y.toNat
      · rw [if_pos e, if_neg (by omega), if_neg (by omega)]
      · rw [if_neg e]
        by_cases l : x.toNat < y.toNat
        · rw [if_pos l]; simp [l]
        · rw [if_neg l, if_pos (by omega)]; simp; omega
    · have hdec : decide ((i : Int) < (b2.size : Int)) = false := by simpa using h
      rw [hdec, if_neg (by simp), drop_none b2 i (by omega), drop_cons a2 i h1]
      simp [cmpB, Lib.compareBytes]; omega
theorem less_f (k : Nat) (a0 a1 : Int) (a2 : ByteArray) (b0 b1 : Int) (b2 : ByteArray) (ha : a2.size ≤ 140737488351232) (hk : 2 * a2.size + 2 ≤ k) : easementref01_Less.f k a0 a1 a2 b0 b1 b2 = some (decide (cmpV a0 a1 a2 b0 b1 b2 < 0)) := by
  unfold easementref01_Less.f
  rw [cmpV_eq]
  have z0 := cmpI_zero a0 b0
  have z1 := cmpI_zero a1 b1
  have n0 := cmpI_neg a0 b0
  have n1 := cmpI_neg a1 b1
  by_cases e0 : a0 = b0
  · rw [if_pos e0, if_pos (z0.2 e0)]
    by_cases e1 : a1 = b1
    · rw [if_pos e1, if_pos (z1.2 e1)]
      have := less_l0 a0 a1 a2 b0 b1 b2 ha a2.size k 0 (by omega) (by omega) (by omega) (by omega)
      simpa using this
    · rw [if_neg e1, if_neg (fun h => e1 (z1.1 h))]
      simp [n1]
  · rw [if_neg e0, if_neg (fun h => e0 (z0.1 h))]
    simp [n0]
theorem refcmp_f (k : Nat) (a0 a1 : Int) (a2 : ByteArray) (b0 b1 : Int) (b2 : ByteArray) (ha : a2.size ≤ 140737488351232) (hb : b2.size ≤ 140737488351232) (hk : 2 * a2.size + 2 * b2.size + 2 ≤ k) : easementref01_Compare.f k a0 a1 a2 b0 b1 b2 = some (cmpV a0 a1 a2 b0 b1 b2) := by
  unfold easementref01_Compare.f
  rw [less_f k a0 a1 a2 b0 b1 b2 ha (by omega), less_f k b0 b1 b2 a0 a1 a2 hb (by omega), cmpV_swap a0 a1 a2 b0 b1 b2]
  simp only [Option.bind_some]
  rcases cmpV_range a0 a1 a2 b0 b1 b2 with h | h | h <;> rw [h] <;> rfl
def rightV (a0 a1 : Int) (a2 : ByteArray) : Bool := if a0 = 0 then a1 == 0 && a2.size == 0 else if a0 = 1 then (a1 == 0 || a1 == 1) && a2.size == 0 else if a0 = 2 then a2.size == 0 else if a0 = 3 then a1 == 0 && decide (a2.size ≤ 4096) else false
theorem empty_eq (s : ByteArray) : (s.toList == ([] : List UInt8)) = (s.size == 0) := by
  rw [ByteArray.toList_eq]
  have h : s.data.toList.length = s.size := by rw [Array.length_toList]; rfl
  cases hl : s.data.toList with
  | nil => rw [hl] at h; rw [← h]; rfl
  | cons x l => rw [hl] at h; rw [← h]; rfl
theorem refright_f (a0 a1 : Int) (a2 : ByteArray) : easementref01_Right.f a0 a1 a2 = some (rightV a0 a1 a2) := by
  unfold easementref01_Right.f rightV
  rw [empty_eq]
  split
  · by_cases h : a1 = 0 <;> simp [h]
  · split
    · by_cases h : a1 = 0
      · simp [h]
      · by_cases h' : a1 = 1 <;> simp [h, h']
    · split
      · rfl
      · split
        · by_cases h : a1 = 0
          · simp only [h, if_true]
            have : ((a2.size : Int) ≤ 4096) ↔ a2.size ≤ 4096 := by omega
            simp [this]
          · simp [h]
        · rfl
theorem right_f (a0 a1 : Int) (a2 : ByteArray) : value_Value_Right.f a0 a1 a2 = some (rightV a0 a1 a2) := by
  unfold value_Value_Right.f rightV
  have e : ((⟨#[]⟩ : ByteArray)).toList = ([] : List UInt8) := by rw [ByteArray.toList_eq]
  rw [empty_eq]
  split
  · rename_i h; simp [h]
  · split
    · rename_i h
      unfold value_Truth.f
      by_cases h1 : a1 = 1
      · simp only [h1, beq_self_eq_true, if_true, Option.bind_some, e, empty_eq]; simp [h]
      · have : (a1 == 1) = false := by simpa using h1
        simp only [this, Bool.false_eq_true, if_false, Option.bind_some, e, empty_eq]; simp [h]
    · split
      · rfl
      · split
        · by_cases h : a1 = 0
          · simp only [h, if_true]
            have : ((a2.size : Int) ≤ 4096) ↔ a2.size ≤ 4096 := by omega
            simp [this]
          · simp [h]
        · rfl

theorem intlen_cmp (a b : Int) : cmp_Compare_int.f a b = some (cmpI a b) := by
  simp only [cmp_Compare_int.f, cmp_isNaN_int.f, Option.bind_some, bne_self_eq_false, Bool.false_eq_true, if_false, cmpI]
  split <;> (try split) <;> rfl
def conv (x : S72) : S81 := ⟨x.f0, x.f1, x.f2⟩
abbrev vat (l : List S72) (i : Nat) : S72 := l.getD i z72
def cmpS (x y : S72) : Int := cmpV x.f0 x.f1 x.f2 y.f0 y.f1 y.f2
def G (l0 l1 : List S72) : Nat → Nat → Int
  | 0, _ => cmpI l0.length l1.length
  | d + 1, i => if cmpS (vat l0 i) (vat l1 i) = 0 then G l0 l1 d (i + 1) else cmpS (vat l0 i) (vat l1 i)
theorem lists_l0 (l0 l1 : List S72) (m : Nat) (hm0 : m ≤ l0.length) (hm1 : m ≤ l1.length) (hm : (m : Int) ≤ 140737488351232) (d : Nat) : ∀ (k i : Nat), m - i = d → i ≤ m → d + 5 ≤ k → value_Lists.l0 k l0 l1 m i = some (G l0 l1 d i) := by
  induction d with
  | zero =>
    intro k i hd hi hk
    obtain ⟨k, rfl⟩ : ∃ m, k = m + 1 := ⟨k - 1, by omega⟩
    simp only [value_Lists.l0]
    rw [if_neg (by omega), intlen_cmp]; rfl
  | succ d ih =>
    intro k i hd hi hk
    obtain ⟨k, rfl⟩ : ∃ m, k = m + 1 := ⟨k - 1, by omega⟩
    have hw : wrap64 ((i : Int) + 1) = ((i + 1 : Nat) : Int) := by unfold wrap64; omega
    have e0 : rd_T72 l0 (i : Int) = vat l0 i := rfl
    have e1 : rd_T72 l1 (i : Int) = vat l1 i := rfl
    simp only [value_Lists.l0]
    rw [if_pos (by omega), if_pos (by omega), if_pos (by omega), if_pos (by omega), compare_f k (by omega), Option.bind_some, e0, e1]
    unfold G
    by_cases h : cmpS (vat l0 i) (vat l1 i) = 0
    · have h' : cmpV (vat l0 i).f0 (vat l0 i).f1 (vat l0 i).f2 (vat l1 i).f0 (vat l1 i).f1 (vat l1 i).f2 = 0 := h
      rw [if_pos h', if_pos h, hw, ih k (i + 1) (by omega) (by omega) (by omega)]
    · have h' : ¬ cmpV (vat l0 i).f0 (vat l0 i).f1 (vat l0 i).f2 (vat l1 i).f0 (vat l1 i).f1 (vat l1 i).f2 = 0 := h
      rw [if_neg h', if_neg h]; rfl
theorem mn_nat (a b : Nat) : mn (a : Int) (b : Int) = ((min a b : Nat) : Int) := by unfold mn; split <;> omega
theorem lists_f (k : Nat) (l0 l1 : List S72) (h0 : l0.length ≤ 1000) (hk : l0.length + 5 ≤ k) : value_Lists.f k l0 l1 = some (G l0 l1 (min l0.length l1.length) 0) := by
  unfold value_Lists.f
  rw [mn_nat]
  have := lists_l0 l0 l1 (min l0.length l1.length) (by omega) (by omega) (by omega) (min l0.length l1.length) k 0 (by omega) (by omega) (by omega)
  simpa using this
theorem conv_at (l : List S72) (i : Nat) (h : i < l.length) : rd_T81 (l.map conv) (i : Int) = conv (vat l i) := by
  show (l.map conv).getD i z81 = conv (l.getD i z72)
  simp [List.getD, h]
def Small (l : List S72) : Prop := ∀ x ∈ l, x.f2.size ≤ 140737488351232
theorem small_at {l : List S72} (hs : Small l) (i : Nat) (h : i < l.length) : (vat l i).f2.size ≤ 140737488351232 := by
  have : vat l i = l[i] := by simp [vat, List.getD, h]
  rw [this]; exact hs _ (List.getElem_mem h)
theorem ref_l0 (l0 l1 : List S72) (s0 : Small l0) (s1 : Small l1) (h0 : l0.length ≤ 1000) (d : Nat) : ∀ (k i : Nat), min l0.length l1.length - i = d → i ≤ min l0.length l1.length → 2 * d + 562949953421400 ≤ k →
    easementref01_Lists.l0 k (l0.map conv) (l1.map conv) i = some (G l0 l1 d i) := by
  induction d with
  | zero =>
    intro k i hd hi hk
    obtain ⟨k, rfl⟩ : ∃ m, k = m + 2 := ⟨k - 2, by omega⟩
    simp only [easementref01_Lists.l0, easementref01_Lists.j1, List.length_map]
    have hfin : (if (l0.length : Int) < (l1.length : Int) then (some (-1)) else (if (l0.length : Int) > (l1.length : Int) then (some 1) else (some 0))) = some (cmpI l0.length l1.length) := by
      unfold cmpI; split <;> (try split) <;> rfl
    by_cases h : (i : Int) < (l0.length : Int)
    · have : decide ((i : Int) < (l1.length : Int)) = false := decide_eq_false (by omega)
      rw [if_pos h, this, if_neg (by simp), hfin]; rfl
    · rw [if_neg h, if_neg (by simp), hfin]; rfl
  | succ d ih =>
    intro k i hd hi hk
    obtain ⟨k, rfl⟩ : ∃ m, k = m + 2 := ⟨k - 2, by omega⟩
    have hw : wrap64 ((i : Int) + 1) = ((i + 1 : Nat) : Int) := by unfold wrap64; omega
    simp only [easementref01_Lists.l0, easementref01_Lists.j1, List.length_map]
    have hdec : decide ((i : Int) < (l1.length : Int)) = true := decide_eq_true (by omega)
    have z0 : (conv (vat l0 i)).f2.size ≤ 140737488351232 := small_at s0 i (by omega)
    have z1 : (conv (vat l1 i)).f2.size ≤ 140737488351232 := small_at s1 i (by omega)
    rw [if_pos (by omega), hdec, if_pos rfl, if_pos (by omega), if_pos (by omega), if_pos (by omega), conv_at l0 i (by omega), conv_at l1 i (by omega)]
    rw [refcmp_f k _ _ _ _ _ _ z0 z1 (by omega), Option.bind_some]
    unfold G
    by_cases h : cmpS (vat l0 i) (vat l1 i) = 0
    · have h' : cmpV (conv (vat l0 i)).f0 (conv (vat l0 i)).f1 (conv (vat l0 i)).f2 (conv (vat l1 i)).f0 (conv (vat l1 i)).f1 (conv (vat l1 i)).f2 = 0 := h
      rw [if_pos h', if_pos h, hw, ih k (i + 1) (by omega) (by omega) (by omega)]
    · have h' : ¬ cmpV (conv (vat l0 i)).f0 (conv (vat l0 i)).f1 (conv (vat l0 i)).f2 (conv (vat l1 i)).f0 (conv (vat l1 i)).f1 (conv (vat l1 i)).f2 = 0 := h
      rw [if_neg h', if_neg h]; rfl
theorem ref_f (k : Nat) (l0 l1 : List S72) (s0 : Small l0) (s1 : Small l1) (h0 : l0.length ≤ 1000) (hk : 562949953424000 ≤ k) : easementref01_Lists.f k (l0.map conv) (l1.map conv) = some (G l0 l1 (min l0.length l1.length) 0) := by
  unfold easementref01_Lists.f
  have := ref_l0 l0 l1 s0 s1 h0 (min l0.length l1.length) k 0 (by omega) (by omega) (by omega)
  simpa using this
theorem G_same (l : List S72) (d : Nat) : ∀ i, G l l d i = 0 := by
  induction d with
  | zero => intro i; exact (cmpI_zero _ _).2 rfl
  | succ d ih =>
    intro i
    unfold G
    have hz : cmpS (vat l i) (vat l i) = 0 := (cmpV_zero _ _ _ _ _ _).2 ⟨rfl, rfl, rfl⟩
    rw [if_pos hz]
    exact ih (i + 1)
def rightS (x : S72) : Bool := rightV x.f0 x.f1 x.f2
theorem take_snoc (l : List S72) (i : Nat) (h : i < l.length) : l.take (i + 1) = l.take i ++ [vat l i] := by
  rw [List.take_succ_eq_append_getElem h]; simp [vat, List.getD, h]
theorem drop_cons' (l : List S72) (i : Nat) (h : i < l.length) : l.drop i = vat l i :: l.drop (i + 1) := by
  rw [List.drop_eq_getElem_cons h]; simp [vat, List.getD, h]
theorem all_l0 (l : List S72) (h0 : l.length ≤ 1000) (d : Nat) : ∀ (k i : Nat), l.length - i = d → i ≤ l.length → d + 1 ≤ k → value_All.l0 k l (l.length : Int) i = some ((l.drop i).all rightS) := by
  induction d with
  | zero =>
    intro k i hd hi hk
    obtain ⟨k, rfl⟩ : ∃ m, k = m + 1 := ⟨k - 1, by omega⟩
    simp only [value_All.l0]
    rw [if_neg (by omega), List.drop_eq_nil_of_le (by omega)]; rfl
  | succ d ih =>
    intro k i hd hi hk
    obtain ⟨k, rfl⟩ : ∃ m, k = m + 1 := ⟨k - 1, by omega⟩
    have hw : wrap64 ((i : Int) + 1) = ((i + 1 : Nat) : Int) := by unfold wrap64; omega
    have e0 : rd_T72 l (i : Int) = vat l i := rfl
    simp only [value_All.l0]
    rw [if_pos (by omega), if_pos (by omega), if_pos (by omega), right_f, Option.bind_some, e0, drop_cons' l i (by omega), List.all_cons]
    by_cases h : rightS (vat l i) = true
    · have h' : rightV (vat l i).f0 (vat l i).f1 (vat l i).f2 = true := h
      rw [if_pos h', hw, ih k (i + 1) (by omega) (by omega) (by omega), h, Bool.true_and]
    · have h' : ¬ rightV (vat l i).f0 (vat l i).f1 (vat l i).f2 = true := h
      have hf : rightS (vat l i) = false := by simpa using h
      rw [if_neg h', hf, Bool.false_and]
theorem all_f (k : Nat) (l : List S72) (h0 : l.length ≤ 1000) (hk : l.length + 1 ≤ k) : value_All.f k l = some (l.all rightS) := by
  unfold value_All.f
  have := all_l0 l h0 l.length k 0 (by omega) (by omega) (by omega)
  simpa using this
theorem law_end (k : Nat) (l0 l1 : List S72) (s0 : Small l0) (s1 : Small l1) (h0 : l0.length ≤ 1000) (h1 : l1.length ≤ 1000) (d : Nat) : ∀ (k i : Nat), l1.length - i = d → i ≤ l1.length → 562949953425000 + d ≤ k →
    easementlaw01_ValueLists.l1 k l0 l1 (l0.map conv) ((l1.take i).map conv) (l0.all rightS) l1 (l1.length : Int) i = some true := by
  induction d with
  | zero =>
    intro k i hd hi hk
    obtain ⟨k, rfl⟩ : ∃ m, k = m + 1 := ⟨k - 1, by omega⟩
    simp only [easementlaw01_ValueLists.l1]
    rw [if_neg (by omega), List.take_of_length_le (by omega), lists_f k l0 l1 h0 (by omega), Option.bind_some, ref_f k l0 l1 s0 s1 h0 (by omega), Option.bind_some, if_pos rfl, all_f k l0 h0 (by omega), Option.bind_some, if_pos (by simp), lists_f k l0 l0 h0 (by omega), Option.bind_some, G_same]
    rfl
  | succ d ih =>
    intro k i hd hi hk
    obtain ⟨k, rfl⟩ : ∃ m, k = m + 1 := ⟨k - 1, by omega⟩
    have hw : wrap64 ((i : Int) + 1) = ((i + 1 : Nat) : Int) := by unfold wrap64; omega
    have e0 : rd_T72 l1 (i : Int) = vat l1 i := rfl
    simp only [easementlaw01_ValueLists.l1]
    rw [if_pos (by omega), if_pos (by omega), if_pos (by omega)]
    simp only [easementlaw01_of.f, Option.bind_some, e0, hw]
    rw [if_pos (by rw [List.length_map, List.length_take]; omega)]
    have := ih k (i + 1) (by omega) (by omega) (by omega)
    rw [take_snoc l1 i (by omega), List.map_append] at this
    exact this
theorem law_mid (k : Nat) (l0 l1 : List S72) (s0 : Small l0) (s1 : Small l1) (h0 : l0.length ≤ 1000) (h1 : l1.length ≤ 1000) (d : Nat) : ∀ (k i : Nat), l0.length - i = d → i ≤ l0.length → 562949953427000 + d ≤ k →
    easementlaw01_ValueLists.l0 k l0 l1 ((l0.take i).map conv) ((l0.take i).all rightS) l0 (l0.length : Int) i = some true := by
  induction d with
  | zero =>
    intro k i hd hi hk
    obtain ⟨k, rfl⟩ : ∃ m, k = m + 1 := ⟨k - 1, by omega⟩
    simp only [easementlaw01_ValueLists.l0]
    rw [if_neg (by omega), List.take_of_length_le (by omega)]
    have := law_end k l0 l1 s0 s1 h0 h1 l1.length k 0 (by omega) (by omega) (by omega)
    simpa using this
  | succ d ih =>
    intro k i hd hi hk
    obtain ⟨k, rfl⟩ : ∃ m, k = m + 1 := ⟨k - 1, by omega⟩
    have hw : wrap64 ((i : Int) + 1) = ((i + 1 : Nat) : Int) := by unfold wrap64; omega
    have e0 : rd_T72 l0 (i : Int) = vat l0 i := rfl
    have this := ih k (i + 1) (by omega) (by omega) (by omega)
    rw [take_snoc l0 i (by omega), List.map_append, List.all_append] at this
    simp only [easementlaw01_ValueLists.l0]
    rw [if_pos (by omega), if_pos (by omega), if_pos (by omega)]
    simp only [easementlaw01_of.f, Option.bind_some, e0, hw]
    rw [if_pos (by rw [List.length_map, List.length_take]; omega), refright_f, Option.bind_some]
    by_cases h : (l0.take i).all rightS = true
    · rw [if_pos h]
      rw [h, Bool.true_and] at this
      simp only [List.all_cons, List.all_nil, Bool.and_true] at this
      exact this
    · have h' : (l0.take i).all rightS = false := by simpa using h
      rw [if_neg h]
      rw [h', Bool.false_and] at this
      exact this
theorem law_f (l0 l1 : List S72) (s0 : Small l0) (s1 : Small l1) (y0 : (l0.length : Int) ≤ 140737488351232) (y1 : (l1.length : Int) ≤ 140737488351232) : easementlaw01_ValueLists.f (562949953429001 : Nat) l0 l1 = some true := by
  have key : ∀ b, (b = false → l0.length + l1.length ≤ 100) → easementlaw01_ValueLists.j0 (562949953429000 + 1) l0 l1 b = some true := by
    intro b hb
    simp only [easementlaw01_ValueLists.j0]
    cases b with
    | true => rw [if_pos rfl]; rfl
    | false =>
      have hb := hb rfl
      rw [if_neg (by simp)]
      have := law_mid 562949953429000 l0 l1 s0 s1 (by omega) (by omega) l0.length 562949953429000 0 (by omega) (by omega) (by omega)
      simpa using this
  unfold easementlaw01_ValueLists.f
  rw [show easementlaw01_lives.f = some true from rfl, Option.bind_some, if_pos rfl]
  refine key _ (fun h => ?_)
  have h := of_decide_eq_false h
  unfold wrap64 at h
  omega
def mk (x : Int × Int × ByteArray) : S72 := ⟨x.1, x.2.1, x.2.2⟩
theorem walk (A0 : Option Addr) (c0 : Nat) (x0 : List ((Int) × (Int) × (ByteArray))) (A1 : Option Addr) (c1 : Nat) (x1 : List ((Int) × (Int) × (ByteArray))) (W : World) (l0 : x0.length ≤ c0) (C0 : Kd.C (Kd.pair (Kd.int .u8) (Kd.pair (Kd.int .i64) Kd.string)) W A0 x0.length x0) (p0 : (x0.length ≤ maxLen ∧ x0.length * Try.prog.bytesOf 72 ≤ 140737488351232 ∧ ∀ x ∈ x0, ((IntKind.u8.min ≤ x.1 ∧ x.1 ≤ IntKind.u8.max) ∧ ((IntKind.i64.min ≤ x.2.1 ∧ x.2.1 ≤ IntKind.i64.max) ∧ (x.2.2.size ≤ 140737488351232))))) (l1 : x1.length ≤ c1) (C1 : Kd.C (Kd.pair (Kd.int .u8) (Kd.pair (Kd.int .i64) Kd.string)) W A1 x1.length x1) (p1 : (x1.length ≤ maxLen ∧ x1.length * Try.prog.bytesOf 72 ≤ 140737488351232 ∧ ∀ x ∈ x1, ((IntKind.u8.min ≤ x.1 ∧ x.1 ≤ IntKind.u8.max) ∧ ((IntKind.i64.min ≤ x.2.1 ∧ x.2.1 ≤ IntKind.i64.max) ∧ (x.2.2.size ≤ 140737488351232))))) :
    Calls Try.prog 16 #[.slice A0 x0.length c0, .slice A1 x1.length c1] W fun e W' => e = .returned (.bool true) ∧ Below W.heap.size W W' := by
  have q0 : x0.length = (x0.map mk).length := by rw [List.length_map]
  have q1 : x1.length = (x1.map mk).length := by rw [List.length_map]
  have D0 := Open.C_iso (fun x : S72 => (x.f0, x.f1, x.f2)) mk (fun _ => rfl) C0
  have D1 := Open.C_iso (fun x : S72 => (x.f0, x.f1, x.f2)) mk (fun _ => rfl) C1
  have b : Try.prog.bytesOf 72 = 32 := by kernel_rfl
  rw [b] at p0 p1
  have S0 : Small (x0.map mk) := by
    intro x hx
    obtain ⟨y, hy, rfl⟩ := List.mem_map.1 hx
    exact (p0.2.2 y hy).2.2
  have S1 : Small (x1.map mk) := by
    intro x hx
    obtain ⟨y, hy, rfl⟩ := List.mem_map.1 hx
    exact (p1.2.2 y hy).2.2
  rw [q0, q1]
  rw [q0] at D0 l0
  rw [q1] at D1 l1
  exact easementlaw01_ValueLists.calls _ A0 c0 (x0.map mk) A1 c1 (x1.map mk) true W D0 l0 D1 l1 (law_f _ _ S0 S1 (by rw [← q0]; omega) (by rw [← q1]; omega))
end Go.Proofs.Ytcpcnnpdbognlaa.VcValueLists
