/- ValueOrder: the plain law over the printed functions: the comparison is the reference's, both ways round, and the values that may be are the same. No condition. -/
import Derived.Test.YtcpcnnpdbognlaaQValueOrderx
import Derived.Test.YtcpcnnpdbognlaaValPure
import Derived.Laws.Strings
namespace Go.Proofs.Ytcpcnnpdbognlaa.VcValueOrder
set_option linter.unusedVariables false
open Go.RowKit Go.Proofs.Ytcpcnnpdbognlaa.QValueOrder Go.Proofs.Ytcpcnnpdbognlaa.ValPure Go.Proofs.YtcpcnnpdbognlaaW.PrintWords Go.Proofs.YtcpcnnpdbognlaaW.PrintLast
theorem kind_cmp (a b : Int) : value_Kind_70.f a b = some (cmpI a b) := by
  simp only [value_Kind_70.f, value_Kind_79.f, Option.bind_some, bne_self_eq_false, Bool.false_eq_true, if_false, cmpI]
  split <;> (try split) <;> rfl
theorem int_cmp (a b : Int) : cmp_Compare_int64.f a b = some (cmpI a b) := by
  simp only [cmp_Compare_int64.f, cmp_isNaN_int64.f, Option.bind_some, bne_self_eq_false, Bool.false_eq_true, if_false, cmpI]
  split <;> (try split) <;> rfl
theorem or_l0 (l : List Int) (hl : l.length ≤ 1000) (d : Nat) : ∀ (k j : Nat), l.length - j = d → j ≤ l.length → d < k → cmp_Or_int.l0 k 0 l (l.length : Int) j = some (or0 (l.drop j)) := by
  induction d with
  | zero =>
    intro k j hd hj hk
    obtain ⟨k, rfl⟩ : ∃ m, k = m + 1 := ⟨k - 1, by omega⟩
    simp only [cmp_Or_int.l0]
    rw [if_neg (by omega), List.drop_eq_nil_of_le (by omega)]; rfl
  | succ d ih =>
    intro k j hd hj hk
    obtain ⟨k, rfl⟩ : ∃ m, k = m + 1 := ⟨k - 1, by omega⟩
    have hlt : j < l.length := by omega
    have hdrop : l.drop j = l.getD j 0 :: l.drop (j + 1) := by
      rw [List.drop_eq_getElem_cons hlt]; simp [List.getD, hlt]
    have hrd : rd l (j : Int) = l.getD j 0 := rfl
    have hw : wrap64 ((j : Int) + 1) = ((j + 1 : Nat) : Int) := by unfold wrap64; omega
    simp only [cmp_Or_int.l0]
    rw [if_pos (by omega), if_pos (by omega), if_pos (by omega), hrd, hw, hdrop]
    by_cases h0 : l.getD j 0 = 0
    · rw [if_pos h0, ih k (j + 1) (by omega) (by omega) (by omega)]
      simp only [or0]; rw [if_pos h0]
    · rw [if_neg h0]; simp only [or0]; rw [if_neg h0]
theorem compare_f (k : Nat) (hk : 4 ≤ k) (a0 a1 : Int) (a2 : ByteArray) (b0 b1 : Int) (b2 : ByteArray) : value_Compare.f k a0 a1 a2 b0 b1 b2 = some (cmpV a0 a1 a2 b0 b1 b2) := by
  unfold value_Compare.f
  rw [kind_cmp, int_cmp]
  simp only [strings_Compare.f, Option.bind_some]
  unfold cmp_Or_int.f
  rw [show ((([cmpI a0 b0, cmpI a1 b1, Lib.compareBytes a2.data.toList b2.data.toList] : List Int).length : Int)) = (3 : Nat) from rfl]
  have := or_l0 [cmpI a0 b0, cmpI a1 b1, Lib.compareBytes a2.data.toList b2.data.toList] (by simp) 3 k 0 rfl (by simp) (by omega)
  rw [show ((0 : Nat) : Int) = 0 from rfl] at this
  simp only [List.length_cons, List.length_nil, Nat.zero_add, Nat.reduceAdd, List.drop_zero] at this
  rw [this]; rfl
theorem bt_nat (s : ByteArray) (i : Nat) (h : i < s.size) : bt s (i : Int) = ((s.data.toList[i]'(by rw [Array.length_toList]; exact h)).toNat : Int) := by
  unfold bt
  rw [dif_pos (by simpa using h)]; rfl
theorem drop_cons (s : ByteArray) (i : Nat) (h : i < s.size) : s.data.toList.drop i = (s.data.toList[i]'(by rw [Array.length_toList]; exact h)) :: s.data.toList.drop (i + 1) := by
  rw [List.drop_eq_getElem_cons (by rw [Array.length_toList]; exact h)]
theorem drop_none (s : ByteArray) (i : Nat) (h : s.size ≤ i) : s.data.toList.drop i = [] := List.drop_eq_nil_of_le (by rw [Array.length_toList]; exact h)
theorem less_l0 (a0 a1 : Int) (a2 : ByteArray) (b0 b1 : Int) (b2 : ByteArray) (ha : a2.size ≤ 140737488351232) (d : Nat) : ∀ (k i : Nat), a2.size - i = d → i ≤ a2.size → i ≤ b2.size → 2 * d + 2 ≤ k →
    easementref01_Less.l0 k i a0 a1 a2 b0 b1 b2 = some (decide (cmpB (a2.data.toList.drop i) (b2.data.toList.drop i) < 0)) := by
  induction d with
  | zero =>
    intro k i hd hi hi2 hk
    obtain ⟨k, rfl⟩ : ∃ m, k = m + 2 := ⟨k - 2, by omega⟩
    simp only [easementref01_Less.l0, easementref01_Less.j1]
    rw [if_neg (by omega), if_neg (by simp), drop_none a2 i (by omega)]
    by_cases h : i < b2.size
    · rw [drop_cons b2 i h]; simp [cmpB, Lib.compareBytes]; omega
    · rw [drop_none b2 i (by omega)]; simp [cmpB, Lib.compareBytes]; omega
  | succ d ih =>
    intro k i hd hi hi2 hk
    obtain ⟨k, rfl⟩ : ∃ m, k = m + 2 := ⟨k - 2, by omega⟩
    have h1 : i < a2.size := by omega
    simp only [easementref01_Less.l0, easementref01_Less.j1]
    rw [if_pos (by omega)]
    by_cases h : i < b2.size
    · have hdec : decide ((i : Int) < (b2.size : Int)) = true := by simpa using h
      rw [hdec, if_pos rfl, if_pos (by omega), if_pos (by omega), if_pos (by omega), bt_nat a2 i h1, bt_nat b2 i h, drop_cons a2 i h1, drop_cons b2 i h]
      have hw : wrap64 ((i : Int) + 1) = ((i + 1 : Nat) : Int) := by unfold wrap64; omega
      rw [hw, ih k (i + 1) (by omega) (by omega) (by omega) (by omega)]
      generalize a2.data.toList[i]'(by rw [Array.length_toList]; exact h1) = x
      generalize b2.data.toList[i]'(by rw [Array.length_toList]; exact h) = y
      simp only [cmpB, Lib.compareBytes, UInt8.lt_iff_toNat_lt]
      by_cases e : (x.toNat : Int) = y.toNat
      · rw [if_pos e, if_neg (by omega), if_neg (by omega)]
      · rw [if_neg e]
        by_cases l : x.toNat < y.toNat
        · rw [if_pos l]; simp [l]
        · rw [if_neg l, if_pos (by omega)]; simp; omega
    · have hdec : decide ((i : Int) < (b2.size : Int)) = false := by simpa using h
      rw [hdec, if_neg (by simp), drop_none b2 i (by omega), drop_cons a2 i h1]
      simp [cmpB, Lib.compareBytes]; omega
theorem less_f (k : Nat) (a0 a1 : Int) (a2 : ByteArray) (b0 b1 : Int) (b2 : ByteArray) (ha : a2.size ≤ 140737488351232) (hk : 2 * a2.size + 2 ≤ k) : easementref01_Less.f k a0 a1 a2 b0 b1 b2 = some (decide (cmpV a0 a1 a2 b0 b1 b2 < 0)) := by
  unfold easementref01_Less.f
  rw [cmpV_eq]
  have z0 := cmpI_zero a0 b0
  have z1 := cmpI_zero a1 b1
  have n0 := cmpI_neg a0 b0
  have n1 := cmpI_neg a1 b1
  by_cases e0 : a0 = b0
  · rw [if_pos e0, if_pos (z0.2 e0)]
    by_cases e1 : a1 = b1
    · rw [if_pos e1, if_pos (z1.2 e1)]
      have := less_l0 a0 a1 a2 b0 b1 b2 ha a2.size k 0 (by omega) (by omega) (by omega) (by omega)
      simpa using this
    · rw [if_neg e1, if_neg (fun h => e1 (z1.1 h))]
      simp [n1]
  · rw [if_neg e0, if_neg (fun h => e0 (z0.1 h))]
    simp [n0]
theorem refcmp_f (k : Nat) (a0 a1 : Int) (a2 : ByteArray) (b0 b1 : Int) (b2 : ByteArray) (ha : a2.size ≤ 140737488351232) (hb : b2.size ≤ 140737488351232) (hk : 2 * a2.size + 2 * b2.size + 2 ≤ k) : easementref01_Compare.f k a0 a1 a2 b0 b1 b2 = some (cmpV a0 a1 a2 b0 b1 b2) := by
  unfold easementref01_Compare.f
  rw [less_f k a0 a1 a2 b0 b1 b2 ha (by omega), less_f k b0 b1 b2 a0 a1 a2 hb (by omega), cmpV_swap a0 a1 a2 b0 b1 b2]
  simp only [Option.bind_some]
  rcases cmpV_range a0 a1 a2 b0 b1 b2 with h | h | h <;> rw [h] <;> rfl
def rightV (a0 a1 : Int) (a2 : ByteArray) : Bool := if a0 = 0 then a1 == 0 && a2.size == 0 else if a0 = 1 then (a1 == 0 || a1 == 1) && a2.size == 0 else if a0 = 2 then a2.size == 0 else if a0 = 3 then a1 == 0 && decide (a2.size ≤ 4096) else false
theorem empty_eq (s : ByteArray) : (s.toList == ([] : List UInt8)) = (s.size == 0) := by
  rw [ByteArray.toList_eq]
  have h : s.data.toList.length = s.size := by rw [Array.length_toList]; rfl
  cases hl : s.data.toList with
  | nil => rw [hl] at h; rw [← h]; rfl
  | cons x l => rw [hl] at h; rw [← h]; rfl
theorem refright_f (a0 a1 : Int) (a2 : ByteArray) : easementref01_Right.f a0 a1 a2 = some (rightV a0 a1 a2) := by
  unfold easementref01_Right.f rightV
  rw [empty_eq]
  split
  · by_cases h : a1 = 0 <;> simp [h]
  · split
    · by_cases h : a1 = 0
      · simp [h]
      · by_cases h' : a1 = 1 <;> simp [h, h']
    · split
      · rfl
      · split
        · by_cases h : a1 = 0
          · simp only [h, if_true]
            have : ((a2.size : Int) ≤ 4096) ↔ a2.size ≤ 4096 := by omega
            simp [this]
          · simp [h]
        · rfl
theorem right_f (a0 a1 : Int) (a2 : ByteArray) : value_Value_Right.f a0 a1 a2 = some (rightV a0 a1 a2) := by
  unfold value_Value_Right.f rightV
  have e : ((⟨#[]⟩ : ByteArray)).toList = ([] : List UInt8) := by rw [ByteArray.toList_eq]
  rw [empty_eq]
  split
  · rename_i h; simp [h]
  · split
    · rename_i h
      unfold value_Truth.f
      by_cases h1 : a1 = 1
      · simp only [h1, beq_self_eq_true, if_true, Option.bind_some, e, empty_eq]; simp [h]
      · have : (a1 == 1) = false := by simpa using h1
        simp only [this, Bool.false_eq_true, if_false, Option.bind_some, e, empty_eq]; simp [h]
    · split
      · rfl
      · split
        · by_cases h : a1 = 0
          · simp only [h, if_true]
            have : ((a2.size : Int) ≤ 4096) ↔ a2.size ≤ 4096 := by omega
            simp [this]
          · simp [h]
        · rfl

theorem same_f (a0 a1 : Int) (a2 : ByteArray) (b0 b1 : Int) (b2 : ByteArray) : ((cmpV a0 a1 a2 b0 b1 b2 == 0) == (a0 == b0 && (a1 == b1 && (a2.toList == b2.toList)))) = true := by
  have h := cmpV_zero a0 a1 a2 b0 b1 b2
  rw [← toList_inj a2 b2, ← ByteArray.toList_eq a2, ← ByteArray.toList_eq b2] at h
  have : (cmpV a0 a1 a2 b0 b1 b2 == 0) = (a0 == b0 && (a1 == b1 && (a2.toList == b2.toList))) := by
    rw [Bool.eq_iff_iff]; simp [h]
  rw [this]; simp
theorem law_f (k : Nat) (a0 a1 : Int) (a2 : ByteArray) (b0 b1 : Int) (b2 : ByteArray) (ha : a2.size ≤ 140737488351232) (hb : b2.size ≤ 140737488351232) (hk : 2 * a2.size + 2 * b2.size + 6 ≤ k) : easementlaw01_ValueOrder.f k a0 a1 a2 b0 b1 b2 = some true := by
  obtain ⟨k, rfl⟩ : ∃ m, k = m + 1 := ⟨k - 1, by omega⟩
  have key : ∀ b, easementlaw01_ValueOrder.j0 (k + 1) b a0 a1 a2 b0 b1 b2 = some true := by
    intro b
    simp only [easementlaw01_ValueOrder.j0]
    cases b with
    | true => rw [if_pos rfl]; rfl
    | false =>
      rw [if_neg (by simp), compare_f k (by omega)]
      simp only [Option.bind_some, easementlaw01_of.f]
      rw [refcmp_f k _ _ _ _ _ _ ha hb (by omega)]
      simp only [Option.bind_some]
      rw [if_pos trivial, compare_f k (by omega)]
      simp only [Option.bind_some]
      have hw : cmpV b0 b1 b2 a0 a1 a2 = wrap64 (- cmpV a0 a1 a2 b0 b1 b2) := by
        rw [cmpV_swap]
        have := cmpV_range a0 a1 a2 b0 b1 b2
        unfold wrap64; omega
      rw [if_pos hw, right_f, refright_f]
      simp only [Option.bind_some]
      rw [if_pos (by simp), same_f]
  unfold easementlaw01_ValueOrder.f
  rw [show easementlaw01_lives.f = some true from rfl, Option.bind_some, if_pos rfl]
  exact key _
theorem walk (x0_0 : Int) (x0_1 : Int) (x0_2 : ByteArray) (x1_0 : Int) (x1_1 : Int) (x1_2 : ByteArray) (W : World) (p0_0 : (IntKind.u8.min ≤ x0_0 ∧ x0_0 ≤ IntKind.u8.max)) (p0_1 : (IntKind.i64.min ≤ x0_1 ∧ x0_1 ≤ IntKind.i64.max)) (p0_2 : (x0_2.size ≤ 140737488351232)) (p1_0 : (IntKind.u8.min ≤ x1_0 ∧ x1_0 ≤ IntKind.u8.max)) (p1_1 : (IntKind.i64.min ≤ x1_1 ∧ x1_1 ≤ IntKind.i64.max)) (p1_2 : (x1_2.size ≤ 140737488351232)) :
    Calls Try.prog 11 #[.agg #[.int .u8 x0_0, .int .i64 x0_1, .string x0_2], .agg #[.int .u8 x1_0, .int .i64 x1_1, .string x1_2]] W fun e W' => e = .returned (.bool true) ∧ Below W.heap.size W W' :=
  easementlaw01_ValueOrder.calls (2 * x0_2.size + 2 * x1_2.size + 6) x0_0 x0_1 x0_2 x1_0 x1_1 x1_2 true W (law_f _ _ _ _ _ _ _ p0_2 p1_2 (Nat.le_refl _))
end Go.Proofs.Ytcpcnnpdbognlaa.VcValueOrder
