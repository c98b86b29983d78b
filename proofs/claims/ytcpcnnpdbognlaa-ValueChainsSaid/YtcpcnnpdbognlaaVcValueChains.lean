/- ValueChains: the plain law over the printed functions: what is ahead of what is ahead is ahead. No condition. -/
import Derived.Test.YtcpcnnpdbognlaaQValueChainsx
import Derived.Test.YtcpcnnpdbognlaaValPure
namespace Go.Proofs.Ytcpcnnpdbognlaa.VcValueChains
set_option linter.unusedVariables false
open Go.RowKit Go.Proofs.Ytcpcnnpdbognlaa.QValueChains Go.Proofs.Ytcpcnnpdbognlaa.ValPure Go.Proofs.YtcpcnnpdbognlaaW.PrintWords Go.Proofs.YtcpcnnpdbognlaaW.PrintLast
theorem kind_cmp (a b : Int) : value_Kind_70.f a b = some (cmpI a b) := by
  simp only [value_Kind_70.f, value_Kind_79.f, Option.bind_some, bne_self_eq_false, Bool.false_eq_true, if_false, cmpI]
  split <;> (try split) <;> rfl
theorem int_cmp (a b : Int) : cmp_Compare_int64.f a b = some (cmpI a b) := by
  simp only [cmp_Compare_int64.f, cmp_isNaN_int64.f, Option.bind_some, bne_self_eq_false, Bool.false_eq_true, if_false, cmpI]
  split <;> (try split) <;> rfl
theorem or_l0 (l : List Int) (hl : l.length ≤ 1000) (d : Nat) : ∀ (k j : Nat), l.length - j = d → j ≤ l.length → d < k → cmp_Or_int.l0 k 0 l (l.length : Int) j = some (or0 (l.drop j)) := by
  induction d with
  | zero =>
    intro k j hd hj hk
    obtain ⟨k, rfl⟩ : ∃ m, k = m + 1 := ⟨k - 1, by omega⟩
    simp only [cmp_Or_int.l0]
    rw [if_neg (by omega), List.drop_eq_nil_of_le (by omega)]; rfl
  | succ d ih =>
    intro k j hd hj hk
    obtain ⟨k, rfl⟩ : ∃ m, k = m + 1 := ⟨k - 1, by omega⟩
    have hlt : j < l.length := by omega
    have hdrop : l.drop j = l.getD j 0 :: l.drop (j + 1) := by
      rw [List.drop_eq_getElem_cons hlt]; simp [List.getD, hlt]
    have hrd : rd l (j : Int) = l.getD j 0 := rfl
    have hw : wrap64 ((j : Int) + 1) = ((j + 1 : Nat) : Int) := by unfold wrap64; omega
    simp only [cmp_Or_int.l0]
    rw [if_pos (by omega), if_pos (by omega), if_pos (by omega), hrd, hw, hdrop]
    by_cases h0 : l.getD j 0 = 0
    · rw [if_pos h0, ih k (j + 1) (by omega) (by omega) (by omega)]
      simp only [or0]; rw [if_pos h0]
    · rw [if_neg h0]; simp only [or0]; rw [if_neg h0]
theorem compare_f (k : Nat) (hk : 4 ≤ k) (a0 a1 : Int) (a2 : ByteArray) (b0 b1 : Int) (b2 : ByteArray) : value_Compare.f k a0 a1 a2 b0 b1 b2 = some (cmpV a0 a1 a2 b0 b1 b2) := by
  unfold value_Compare.f
  rw [kind_cmp, int_cmp]
  simp only [strings_Compare.f, Option.bind_some]
  unfold cmp_Or_int.f
  rw [show ((([cmpI a0 b0, cmpI a1 b1, Lib.compareBytes a2.data.toList b2.data.toList] : List Int).length : Int)) = (3 : Nat) from rfl]
  have := or_l0 [cmpI a0 b0, cmpI a1 b1, Lib.compareBytes a2.data.toList b2.data.toList] (by simp) 3 k 0 rfl (by simp) (by omega)
  rw [show ((0 : Nat) : Int) = 0 from rfl] at this
  simp only [List.length_cons, List.length_nil, Nat.zero_add, Nat.reduceAdd, List.drop_zero] at this
  rw [this]; rfl

theorem dec (x y z x' y' z' : Int) (r1 : x = -1 ∨ x = 0 ∨ x = 1) (r2 : y = -1 ∨ y = 0 ∨ y = 1) (r3 : z = -1 ∨ z = 0 ∨ z = 1) (t1 : x ≤ 0 → y ≤ 0 → z ≤ 0) (t2 : z' ≤ 0 → x ≤ 0 → y' ≤ 0) (t3 : y ≤ 0 → z' ≤ 0 → x' ≤ 0) (t4 : y' ≤ 0 → x' ≤ 0 → z' ≤ 0) (s1 : x' = - x) (s2 : y' = -y) (s3 : z' = -z) :
   (if x ≤ 0 then (if y ≤ 0 then (if z > 0 then (some false) else (if z = 0 then (if x = 0 then (if y = 0 then (if x < 0 then (some true) else (if y < 0 then (some true) else (some (decide (z ≥ 0))))) else (some false)) else (some false)) else (if x < 0 then (some true) else (if y < 0 then (some true) else (some (decide (z ≥ 0))))))) else (if x < 0 then (some true) else (if y < 0 then (some true) else (some (decide (z ≥ 0)))))) else (if x < 0 then (some true) else (if y < 0 then (some true) else (some (decide (z ≥ 0)))))) = some true := by
  subst s1 s2 s3
  rcases r1 with rfl | rfl | rfl <;> rcases r2 with rfl | rfl | rfl <;> rcases r3 with rfl | rfl | rfl <;> first | (exfalso; omega) | (simp; done)
theorem law_f (k : Nat) (hk : 5 ≤ k) (a0 a1 : Int) (a2 : ByteArray) (b0 b1 : Int) (b2 : ByteArray) (c0 c1 : Int) (c2 : ByteArray) : easementlaw01_ValueChains.f k a0 a1 a2 b0 b1 b2 c0 c1 c2 = some true := by
  obtain ⟨k, rfl⟩ : ∃ m, k = m + 1 := ⟨k - 1, by omega⟩
  have key : ∀ b, easementlaw01_ValueChains.j0 (k + 1) b a0 a1 a2 b0 b1 b2 c0 c1 c2 = some true := by
    intro b
    simp only [easementlaw01_ValueChains.j0]
    cases b with
    | true => rw [if_pos rfl]; rfl
    | false =>
      rw [if_neg (by simp), compare_f k (by omega), compare_f k (by omega), compare_f k (by omega)]
      simp only [Option.bind_some]
      exact dec _ _ _ _ _ _ (cmpV_range a0 a1 a2 b0 b1 b2) (cmpV_range b0 b1 b2 c0 c1 c2) (cmpV_range a0 a1 a2 c0 c1 c2) (cmpV_trans a0 a1 a2 b0 b1 b2 c0 c1 c2) (cmpV_trans c0 c1 c2 a0 a1 a2 b0 b1 b2) (cmpV_trans b0 b1 b2 c0 c1 c2 a0 a1 a2) (cmpV_trans c0 c1 c2 b0 b1 b2 a0 a1 a2) (cmpV_swap a0 a1 a2 b0 b1 b2) (cmpV_swap b0 b1 b2 c0 c1 c2) (cmpV_swap a0 a1 a2 c0 c1 c2)
  unfold easementlaw01_ValueChains.f
  rw [show easementlaw01_lives.f = some true from rfl, Option.bind_some, if_pos rfl]
  exact key _
theorem walk (x0_0 : Int) (x0_1 : Int) (x0_2 : ByteArray) (x1_0 : Int) (x1_1 : Int) (x1_2 : ByteArray) (x2_0 : Int) (x2_1 : Int) (x2_2 : ByteArray) (W : World) (p0_0 : (IntKind.u8.min ≤ x0_0 ∧ x0_0 ≤ IntKind.u8.max)) (p0_1 : (IntKind.i64.min ≤ x0_1 ∧ x0_1 ≤ IntKind.i64.max)) (p0_2 : (x0_2.size ≤ 140737488351232)) (p1_0 : (IntKind.u8.min ≤ x1_0 ∧ x1_0 ≤ IntKind.u8.max)) (p1_1 : (IntKind.i64.min ≤ x1_1 ∧ x1_1 ≤ IntKind.i64.max)) (p1_2 : (x1_2.size ≤ 140737488351232)) (p2_0 : (IntKind.u8.min ≤ x2_0 ∧ x2_0 ≤ IntKind.u8.max)) (p2_1 : (IntKind.i64.min ≤ x2_1 ∧ x2_1 ≤ IntKind.i64.max)) (p2_2 : (x2_2.size ≤ 140737488351232)) :
    Calls Try.prog 9 #[.agg #[.int .u8 x0_0, .int .i64 x0_1, .string x0_2], .agg #[.int .u8 x1_0, .int .i64 x1_1, .string x1_2], .agg #[.int .u8 x2_0, .int .i64 x2_1, .string x2_2]] W fun e W' => e = .returned (.bool true) ∧ Below W.heap.size W W' :=
  easementlaw01_ValueChains.calls 5 x0_0 x0_1 x0_2 x1_0 x1_1 x1_2 x2_0 x2_1 x2_2 true W (law_f 5 (by omega) _ _ _ _ _ _ _ _ _)
end Go.Proofs.Ytcpcnnpdbognlaa.VcValueChains
