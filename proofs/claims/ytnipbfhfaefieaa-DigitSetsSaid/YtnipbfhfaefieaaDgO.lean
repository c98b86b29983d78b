/- digits: bits.OnesCount32. -/
import Derived.Test.YtnipbfhfaefieaaProg
import Derived.Test.YtnipbfhfaefieaaWLast
import Derived.Test.YtnipbfhfaefieaaWMore
import Derived.WalkKit
import Derived.WalkSpells
import Derived.OwnWalk
import Derived.KernelRfl
import Derived.Lib.Tables
import Derived.Laws.BitsLemmas
import Derived.Laws.BitsAllLaws
import Derived.Lib.EndianBits
import Derived.Test.YtnipbfhfaefieaaBytes
import Derived.Lib.BitFns
import Derived.BigQuiet
import Derived.Lib.Hide
namespace Go.Proofs.Ytnipbfhfaefieaa.Dig
open Go.RowKit Go Go.Proofs.YtnipbfhfaefieaaW.PrintWords Go.Proofs.YtnipbfhfaefieaaW.PrintMore Go.Proofs.YtnipbfhfaefieaaW.PrintLast
/-- How many of the lowest k bits are set. -/
def cnt (s : Nat) : Nat → Nat
  | 0 => 0
  | k + 1 => cnt s k + (if s.testBit k then 1 else 0)
theorem cnt_half (x f : Nat) : x % 2 + cnt (x / 2) f = cnt x (f + 1) := by
  induction f with
  | zero =>
    show x % 2 + 0 = 0 + (if x.testBit 0 then 1 else 0)
    rw [Nat.testBit_zero]
    by_cases h : x % 2 = 1
    · simp [h]
    · have h0 : x % 2 = 0 := by omega
      simp [h0]
  | succ f ih =>
    show x % 2 + (cnt (x / 2) f + (if (x / 2).testBit f then 1 else 0)) = cnt x (f + 1) + (if x.testBit (f + 1) then 1 else 0)
    rw [← ih, Nat.testBit_succ]
    omega
theorem pop_cnt : ∀ f x, Lib.popAux f x = cnt x f
  | 0, _ => rfl
  | f + 1, x => by
    show x % 2 + Lib.popAux f (x / 2) = _
    rw [pop_cnt f, cnt_half]
theorem cnt_le (s : Nat) : ∀ k, cnt s k ≤ k
  | 0 => Nat.le_refl _
  | k + 1 => by
    show cnt s k + (if s.testBit k then 1 else 0) ≤ k + 1
    have := cnt_le s k
    split <;> omega
theorem cnt_mono (s : Nat) {i j : Nat} (h : i ≤ j) : cnt s i ≤ cnt s j := by
  induction h with
  | refl => exact Nat.le_refl _
  | step _ ih => exact Nat.le_trans ih (Nat.le_add_right _ _)
theorem cnt_add (s a : Nat) : ∀ b, cnt s (a + b) = cnt s a + cnt (s / 2 ^ a) b
  | 0 => rfl
  | b + 1 => by
    show cnt s (a + b) + (if s.testBit (a + b) then 1 else 0) = cnt s a + (cnt (s / 2 ^ a) b + (if (s / 2 ^ a).testBit b then 1 else 0))
    rw [cnt_add s a b, Nat.testBit_div_two_pow, Nat.add_comm b a]
    omega
theorem cnt_congr {s t : Nat} : ∀ k, (∀ j, j < k → s.testBit j = t.testBit j) → cnt s k = cnt t k
  | 0, _ => rfl
  | k + 1, h => by
    show cnt s k + (if s.testBit k then 1 else 0) = cnt t k + (if t.testBit k then 1 else 0)
    rw [cnt_congr k (fun j hj => h j (by omega)), h k (by omega)]
theorem cnt_beyond {s n : Nat} (h : s < 2 ^ n) : ∀ k, cnt s (n + k) = cnt s n
  | 0 => rfl
  | k + 1 => by
    show cnt s (n + k) + (if s.testBit (n + k) then 1 else 0) = cnt s n
    rw [cnt_beyond h k, Nat.testBit_lt_two_pow (Nat.lt_of_lt_of_le h (Nat.pow_le_pow_right (by decide) (by omega)))]
    rfl
theorem cnt_mod (s k : Nat) : cnt (s % 2 ^ k) k = cnt s k := cnt_congr k (fun j hj => by rw [Nat.testBit_mod_two_pow]; simp [hj])
theorem ones_is (x : Nat) (h : x < 2 ^ 32) : Lib.onesCount x = cnt x 32 := (pop_cnt 64 x).trans (cnt_beyond h 32)
theorem ones8 (x : Nat) (h : x < 2 ^ 8) : Lib.onesCount x = cnt x 8 := (pop_cnt 64 x).trans (cnt_beyond h 56)
/-- Four bytes' counts. -/
theorem cnt_four (x : Nat) (h : x < 2 ^ 32) : Lib.onesCount (x / 16777216) + Lib.onesCount (x / 65536 % 256) + Lib.onesCount (x / 256 % 256) + Lib.onesCount (x % 256) = cnt x 32 := by
  have e1 : cnt x 32 = cnt x 8 + cnt (x / 2 ^ 8) 24 := cnt_add x 8 24
  have e2 : cnt (x / 2 ^ 8) 24 = cnt (x / 2 ^ 8) 8 + cnt (x / 2 ^ 8 / 2 ^ 8) 16 := cnt_add (x / 2 ^ 8) 8 16
  have e3 : cnt (x / 2 ^ 8 / 2 ^ 8) 16 = cnt (x / 2 ^ 8 / 2 ^ 8) 8 + cnt (x / 2 ^ 8 / 2 ^ 8 / 2 ^ 8) 8 := cnt_add (x / 2 ^ 8 / 2 ^ 8) 8 8
  rw [ones8 _ (by omega), ones8 _ (by omega), ones8 _ (by omega), ones8 _ (by omega), e1, e2, e3]
  have f1 : cnt (x % 256) 8 = cnt x 8 := cnt_mod x 8
  have f2 : cnt (x / 256 % 256) 8 = cnt (x / 256) 8 := cnt_mod (x / 256) 8
  have f3 : cnt (x / 65536 % 256) 8 = cnt (x / 65536) 8 := cnt_mod (x / 65536) 8
  have g2 : x / 2 ^ 8 = x / 256 := rfl
  have g3 : x / 2 ^ 8 / 2 ^ 8 = x / 65536 := by rw [Nat.div_div_eq_div_mul]
  have g4 : x / 2 ^ 8 / 2 ^ 8 / 2 ^ 8 = x / 16777216 := by rw [Nat.div_div_eq_div_mul, Nat.div_div_eq_div_mul]
  rw [f1, f2, f3, g4, g3, g2]
  omega
theorem and255 (x : Nat) (h : x < 2 ^ 32) : Go.bits .and .u32 (x : Int) 255 = ((x % 256 : Nat) : Int) := by
  have h1 := (bits_nat .u32 32 (by decide) wraps_u32 x 255 h (by decide)).1
  have h2 : x &&& 255 = x % 256 := Nat.and_two_pow_sub_one_eq_mod x 8
  rw [h2] at h1
  exact h1
theorem sum4 (a b c d : Nat) (ha : a ≤ 8) (hb : b ≤ 8) (hc : c ≤ 8) (hd : d ≤ 8) : ((a : Int) + (b : Int) + (c : Int) + (d : Int)) % 256 = ((a + b + c + d : Nat) : Int) := by omega
set_option maxHeartbeats 4000000 in
set_option maxRecDepth 100000 in
theorem ones_calls (x : Nat) (h : x < 2 ^ 32) (w : World) : Calls Try.prog 63 #[.int .u32 (x : Int)] w fun e w' => e = .returned (.int .i64 (cnt x 32 : Nat)) ∧ Drawn0 w w' := by
  rw [← cnt_four x h]
  have d1 : (x : Int) / 16777216 = ((x / 16777216 : Nat) : Int) := rfl
  have a1 := and255 (x / 65536) (by omega)
  have a2 := and255 (x / 256) (by omega)
  have a3 := and255 x h
  have c2 : (x : Int) / 65536 = ((x / 65536 : Nat) : Int) := rfl
  have c3 : (x : Int) / 256 = ((x / 256 : Nat) : Int) := rfl
  rw [← c2] at a1
  rw [← c3] at a2
  obtain ⟨i1, hi1⟩ : ∃ i : Nat, x / 16777216 = i := ⟨_, rfl⟩
  obtain ⟨i2, hi2⟩ : ∃ i : Nat, x / 65536 % 256 = i := ⟨_, rfl⟩
  obtain ⟨i3, hi3⟩ : ∃ i : Nat, x / 256 % 256 = i := ⟨_, rfl⟩
  obtain ⟨i4, hi4⟩ : ∃ i : Nat, x % 256 = i := ⟨_, rfl⟩
  have b1 : i1 < 256 := by omega
  have b2 : i2 < 256 := by omega
  have b3 : i3 < 256 := by omega
  have b4 : i4 < 256 := by omega
  rw [hi1] at d1 ⊢
  rw [hi2] at a1 ⊢
  rw [hi3] at a2 ⊢
  rw [hi4] at a3 ⊢
  have e1 := Lib.pop8_eq ⟨i1, b1⟩
  have e2 := Lib.pop8_eq ⟨i2, b2⟩
  have e3 := Lib.pop8_eq ⟨i3, b3⟩
  have e4 := Lib.pop8_eq ⟨i4, b4⟩
  clear c2 c3 hi1 hi2 hi3 hi4
  have B1 : (i1 : Int) ≤ 255 := by omega
  have B2 : (i2 : Int) ≤ 255 := by omega
  have B3 : (i3 : Int) ≤ 255 := by omega
  have B4 : (i4 : Int) ≤ 255 := by omega
  go_enter Try.func63, Try.ntmps63
  go_wp2
  repeat (go_quiet (fail); try go_wp2)
  have l1 := Lib.onesCount_le8 ⟨i1, b1⟩
  have l2 := Lib.onesCount_le8 ⟨i2, b2⟩
  have l3 := Lib.onesCount_le8 ⟨i3, b3⟩
  have l4 := Lib.onesCount_le8 ⟨i4, b4⟩
  dsimp only at l1 l2 l3 l4
  go_ret
  exact ⟨by rw [sum4 _ _ _ _ l1 l2 l3 l4]; rfl, ⟨⟨nq, rfl⟩⟩⟩
end Go.Proofs.Ytnipbfhfaefieaa.Dig
