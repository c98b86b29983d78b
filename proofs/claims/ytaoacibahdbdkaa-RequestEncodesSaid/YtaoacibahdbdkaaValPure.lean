/- The order of values, as plain mathematics: numbers, bytes, and values by kind, number and bytes. No program is named here. -/
import Derived.Lib.Bytealg
import Derived.Test.YtaoacibahdbdkaaWWords
namespace Go.Proofs.Ytaoacibahdbdkaa.ValPure
open Go.Proofs.YtaoacibahdbdkaaW.PrintWords

def cmpI (a b : Int) : Int := if a < b then -1 else if a > b then 1 else 0
theorem cmpI_range (a b : Int) : cmpI a b = -1 ∨ cmpI a b = 0 ∨ cmpI a b = 1 := by unfold cmpI; split; · exact .inl rfl
                                                                                   · split; · exact .inr (.inr rfl)
                                                                                     · exact .inr (.inl rfl)
theorem cmpI_swap (a b : Int) : cmpI b a = - cmpI a b := by unfold cmpI; split <;> split <;> (try split) <;> omega
theorem cmpI_zero (a b : Int) : cmpI a b = 0 ↔ a = b := by unfold cmpI; split; · omega
                                                           · split <;> omega
theorem cmpI_neg (a b : Int) : cmpI a b < 0 ↔ a < b := by unfold cmpI; split; · omega
                                                          · split <;> omega
theorem cmpI_pos (a b : Int) : cmpI a b > 0 ↔ b < a := by unfold cmpI; split; · omega
                                                          · split <;> omega

/-- Lists of bytes by order. -/
abbrev cmpB (a b : List UInt8) : Int := Lib.compareBytes a b
theorem cmpB_range : ∀ a b, cmpB a b = -1 ∨ cmpB a b = 0 ∨ cmpB a b = 1
  | [], [] => by simp [cmpB, Lib.compareBytes]
  | [], _ :: _ => by simp [cmpB, Lib.compareBytes]
  | _ :: _, [] => by simp [cmpB, Lib.compareBytes]
  | a :: as, b :: bs => by
    have := cmpB_range as bs
    simp only [cmpB, Lib.compareBytes] at *
    split
    · simp
    · split
      · simp
      · exact this
theorem cmpB_swap : ∀ a b, cmpB b a = - cmpB a b
  | [], [] => by simp [cmpB, Lib.compareBytes]
  | [], _ :: _ => by simp [cmpB, Lib.compareBytes]
  | _ :: _, [] => by simp [cmpB, Lib.compareBytes]
  | a :: as, b :: bs => by
    have := cmpB_swap as bs
    simp only [cmpB, Lib.compareBytes] at *
    by_cases h : a < b
    · have h' : ¬ b < a := by rw [UInt8.lt_iff_toNat_lt] at *; omega
      simp [h, h']
    · by_cases h2 : b < a
      · simp [h, h2]
      · simp [h, h2, this]
theorem cmpB_zero : ∀ a b, cmpB a b = 0 ↔ a = b
  | [], [] => by simp [cmpB, Lib.compareBytes]
  | [], _ :: _ => by simp [cmpB, Lib.compareBytes]
  | _ :: _, [] => by simp [cmpB, Lib.compareBytes]
  | a :: as, b :: bs => by
    have := cmpB_zero as bs
    simp only [cmpB, Lib.compareBytes] at *
    by_cases h : a < b
    · have : a ≠ b := by intro e; subst e; exact absurd h (by rw [UInt8.lt_iff_toNat_lt]; omega)
      simp [h, this]
    · by_cases h2 : b < a
      · have : a ≠ b := by intro e; subst e; exact absurd h2 (by rw [UInt8.lt_iff_toNat_lt]; omega)
        simp [h, h2, this]
      · have e : a = b := by rw [UInt8.lt_iff_toNat_lt] at *; exact UInt8.toNat_inj.1 (by omega)
        simp [e, this]
theorem cmpB_trans : ∀ a b c, cmpB a b ≤ 0 → cmpB b c ≤ 0 → cmpB a c ≤ 0
  | [], _, [] => by simp [cmpB, Lib.compareBytes]
  | [], _, _ :: _ => by simp [cmpB, Lib.compareBytes]
  | _ :: _, [], _ => by simp [cmpB, Lib.compareBytes]
  | _ :: _, _ :: _, [] => by simp [cmpB, Lib.compareBytes]
  | a :: as, b :: bs, c :: cs => by
    have ih := cmpB_trans as bs cs
    simp only [cmpB, Lib.compareBytes, UInt8.lt_iff_toNat_lt] at *
    intro h1 h2
    by_cases x : a.toNat < b.toNat
    · by_cases y : b.toNat < c.toNat
      · rw [if_pos (by omega)]; decide
      · rw [if_neg y] at h2
        by_cases z : c.toNat < b.toNat
        · rw [if_pos z] at h2; exact absurd h2 (by decide)
        · rw [if_pos (by omega)]; decide
    · rw [if_neg x] at h1
      by_cases x' : b.toNat < a.toNat
      · rw [if_pos x'] at h1; exact absurd h1 (by decide)
      · rw [if_neg x'] at h1
        by_cases y : b.toNat < c.toNat
        · rw [if_pos (by omega)]; decide
        · rw [if_neg y] at h2
          by_cases z : c.toNat < b.toNat
          · rw [if_pos z] at h2; exact absurd h2 (by decide)
          · rw [if_neg z] at h2
            rw [if_neg (by omega), if_neg (by omega)]
            exact ih h1 h2

/-- The first that isn't 0. -/
def or0 : List Int → Int
  | [] => 0
  | x :: l => if x = 0 then or0 l else x
/-- Values by kind, by number, by bytes. -/
def cmpV (a0 a1 : Int) (a2 : ByteArray) (b0 b1 : Int) (b2 : ByteArray) : Int := or0 [cmpI a0 b0, cmpI a1 b1, cmpB a2.data.toList b2.data.toList]
theorem cmpV_eq (a0 a1 : Int) (a2 : ByteArray) (b0 b1 : Int) (b2 : ByteArray) :
    cmpV a0 a1 a2 b0 b1 b2 = if cmpI a0 b0 = 0 then if cmpI a1 b1 = 0 then cmpB a2.data.toList b2.data.toList else cmpI a1 b1 else cmpI a0 b0 := by
  unfold cmpV or0 or0 or0 or0
  split
  · split
    · split
      · rename_i h; exact h.symm
      · rfl
    · rfl
  · rfl
theorem cmpV_range (a0 a1 : Int) (a2 : ByteArray) (b0 b1 : Int) (b2 : ByteArray) : cmpV a0 a1 a2 b0 b1 b2 = -1 ∨ cmpV a0 a1 a2 b0 b1 b2 = 0 ∨ cmpV a0 a1 a2 b0 b1 b2 = 1 := by
  rw [cmpV_eq]; split
  · split
    · exact cmpB_range _ _
    · exact cmpI_range _ _
  · exact cmpI_range _ _
theorem cmpV_swap (a0 a1 : Int) (a2 : ByteArray) (b0 b1 : Int) (b2 : ByteArray) : cmpV b0 b1 b2 a0 a1 a2 = - cmpV a0 a1 a2 b0 b1 b2 := by
  rw [cmpV_eq, cmpV_eq, cmpI_swap a0 b0, cmpI_swap a1 b1, cmpB_swap a2.data.toList b2.data.toList]
  by_cases e0 : cmpI a0 b0 = 0
  · by_cases e1 : cmpI a1 b1 = 0
    · simp [e0, e1]
    · have e1' : ¬ (- cmpI a1 b1 = 0) := by omega
      simp [e0, e1]
  · simp [e0]
theorem toList_inj (a b : ByteArray) : a.data.toList = b.data.toList ↔ a = b := by
  constructor
  · intro h
    have : a.data = b.data := Array.ext' h
    cases a; cases b; simp_all
  · intro h; rw [h]
theorem cmpV_zero (a0 a1 : Int) (a2 : ByteArray) (b0 b1 : Int) (b2 : ByteArray) : cmpV a0 a1 a2 b0 b1 b2 = 0 ↔ a0 = b0 ∧ a1 = b1 ∧ a2 = b2 := by
  rw [cmpV_eq]
  have h0 := cmpI_zero a0 b0
  have h1 := cmpI_zero a1 b1
  have h2 := cmpB_zero a2.data.toList b2.data.toList
  rw [toList_inj] at h2
  split
  · rename_i e0
    split
    · rename_i e1
      rw [h2]
      exact ⟨fun h => ⟨h0.1 e0, h1.1 e1, h⟩, fun h => h.2.2⟩
    · rename_i e1
      exact ⟨fun h => absurd h e1, fun h => absurd (h1.2 h.2.1) e1⟩
  · rename_i e0
    exact ⟨fun h => absurd h e0, fun h => absurd (h0.2 h.1) e0⟩
theorem cmpV_le (a0 a1 : Int) (a2 : ByteArray) (b0 b1 : Int) (b2 : ByteArray) : cmpV a0 a1 a2 b0 b1 b2 ≤ 0 ↔ a0 < b0 ∨ (a0 = b0 ∧ (a1 < b1 ∨ (a1 = b1 ∧ cmpB a2.data.toList b2.data.toList ≤ 0))) := by
  rw [cmpV_eq]
  generalize cmpB a2.data.toList b2.data.toList = x
  have h0 := cmpI_zero a0 b0
  have h1 := cmpI_zero a1 b1
  have n0 := cmpI_neg a0 b0
  have n1 := cmpI_neg a1 b1
  split
  · split <;> omega
  · omega
theorem cmpV_trans (a0 a1 : Int) (a2 : ByteArray) (b0 b1 : Int) (b2 : ByteArray) (c0 c1 : Int) (c2 : ByteArray) (h : cmpV a0 a1 a2 b0 b1 b2 ≤ 0) (h' : cmpV b0 b1 b2 c0 c1 c2 ≤ 0) : cmpV a0 a1 a2 c0 c1 c2 ≤ 0 := by
  rw [cmpV_le] at *
  have ht := cmpB_trans a2.data.toList b2.data.toList c2.data.toList
  generalize cmpB a2.data.toList b2.data.toList = x at *
  generalize cmpB b2.data.toList c2.data.toList = y at *
  generalize cmpB a2.data.toList c2.data.toList = z at *
  omega
end Go.Proofs.Ytaoacibahdbdkaa.ValPure
