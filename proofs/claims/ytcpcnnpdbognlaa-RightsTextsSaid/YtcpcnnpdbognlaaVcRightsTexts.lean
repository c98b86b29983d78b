/- RightsTexts: the plain law over the printed functions: the texts of all rights, and the rights of any text. No condition. -/
import Derived.Test.YtcpcnnpdbognlaaQRightsTextsx
import Derived.Laws.Strings
namespace Go.Proofs.Ytcpcnnpdbognlaa.VcRightsTexts
set_option linter.unusedVariables false
open Go.RowKit Go.Proofs.Ytcpcnnpdbognlaa.QRightsTexts Go.Proofs.YtcpcnnpdbognlaaW.PrintWords Go.Proofs.YtcpcnnpdbognlaaW.PrintLast Go.Proofs.YtcpcnnpdbognlaaW.PrintMore
theorem u8_nat {x : Int} (p : IntKind.u8.min ≤ x ∧ x ≤ IntKind.u8.max) : ∃ a : Nat, x = a ∧ a < 256 := by
  have h : 0 ≤ x ∧ x ≤ 255 := p
  exact ⟨x.toNat, by omega, by omega⟩

open Go.Proofs.Ytcpcnnpdbognlaa.Rg
/-- The text of rights as the law tells it. -/
def lawText (n : Nat) : ByteArray := ⟨(textL n).toArray⟩
def okText (n : Nat) : Bool := match easementlaw16_text.f 8 (n : Int) with | some t => t.data.toList == textL n | none => false
theorem okText_all : ∀ n : Nat, n < 32 → okText n = true := by decide +kernel
theorem text_f (k n : Nat) (hk : 8 ≤ k) (hn : n < 32) : easementlaw16_text.f k (n : Int) = some (lawText n) := by
  have h := okText_all n hn
  unfold okText at h
  split at h
  · rename_i t ht
    have e : t.data.toList = textL n := by simpa using h
    have e' : t = lawText n := by
      have h2 : t.data = (textL n).toArray := Array.ext' (by simpa using e)
      cases t; simp [lawText] at *; exact h2
    rw [e'] at ht
    exact at_rounds (fun k => easementlaw16_text.mono _ k) hk ht
  · cases h
theorem textL_mod : ∀ n : Nat, n < 256 → textL n = textL ((n % 32 : Nat) : Int) := by decide +kernel
theorem parse_text : ∀ n : Nat, n < 32 → parseL (lawText n) = ((n : Int), 0) := by decide +kernel
theorem bits_or8 (a b : Nat) (ha : a < 256) (hb : b < 256) : Go.bits .or .u8 a b = ((a ||| b : Nat) : Int) :=
  (bits_nat .u8 8 (by decide) (fun n h0 h1 => by rw [IntKind.wrap_u8]; omega) a b ha hb).2
theorem parse_small (t : ByteArray) : ∀ k, k ≤ 5 → ∃ p : Nat, parseTo t k = p ∧ p < 2 ^ k
  | 0, _ => ⟨0, rfl, by decide⟩
  | k + 1, hk => by
    obtain ⟨p, hp, hlt⟩ := parse_small t k (by omega)
    unfold parseTo
    have h32 : (2 : Nat) ^ k < 2 ^ (k + 1) := Nat.pow_lt_pow_right (by decide) (by omega)
    have h256 : (2 : Nat) ^ (k + 1) ≤ 2 ^ 5 := Nat.pow_le_pow_right (by decide) hk
    split
    · refine ⟨p ||| 2 ^ k, ?_, Nat.or_lt_two_pow (by omega) h32⟩
      rw [hp, show ((2 : Int) ^ k) = ((2 ^ k : Nat) : Int) by simp]
      exact bits_or8 p (2 ^ k) (by omega) (by omega)
    · exact ⟨p, hp, by omega⟩
theorem tmod_nat (a : Nat) : Int.tmod (a : Int) 32 = ((a % 32 : Nat) : Int) := by
  rw [Int.tmod_eq_emod_of_nonneg (by omega)]; omega
theorem toList_lawText (n : Nat) : (lawText n).toList = textL n := by rw [ByteArray.toList_eq]; simp [lawText]
theorem law_l0 (a : Nat) (ha : a < 256) (t : ByteArray) (d : Nat) : ∀ (k i : Nat), 32 - i = d → i ≤ 32 → d + 9 ≤ k → (∀ j, j < i → textL j ≠ t.data.toList) →
    easementlaw16_RightsTexts.l0 k a t ((a % 32 : Nat) : Int) 0 (parseL t).1 (parseL t).2 i = some true := by
  induction d with
  | zero =>
    intro k i hd hi hk hno
    obtain ⟨k, rfl⟩ : ∃ m, k = m + 1 := ⟨k - 1, by omega⟩
    simp only [easementlaw16_RightsTexts.l0]
    obtain ⟨p, hp, hlt⟩ := parse_small t 5 (by omega)
    have hP : parseL t = (0, 10) := by
      unfold parseL
      rw [hp]
      exact if_neg (hno p (by have : (2 : Nat) ^ 5 = 32 := rfl; omega))
    rw [if_neg (by omega), hP, tmod_nat]
    simp
  | succ d ih =>
    intro k i hd hi hk hno
    obtain ⟨k, rfl⟩ : ∃ m, k = m + 1 := ⟨k - 1, by omega⟩
    simp only [easementlaw16_RightsTexts.l0]
    rw [if_pos (by omega), text_f k i (by omega) (by omega), Option.bind_some, toList_lawText, ByteArray.toList_eq]
    by_cases h : textL i = t.data.toList
    · have ht : t = lawText i := by
        have h2 : t.data = (textL i).toArray := Array.ext' (by rw [← h])
        cases t; simp [lawText] at *; exact h2
      have hP : parseL t = ((i : Int), 0) := by rw [ht]; exact parse_text i (by omega)
      rw [if_pos h, hP, tmod_nat]
      simp
    · rw [if_neg h, show (((i : Int) + 1) % 256) = ((i + 1 : Nat) : Int) by omega]
      exact ih k (i + 1) (by omega) (by omega) (by omega) (fun j hj => by
        by_cases e : j = i
        · rw [e]; exact h
        · exact hno j (by omega))
theorem law_f (a : Nat) (ha : a < 256) (t : ByteArray) : easementlaw16_RightsTexts.f 60 a t = some true := by
  have key : ∀ b, easementlaw16_RightsTexts.j0 60 a t b = some true := by
    intro b
    simp only [easementlaw16_RightsTexts.j0]
    cases b with
    | true => rw [if_pos rfl]; rfl
    | false =>
      rw [if_neg (by simp), tmod_nat, text_f 59 (a % 32) (by omega) (by omega)]
      simp only [rights_Set_Text.f, rights_Parse.f, Option.bind_some]
      have e : ({ data := (textL (a : Int)).toArray } : ByteArray).toList = (lawText (a % 32)).toList := by
        rw [toList_lawText, ByteArray.toList_eq, ← textL_mod a ha]
      rw [if_pos e, parse_text (a % 32) (by omega)]
      exact law_l0 a ha t 32 59 0 (by omega) (by omega) (by omega) (fun j hj => by omega)
  unfold easementlaw16_RightsTexts.f
  rw [show easementlaw16_lives.f = some true from rfl, Option.bind_some, if_pos rfl]
  exact key _
theorem walk (x0 : Int) (x1 : ByteArray) (W : World) (p0 : (IntKind.u8.min ≤ x0 ∧ x0 ≤ IntKind.u8.max)) (p1 : (x1.size ≤ 140737488351232)) :
    Calls Try.prog 15 #[.int .u8 x0, .string x1] W fun e W' => e = .returned (.bool true) ∧ Below W.heap.size W W' := by
  obtain ⟨a, rfl, ha⟩ := u8_nat p0
  exact easementlaw16_RightsTexts.calls _ a x1 true W (law_f a ha x1)
end Go.Proofs.Ytcpcnnpdbognlaa.VcRightsTexts
