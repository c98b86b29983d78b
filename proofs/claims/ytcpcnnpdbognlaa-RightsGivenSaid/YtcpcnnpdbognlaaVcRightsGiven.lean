/- RightsGiven: the plain law over the printed functions, by evaluation at all 65536 pairs. No condition. -/
import Derived.Test.YtcpcnnpdbognlaaQRightsGivenx
import Derived.Laws.Strings
namespace Go.Proofs.Ytcpcnnpdbognlaa.VcRightsGiven
set_option linter.unusedVariables false
open Go.RowKit Go.Proofs.Ytcpcnnpdbognlaa.QRightsGiven Go.Proofs.YtcpcnnpdbognlaaW.PrintWords Go.Proofs.YtcpcnnpdbognlaaW.PrintLast Go.Proofs.YtcpcnnpdbognlaaW.PrintMore
theorem u8_nat {x : Int} (p : IntKind.u8.min ≤ x ∧ x ≤ IntKind.u8.max) : ∃ a : Nat, x = a ∧ a < 256 := by
  have h : 0 ≤ x ∧ x ≤ 255 := p
  exact ⟨x.toNat, by omega, by omega⟩

def ok (a b : Nat) : Bool := match easementlaw16_RightsGiven.f 12 a b with | some r => r | none => false
def okAll (a : Nat) : Nat → Bool
  | 0 => true
  | n + 1 => ok a n && okAll a n
def okBoth (o : Nat) : Nat → Bool
  | 0 => true
  | m + 1 => okAll (o + m) 256 && okBoth o m
theorem t0 : okBoth 0 16 = true := by decide +kernel
theorem t1 : okBoth 16 16 = true := by decide +kernel
theorem t2 : okBoth 32 16 = true := by decide +kernel
theorem t3 : okBoth 48 16 = true := by decide +kernel
theorem t4 : okBoth 64 16 = true := by decide +kernel
theorem t5 : okBoth 80 16 = true := by decide +kernel
theorem t6 : okBoth 96 16 = true := by decide +kernel
theorem t7 : okBoth 112 16 = true := by decide +kernel
theorem t8 : okBoth 128 16 = true := by decide +kernel
theorem t9 : okBoth 144 16 = true := by decide +kernel
theorem t10 : okBoth 160 16 = true := by decide +kernel
theorem t11 : okBoth 176 16 = true := by decide +kernel
theorem t12 : okBoth 192 16 = true := by decide +kernel
theorem t13 : okBoth 208 16 = true := by decide +kernel
theorem t14 : okBoth 224 16 = true := by decide +kernel
theorem t15 : okBoth 240 16 = true := by decide +kernel

theorem all_of (a : Nat) : ∀ n, okAll a n = true → ∀ b, b < n → ok a b = true
  | 0, _, b, hb => absurd hb (by omega)
  | n + 1, h, b, hb => by
    simp only [okAll, Bool.and_eq_true] at h
    by_cases e : b = n
    · rw [e]; exact h.1
    · exact all_of a n h.2 b (by omega)
theorem both_of (o : Nat) : ∀ m, okBoth o m = true → ∀ a, o ≤ a → a < o + m → okAll a 256 = true
  | 0, _, a, h1, h2 => absurd h2 (by omega)
  | m + 1, h, a, h1, h2 => by
    simp only [okBoth, Bool.and_eq_true] at h
    by_cases e : a = o + m
    · rw [e]; exact h.1
    · exact both_of o m h.2 a h1 (by omega)
theorem ok_all (a b : Nat) (ha : a < 256) (hb : b < 256) : ok a b = true := by
  refine all_of a 256 ?_ b hb
  have : (0 ≤ a ∧ a < 0 + 16) ∨ (16 ≤ a ∧ a < 16 + 16) ∨ (32 ≤ a ∧ a < 32 + 16) ∨ (48 ≤ a ∧ a < 48 + 16) ∨ (64 ≤ a ∧ a < 64 + 16) ∨ (80 ≤ a ∧ a < 80 + 16) ∨ (96 ≤ a ∧ a < 96 + 16) ∨ (112 ≤ a ∧ a < 112 + 16) ∨ (128 ≤ a ∧ a < 128 + 16) ∨ (144 ≤ a ∧ a < 144 + 16) ∨ (160 ≤ a ∧ a < 160 + 16) ∨ (176 ≤ a ∧ a < 176 + 16) ∨ (192 ≤ a ∧ a < 192 + 16) ∨ (208 ≤ a ∧ a < 208 + 16) ∨ (224 ≤ a ∧ a < 224 + 16) ∨ (240 ≤ a ∧ a < 240 + 16) := by omega
  rcases this with h | h | h | h | h | h | h | h | h | h | h | h | h | h | h | h
  · exact both_of 0 16 t0 a h.1 h.2
  · exact both_of 16 16 t1 a h.1 h.2
  · exact both_of 32 16 t2 a h.1 h.2
  · exact both_of 48 16 t3 a h.1 h.2
  · exact both_of 64 16 t4 a h.1 h.2
  · exact both_of 80 16 t5 a h.1 h.2
  · exact both_of 96 16 t6 a h.1 h.2
  · exact both_of 112 16 t7 a h.1 h.2
  · exact both_of 128 16 t8 a h.1 h.2
  · exact both_of 144 16 t9 a h.1 h.2
  · exact both_of 160 16 t10 a h.1 h.2
  · exact both_of 176 16 t11 a h.1 h.2
  · exact both_of 192 16 t12 a h.1 h.2
  · exact both_of 208 16 t13 a h.1 h.2
  · exact both_of 224 16 t14 a h.1 h.2
  · exact both_of 240 16 t15 a h.1 h.2

theorem law_f (a b : Nat) (ha : a < 256) (hb : b < 256) : easementlaw16_RightsGiven.f 12 a b = some true := by
  have h := ok_all a b ha hb
  unfold ok at h
  split at h
  · rename_i r hr; rw [hr, h]
  · cases h
theorem walk (x0 : Int) (x1 : Int) (W : World) (p0 : (IntKind.u8.min ≤ x0 ∧ x0 ≤ IntKind.u8.max)) (p1 : (IntKind.u8.min ≤ x1 ∧ x1 ≤ IntKind.u8.max)) :
    Calls Try.prog 13 #[.int .u8 x0, .int .u8 x1] W fun e W' => e = .returned (.bool true) ∧ Below W.heap.size W W' := by
  obtain ⟨a, rfl, ha⟩ := u8_nat p0
  obtain ⟨b, rfl, hb⟩ := u8_nat p1
  exact easementlaw16_RightsGiven.calls 12 a b true W (law_f a b ha hb)
end Go.Proofs.Ytcpcnnpdbognlaa.VcRightsGiven
