/- Arrays of numbers that are compared. No program is named here. -/
import Derived.Laws.StructEq
import Derived.Test.YtaoacibahdbdkaaWWords
namespace Go.Proofs.Ytaoacibahdbdkaa.ArrEq
open Go.RowKit Go
variable {P : Program} {T E : TypeId} {k : IntKind}
theorem equalIn_arr3 (d : Nat) (ht : P.underlying T = some (.array 3 E)) (he : P.underlying E = some (.int k)) (w : World) (a b c x y z : Int) (hs : (sizeOf E).run P w = .ok 1 w)
    (hp : ∀ (a b c : Int), (part E #[.int k a, .int k b, .int k c] 0).run P w = .ok (.int k a) w ∧ (part E #[.int k a, .int k b, .int k c] 1).run P w = .ok (.int k b) w ∧ (part E #[.int k a, .int k b, .int k c] 2).run P w = .ok (.int k c) w) :
    (Op.equalIn (d + 2) T (.agg #[.int k a, .int k b, .int k c]) (.agg #[.int k x, .int k y, .int k z])).run P w = .ok (a == x && b == y && c == z) w := by
  obtain ⟨p1, p2, p3⟩ := hp a b c
  obtain ⟨q1, q2, q3⟩ := hp x y z
  have h1 := run_equalIn_int w d E k k a x he
  have h2 := run_equalIn_int w d E k k b y he
  have h3 := run_equalIn_int w d E k k c z he
  rw [Op.equalIn]
  simp [run_underlying ht, hs, List.range', p1, p2, p3, q1, q2, q3, h1, h2, h3]
  by_cases e1 : a = x <;> by_cases e2 : b = y <;> by_cases e3 : c = z <;> simp [e1, e2, e3]
theorem equalIn_arr2 (d : Nat) (ht : P.underlying T = some (.array 2 E)) (he : P.underlying E = some (.int k)) (w : World) (a b x y : Int) (hs : (sizeOf E).run P w = .ok 1 w)
    (hp : ∀ (a b : Int), (part E #[.int k a, .int k b] 0).run P w = .ok (.int k a) w ∧ (part E #[.int k a, .int k b] 1).run P w = .ok (.int k b) w) :
    (Op.equalIn (d + 2) T (.agg #[.int k a, .int k b]) (.agg #[.int k x, .int k y])).run P w = .ok (a == x && b == y) w := by
  obtain ⟨p1, p2⟩ := hp a b
  obtain ⟨q1, q2⟩ := hp x y
  have h1 := run_equalIn_int w d E k k a x he
  have h2 := run_equalIn_int w d E k k b y he
  rw [Op.equalIn]
  simp [run_underlying ht, hs, List.range', p1, p2, q1, q2, h1, h2]
  by_cases e1 : a = x <;> by_cases e2 : b = y <;> simp [e1, e2]
end Go.Proofs.Ytaoacibahdbdkaa.ArrEq
