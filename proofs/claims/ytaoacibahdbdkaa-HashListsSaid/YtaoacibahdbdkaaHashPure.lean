/- hash: what Mix is, and that it mixes two numbers to two. No program. -/
import Derived.Test.YtaoacibahdbdkaaHashKey
import Derived.Laws.BitsAllLaws
namespace Go.Proofs.Ytaoacibahdbdkaa.Hsh
open Go.RowKit Go
def xs (x : BitVec 64) (k : Nat) : BitVec 64 := x ^^^ (x >>> k)
def xi (y : BitVec 64) (k : Nat) : BitVec 64 := y ^^^ (y >>> k) ^^^ (y >>> (k + k))
theorem xi_xs (x : BitVec 64) (k : Nat) (h : 64 ≤ k + k + k) : xi (xs x k) k = x := by
  unfold xi xs
  have e1 : (x ^^^ x >>> k) >>> k = (x >>> k) ^^^ (x >>> (k + k)) := by rw [BitVec.ushiftRight_xor_distrib, BitVec.shiftRight_add]
  have e2 : (x ^^^ x >>> k) >>> (k + k) = (x >>> (k + k)) ^^^ (x >>> (k + k + k)) := by
    rw [BitVec.ushiftRight_xor_distrib]; congr 1
    rw [← BitVec.shiftRight_add]; congr 1; omega
  have e3 : x >>> (k + k + k) = 0#64 := by
    apply BitVec.eq_of_toNat_eq
    rw [BitVec.toNat_ushiftRight, Nat.shiftRight_eq_div_pow]
    have h1 : x.toNat < 2 ^ 64 := x.isLt
    have h2 : 2 ^ 64 ≤ 2 ^ (k + k + k) := Nat.pow_le_pow_right (by decide) h
    simp
    omega
  rw [e1, e2, e3, BitVec.xor_zero]
  generalize x >>> k = a
  generalize x >>> (k + k) = b
  rw [BitVec.xor_assoc x a (a ^^^ b), ← BitVec.xor_assoc a a b, BitVec.xor_self, BitVec.zero_xor, BitVec.xor_assoc, BitVec.xor_self, BitVec.xor_zero]
theorem mul_back (x c d : BitVec 64) (h : c * d = 1#64) : x * c * d = x := by rw [BitVec.mul_assoc, h, BitVec.mul_one]
def mixV (x : BitVec 64) : BitVec 64 := xs (xs (xs x 30 * 13787848793156543929#64) 27 * 10723151780598845931#64) 31
def unmixV (y : BitVec 64) : BitVec 64 := xi (xi (xi y 31 * 3573116690164977347#64) 27 * 10871156337175269513#64) 30
theorem unmix_mix (x : BitVec 64) : unmixV (mixV x) = x := by
  unfold unmixV mixV
  rw [xi_xs _ 31 (by decide), mul_back _ _ _ (by decide), xi_xs _ 27 (by decide), mul_back _ _ _ (by decide), xi_xs _ 30 (by decide)]
theorem xshr_V (x : BitVec 64) (k d : Nat) (hd : d = 2 ^ k) : xshr (x.toNat : Int) (d : Int) = ((xs x k).toNat : Int) := by
  unfold xshr xs
  rw [← Int.natCast_ediv, u64_xor_nat _ _ x.isLt (Nat.lt_of_le_of_lt (Nat.div_le_self _ _) x.isLt), BitVec.toNat_xor, BitVec.toNat_ushiftRight, Nat.shiftRight_eq_div_pow, hd]
theorem wrap_V (x c : BitVec 64) : IntKind.u64.wrap ((x.toNat : Int) * (c.toNat : Int)) = ((x * c).toNat : Int) := by
  rw [BitVec.toNat_mul, ← Int.natCast_mul]
  generalize x.toNat * c.toNat = n
  simp [IntKind.wrap, IntKind.bits, IntKind.signed]
theorem mixI_V (x : BitVec 64) : mixI (x.toNat : Int) = ((mixV x).toNat : Int) := by
  have h1 : mixA (x.toNat : Int) = ((xs x 30 * 13787848793156543929#64).toNat : Int) := by
    unfold mixA
    rw [show (1073741824 : Int) = ((1073741824 : Nat) : Int) from rfl, xshr_V x 30 _ (by decide)]
    exact wrap_V _ 13787848793156543929#64
  have h2 : ∀ y : BitVec 64, mixB (y.toNat : Int) = ((xs y 27 * 10723151780598845931#64).toNat : Int) := by
    intro y
    unfold mixB
    rw [show (134217728 : Int) = ((134217728 : Nat) : Int) from rfl, xshr_V y 27 _ (by decide)]
    exact wrap_V _ 10723151780598845931#64
  unfold mixI mixV
  rw [h1, h2, show (2147483648 : Int) = ((2147483648 : Nat) : Int) from rfl, xshr_V _ 31 _ (by decide)]
theorem mixI_ofNat (n : Int) (h0 : 0 ≤ n) (h1 : n ≤ 18446744073709551615) : ∃ x : BitVec 64, n = (x.toNat : Int) := ⟨BitVec.ofNat 64 n.toNat, by rw [BitVec.toNat_ofNat]; omega⟩
theorem mixI_bd (n : Int) (h0 : 0 ≤ n) (h1 : n ≤ 18446744073709551615) : 0 ≤ mixI n ∧ mixI n ≤ 18446744073709551615 := by
  obtain ⟨x, rfl⟩ := mixI_ofNat n h0 h1
  rw [mixI_V]
  have := (mixV x).isLt
  omega
theorem mixI_eq (a b : Int) (h0 : 0 ≤ a) (h1 : a ≤ 18446744073709551615) (h2 : 0 ≤ b) (h3 : b ≤ 18446744073709551615) : (mixI a == mixI b) = (a == b) := by
  obtain ⟨x, rfl⟩ := mixI_ofNat a h0 h1
  obtain ⟨y, rfl⟩ := mixI_ofNat b h2 h3
  rw [mixI_V, mixI_V, Bool.eq_iff_iff, beq_iff_eq, beq_iff_eq]
  constructor
  · intro h
    have h : mixV x = mixV y := BitVec.eq_of_toNat_eq (by omega)
    have := congrArg unmixV h
    rw [unmix_mix, unmix_mix] at this
    rw [this]
  · intro h
    have h : x = y := BitVec.eq_of_toNat_eq (by omega)
    rw [h]
theorem xor_bd (a b : Int) (h0 : 0 ≤ a) (h1 : a ≤ 18446744073709551615) (h2 : 0 ≤ b) (h3 : b ≤ 18446744073709551615) : 0 ≤ bits .xor .u64 a b ∧ bits .xor .u64 a b ≤ 18446744073709551615 := by
  obtain ⟨x, rfl⟩ := mixI_ofNat a h0 h1
  obtain ⟨y, rfl⟩ := mixI_ofNat b h2 h3
  rw [u64_xor_nat _ _ x.isLt y.isLt, ← BitVec.toNat_xor]
  have := (x ^^^ y).isLt
  omega
theorem key_bd (seed : Int) : 0 ≤ keyI seed ∧ keyI seed ≤ 18446744073709551615 := by
  have h := wrap_u64 (seed + 11400714819323198485)
  exact mixI_bd _ h.1 h.2
/-- A byte more. -/
def stepI (a c : Int) : Int := IntKind.u64.wrap (bits .xor .u64 a (IntKind.u64.wrap c) * 1099511628211)
def bytesI (seed : Int) (l : List Int) : Int := l.foldl stepI (keyI seed)
theorem bytesI_snoc (seed : Int) (l : List Int) (c : Int) : bytesI seed (l ++ [c]) = stepI (bytesI seed l) c := by simp [bytesI]
theorem bytesI_bd (seed : Int) (l : List Int) : 0 ≤ bytesI seed l ∧ bytesI seed l ≤ 18446744073709551615 := by
  rcases List.eq_nil_or_concat l with rfl | ⟨l', c, rfl⟩
  · exact key_bd seed
  · rw [List.concat_eq_append, bytesI_snoc]; exact wrap_u64 _
end Go.Proofs.Ytaoacibahdbdkaa.Hsh
