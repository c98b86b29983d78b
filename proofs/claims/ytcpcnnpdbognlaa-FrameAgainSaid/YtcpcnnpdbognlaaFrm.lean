/- frame: what frames bytes hold (lists alone); a reader behind a pointer. -/
import Derived.Test.YtcpcnnpdbognlaaCloneB
import Derived.Test.YtcpcnnpdbognlaaFrame
import Derived.Test.YtcpcnnpdbognlaaWLast
import Derived.Deep.QuietTactic
import Derived.BigQuiet
import Derived.Deep.LoopGhost
import Derived.ArgAppend
import Derived.Laws.BitsAllLaws
import Derived.Outline
namespace Go.Proofs.Ytcpcnnpdbognlaa.Frm
open Go.RowKit Go Go.Proofs.YtcpcnnpdbognlaaW.PrintWords Go.Proofs.YtcpcnnpdbognlaaW.PrintMore Go.Proofs.YtcpcnnpdbognlaaW.PrintLast Go.Proofs.Ytcpcnnpdbognlaa.Bts Go.Proofs.Ytcpcnnpdbognlaa.Fra

def Bs (xs : List Int) : Prop := ∀ x ∈ xs, 0 ≤ x ∧ x ≤ 255
/-- What the first two bytes tell. -/
def len2 (xs : List Int) : Nat := (xs.getD 0 0 + 256 * xs.getD 1 0).toNat
/-- The frames of bytes: they, what is left, whether one is too long. -/
def frs : Nat → List Int → List (List Int) × List Int × Bool
  | 0, xs => ([], xs, false)
  | q + 1, xs =>
    if xs.length < 2 then ([], xs, false)
    else if 9000 < len2 xs then ([], [], true)
    else if xs.length < 2 + len2 xs then ([], xs, false)
    else ((xs.drop 2).take (len2 xs) :: (frs q (xs.drop (2 + len2 xs))).1, (frs q (xs.drop (2 + len2 xs))).2)
theorem frs_more : ∀ (q q' : Nat) (xs : List Int), xs.length ≤ q → xs.length ≤ q' → frs q xs = frs q' xs
  | 0, 0, xs, _, _ => rfl
  | 0, q' + 1, xs, h, _ => by
    obtain rfl := List.eq_nil_of_length_eq_zero (Nat.le_zero.1 h)
    rfl
  | q + 1, 0, xs, _, h => by
    obtain rfl := List.eq_nil_of_length_eq_zero (Nat.le_zero.1 h)
    rfl
  | q + 1, q' + 1, xs, h, h' => by
    unfold frs
    split
    · rfl
    · split
      · rfl
      · split
        · rfl
        · rw [frs_more q q' (xs.drop (2 + len2 xs)) (by rw [List.length_drop]; omega) (by rw [List.length_drop]; omega)]
def fr (xs : List Int) : List (List Int) × List Int × Bool := frs xs.length xs
theorem fr_short (xs : List Int) (h : xs.length < 2) : fr xs = ([], xs, false) := by
  unfold fr
  cases hq : xs.length with
  | zero => unfold frs; rfl
  | succ q => unfold frs; rw [if_pos h]
theorem fr_long (xs : List Int) (h : 2 ≤ xs.length) (hl : 9000 < len2 xs) : fr xs = ([], [], true) := by
  unfold fr
  obtain ⟨q, hq⟩ : ∃ q, xs.length = q + 1 := ⟨xs.length - 1, by omega⟩
  rw [hq]
  unfold frs
  rw [if_neg (by omega), if_pos hl]
theorem fr_wait (xs : List Int) (h : 2 ≤ xs.length) (hl : len2 xs ≤ 9000) (hw : xs.length < 2 + len2 xs) : fr xs = ([], xs, false) := by
  unfold fr
  obtain ⟨q, hq⟩ : ∃ q, xs.length = q + 1 := ⟨xs.length - 1, by omega⟩
  rw [hq]
  unfold frs
  rw [if_neg (by omega), if_neg (by omega), if_pos hw]
theorem fr_step (xs : List Int) (hl : len2 xs ≤ 9000) (hw : 2 + len2 xs ≤ xs.length) :
    fr xs = ((xs.drop 2).take (len2 xs) :: (fr (xs.drop (2 + len2 xs))).1, (fr (xs.drop (2 + len2 xs))).2) := by
  have e : frs xs.length xs = frs (xs.length - 1 + 1) xs := by congr 1; omega
  show frs xs.length xs = _
  rw [e]
  unfold frs
  rw [if_neg (by omega), if_neg (by omega), if_neg (by omega), frs_more (xs.length - 1) (xs.drop (2 + len2 xs)).length (xs.drop (2 + len2 xs)) (by rw [List.length_drop]; omega) (Nat.le_refl _)]
  rfl
theorem i64_or_nat (a b : Nat) (ha : a < 9223372036854775808) (hb : b < 9223372036854775808) : bits .or .i64 (a : Int) (b : Int) = ((a ||| b : Nat) : Int) := by
  have hx : a ||| b < 2 ^ 63 := Nat.or_lt_two_pow (by omega) (by omega)
  show IntKind.i64.wrap ((BitVec.ofInt 64 (a : Int) ||| BitVec.ofInt 64 (b : Int)).toNat : Int) = _
  rw [BitVec.toNat_or, ofInt_u64 a (by omega), ofInt_u64 b (by omega), IntKind.wrap_i64]
  omega
theorem or_len (a b : Int) (ha0 : 0 ≤ a) (ha1 : a ≤ 255) (hb0 : 0 ≤ b) (hb1 : b ≤ 255) : bits .or .i64 a (b * 256) = a + 256 * b := by
  obtain ⟨x, rfl⟩ : ∃ x : Nat, a = x := ⟨a.toNat, by omega⟩
  obtain ⟨y, rfl⟩ : ∃ y : Nat, b = y := ⟨b.toNat, by omega⟩
  have e : (y : Int) * 256 = ((y * 256 : Nat) : Int) := by omega
  rw [e, i64_or_nat x (y * 256) (by omega) (by omega)]
  have h := Nat.two_pow_add_eq_or_of_lt (i := 8) (b := x) (by omega) y
  rw [Nat.or_comm, Nat.mul_comm y, show (256 : Nat) = 2 ^ 8 from rfl, ← h]
  omega
theorem infoByte : (Try.prog.info? 5).map (fun i => (i.zero, i.size, i.bytes)) = some (some (.int .u8 0), 1, 1) := by kernel_rfl
theorem infoRow : (Try.prog.info? 36).map (fun i => (i.zero, i.size, i.bytes)) = some (some (.slice none 0 0), 1, 24) := by kernel_rfl
abbrev kF : Kd (List Int) := Kd.slice 5 (Kd.int .u8)
/-- A reader at block g: its bytes, in a row of its own, and what is wrong. -/
def Fd (w : World) (g : Nat) (v : Value) (xs : List Int) (f : Int) : Prop :=
  w.heap[g]? = some (.cells #[v, .int .i64 f] 40 (0, 0)) ∧ w.ownsRow 0 5 1 v xs.length (nums .u8 xs) ∧ ∀ k, v.ownBlock = some k → ¬ k = g
theorem Fd.below {w w' : World} {g : Nat} {v : Value} {xs : List Int} {f : Int} (h : Fd w g v xs f) (hb : Below w.heap.size w w') : Fd w' g v xs f := by
  obtain ⟨h1, h2, h3⟩ := h
  exact ⟨blk_below h1 hb, pw_own_below h2 hb, h3⟩
theorem feed_nil (v : Value) (w : World) : Calls Try.prog 27 #[.pointer none, v] w fun e w' => e = .returned (.tuple #[.slice none 0 0, .int .i64 1]) ∧ w = w' := by
  go_enter Try.func27, Try.ntmps27
  go_wp2
  go_ret2
  exact ⟨rfl, rfl⟩
theorem left_nil (w : World) : Calls Try.prog 30 #[.pointer none] w fun e w' => e = .returned (.int .i64 0) ∧ w = w' := by
  go_enter Try.func30, Try.ntmps30
  go_wp2
  go_ret
  exact ⟨rfl, rfl⟩
theorem left_calls (g : Nat) (v : Value) (xs : List Int) (f : Int) (w : World) (h : Fd w g v xs f) : Calls Try.prog 30 #[.pointer (some ⟨g, 0, none⟩)] w fun e w' => e = .returned (.int .i64 xs.length) ∧ w = w' := by
  obtain ⟨h1, h2, h3⟩ := h
  obtain ⟨A, c, rfl⟩ := own_slice h2
  have hc0 : w.cell? ⟨g, 0, none⟩ = some (.slice A xs.length c) := blk_cell h1 0
  clear h1 h2 h3
  go_enter Try.func30, Try.ntmps30
  go_wp2
  go_ret
  exact ⟨rfl, rfl⟩
end Go.Proofs.Ytcpcnnpdbognlaa.Frm
