/- digits: the reference's Set and Below. -/
import Derived.Test.YtnipbfhfaefieaaDgS
import Derived.Test.YtnipbfhfaefieaaDgA
namespace Go.Proofs.Ytnipbfhfaefieaa.Dig
open Go.RowKit Go Go.Proofs.YtnipbfhfaefieaaW.PrintWords Go.Proofs.YtnipbfhfaefieaaW.PrintMore Go.Proofs.YtnipbfhfaefieaaW.PrintLast Go.Proofs.Ytnipbfhfaefieaa.DigP
def bitsOf (n : Nat) : List Bool := (List.range 32).map n.testBit
theorem w64n {n : Nat} (h : n ≤ 1000) : wrap64 ((n : Int) + 1) = ((n + 1 : Nat) : Int) := by unfold wrap64; omega
theorem set_l0 (n : Nat) (hn : n < 2 ^ 32) : ∀ (m j fuel : Nat) (l : List Bool), j + m = 32 → m < fuel → l.length = 32 →
    easementref05_Set.l0 fuel ((n / 2 ^ j : Nat) : Int) l (j : Int) = some (l.take j ++ (List.range m).map fun i => n.testBit (j + i))
  | 0, j, 0, l, _, hf, _ => by omega
  | 0, j, f + 1, l, hj, _, hl => by
    have hj2 : j = 32 := by omega
    subst hj2
    rw [easementref05_Set.l0, if_neg (by omega), List.take_of_length_le (by omega)]
    simp
  | m + 1, j, 0, l, _, hf, _ => by omega
  | m + 1, j, f + 1, l, hj, hf, hl => by
    have h0 : n / 2 ^ j < 4294967296 := Nat.lt_of_le_of_lt (Nat.div_le_self _ _) hn
    have e1 : (Int.tdiv ((n / 2 ^ j : Nat) : Int) 2) % 4294967296 = ((n / 2 ^ (j + 1) : Nat) : Int) := by
      rw [Nat.pow_succ, ← Nat.div_div_eq_div_mul]
      obtain ⟨q, hq⟩ : ∃ q, n / 2 ^ j = q := ⟨_, rfl⟩
      rw [hq] at h0 ⊢
      rw [Int.tdiv_eq_ediv_of_nonneg (by omega)]
      omega
    have e2 : ((Int.tmod ((n / 2 ^ j : Nat) : Int) 2) == 1) = n.testBit j := by
      rw [Nat.testBit_eq_decide_div_mod_eq]
      obtain ⟨q, hq⟩ : ∃ q, n / 2 ^ j = q := ⟨_, rfl⟩
      rw [hq, Int.tmod_eq_emod_of_nonneg (by omega)]
      rcases Nat.mod_two_eq_zero_or_one q with h | h
      · have h2 : (q : Int) % 2 = 0 := by omega
        rw [h, h2]
        rfl
      · have h2 : (q : Int) % 2 = 1 := by omega
        rw [h, h2]
        rfl
    rw [easementref05_Set.l0, if_pos (by omega), if_pos (by omega), if_pos (by omega), e1, e2, w64n (by omega), Int.toNat_natCast]
    rw [set_l0 n hn m (j + 1) f _ (by omega) (by omega) (by rw [List.length_set]; exact hl)]
    congr 1
    have e3 : (l.set j (n.testBit j)).take (j + 1) = l.take j ++ [n.testBit j] := by
      rw [List.take_succ_eq_append_getElem (by rw [List.length_set]; omega), List.take_set_of_le (by omega)]
      simp
    rw [e3, List.range_succ_eq_map, List.map_cons, List.append_assoc, List.map_map]
    have e4 : (List.range m).map (fun i => n.testBit (j + 1 + i)) = (List.range m).map ((fun i => n.testBit (j + i)) ∘ Nat.succ) := List.map_congr_left (fun i _ => by
      show n.testBit (j + 1 + i) = n.testBit (j + (i + 1))
      congr 1
      omega)
    rw [e4]
    rfl
theorem set_f (n k : Nat) (hn : n < 2 ^ 32) (hk : 40 ≤ k) : easementref05_Set.f k (n : Int) = some (bitsOf n) := by
  unfold easementref05_Set.f
  rw [if_pos (by decide)]
  have h := set_l0 n hn 32 0 k (List.replicate 32 false) (by omega) (by omega) (by simp)
  rw [Nat.pow_zero, Nat.div_one] at h
  rw [show (0 : Int) = ((0 : Nat) : Int) from rfl, h]
  unfold bitsOf
  simp
theorem bits_at (n k : Nat) (h : k < 32) : (bitsOf n)[k]? = some (n.testBit k) := by
  unfold bitsOf
  rw [List.getElem?_map, List.getElem?_range h]
  rfl
theorem bits_len (n : Nat) : (bitsOf n).length = 32 := by unfold bitsOf; simp
theorem bits_rd (n k : Nat) (h : k < 32) : rdOf false (bitsOf n) (k : Int) = n.testBit k := by
  unfold rdOf
  simp [bits_at n k h]
theorem cl_lt {i : Int} {x : Nat} (h : x < cl i) : (x : Int) < 32 ∧ (x : Int) < i := by
  unfold cl at h
  split at h
  · omega
  · split at h <;> omega
theorem cl_end {i : Int} {x : Nat} (h : x = cl i) : ¬ (x : Int) < 32 ∨ ¬ (x : Int) < i := by
  unfold cl at h
  split at h
  · right; omega
  · split at h
    · left; omega
    · right; omega
theorem below_l0 (n : Nat) (i : Int) : ∀ (m x fuel : Nat), x + m = cl i → 2 * m + 2 ≤ fuel → easementref05_Below.l0 fuel i (bitsOf n) (cnt n x : Nat) (x : Int) = some ((cnt n (cl i) : Nat) : Int)
  | 0, x, 0, _, hf => by omega
  | 0, x, 1, _, hf => by omega
  | 0, x, f + 2, hx, _ => by
    have hx : x = cl i := by omega
    rcases cl_end hx with h | h
    · rw [easementref05_Below.l0, if_neg h, easementref05_Below.j1, if_neg (by decide), hx]
    · rw [easementref05_Below.l0, decide_eq_false h]
      split
      · rw [easementref05_Below.j1, if_neg (by decide), hx]
      · rw [easementref05_Below.j1, if_neg (by decide), hx]
  | m + 1, x, 0, _, hf => by omega
  | m + 1, x, 1, _, hf => by omega
  | m + 1, x, f + 2, hx, hf => by
    have h0 : x < cl i := by omega
    obtain ⟨h1, h2⟩ := cl_lt h0
    have h3 := cnt_le n x
    rw [easementref05_Below.l0, if_pos h1, decide_eq_true h2, easementref05_Below.j1, if_pos rfl, if_pos (by omega), if_pos (by rw [bits_len]; exact h1), bits_rd n x (by omega)]
    have e1 : cnt n (x + 1) = cnt n x + (if n.testBit x then 1 else 0) := rfl
    cases hb : n.testBit x with
    | true =>
      rw [hb] at e1
      have e2 : cnt n (x + 1) = cnt n x + 1 := e1
      rw [if_pos rfl, w64n (by omega), w64n (by omega), ← e2]
      exact below_l0 n i m (x + 1) f (by omega) (by omega)
    | false =>
      rw [hb] at e1
      have e2 : cnt n (x + 1) = cnt n x := e1
      rw [if_neg (by decide), w64n (by omega), ← e2]
      exact below_l0 n i m (x + 1) f (by omega) (by omega)
theorem below_f (n : Nat) (hn : n < 2 ^ 32) (i : Int) : easementref05_Below.f 70 (n : Int) i = some ((cnt n (cl i) : Nat) : Int) := by
  unfold easementref05_Below.f
  have h1 := set_f n 70 hn (by omega)
  rw [h1]
  exact below_l0 n i (cl i) 0 70 (by omega) (by have := cl_le i; omega)
theorem ref_set (n : Nat) (hn : n < 2 ^ 32) (w : World) : Calls Try.prog 13 #[.int .u32 (n : Int)] w fun e w' => ∃ v, e = .returned v ∧ Kd.R Kd.bool 4 w' w.heap.size (fun _ => True) v (bitsOf n) ∧ Below w.heap.size w w' :=
  easementref05_Set.calls 70 _ _ w (set_f n 70 hn (by omega))
theorem ref_below (n : Nat) (hn : n < 2 ^ 32) (i : Int) (w : World) : Calls Try.prog 16 #[.int .u32 (n : Int), .int .i64 i] w fun e w' => e = .returned (.int .i64 ((cnt n (cl i) : Nat) : Int)) ∧ Below w.heap.size w w' :=
  easementref05_Below.calls 70 _ _ _ w (below_f n hn i)
theorem lives_calls (w : World) : Calls Try.prog 12 #[] w fun e w' => e = .returned (.bool true) ∧ Drawn0 w w' :=
  easementlaw05_lives.calls 20 true w (by decide +kernel)
end Go.Proofs.Ytnipbfhfaefieaa.Dig
