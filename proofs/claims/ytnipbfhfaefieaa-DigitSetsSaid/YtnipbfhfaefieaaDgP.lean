/- digits: a set's Has, Place, Len. -/
import Derived.Test.YtnipbfhfaefieaaDgO
namespace Go.Proofs.Ytnipbfhfaefieaa.Dig
open Go.RowKit Go Go.Proofs.YtnipbfhfaefieaaW.PrintWords Go.Proofs.YtnipbfhfaefieaaW.PrintMore Go.Proofs.YtnipbfhfaefieaaW.PrintLast
attribute [local go_sem] max2_int min2_int max_two min_two
/-- How many places a number means. -/
def cl (i : Int) : Nat := if i < 0 then 0 else if 32 < i then 32 else i.toNat
theorem cl_le (i : Int) : cl i ≤ 32 := by unfold cl; split <;> (try split) <;> omega
theorem cl_nat (k : Nat) (h : k ≤ 32) : cl (k : Int) = k := by unfold cl; split <;> (try split) <;> omega
theorem mask_is (s k : Nat) (hs : s < 2 ^ 32) (hk : k ≤ 32) : Go.bits .and .u64 (s : Int) (IntKind.u64.wrap (IntKind.u64.wrap (2 ^ k) - 1)) % 4294967296 = ((s % 2 ^ k : Nat) : Int) := by
  have hp : 2 ^ k ≤ 2 ^ 32 := Nat.pow_le_pow_right (by decide) hk
  have hp0 : 0 < 2 ^ k := Nat.pow_pos (by decide)
  have e0 : ((2 : Int) ^ k) = ((2 ^ k : Nat) : Int) := by rw [Int.natCast_pow]; rfl
  obtain ⟨q, hq⟩ : ∃ q, 2 ^ k = q := ⟨_, rfl⟩
  have e3 : s &&& (q - 1) = s % q := by rw [← hq]; exact Nat.and_two_pow_sub_one_eq_mod s k
  rw [e0, hq]
  rw [hq] at hp hp0
  have hq32 : q ≤ 4294967296 := hp
  have e1 : IntKind.u64.wrap (q : Int) = (q : Int) := by rw [IntKind.wrap_u64]; omega
  have e2 : IntKind.u64.wrap ((q : Int) - 1) = ((q - 1 : Nat) : Int) := by rw [IntKind.wrap_u64]; omega
  rw [e1, e2]
  have h64 : (4294967296 : Nat) < 2 ^ 64 := by decide
  have h1 := (bits_nat .u64 64 (by decide) wraps_u64 s (q - 1) (Nat.lt_of_lt_of_le hs (by decide)) (by omega)).1
  rw [h1, e3]
  have h2 : s % q ≤ s := Nat.mod_le _ _
  have h3 : s < 4294967296 := hs
  omega
theorem cnt_mask (s k : Nat) (hk : k ≤ 32) : cnt (s % 2 ^ k) 32 = cnt s k := by
  have h1 : s % 2 ^ k < 2 ^ k := Nat.mod_lt _ (Nat.pow_pos (by decide))
  have h2 := cnt_beyond h1 (32 - k)
  have h3 : k + (32 - k) = 32 := by omega
  rw [h3] at h2
  rw [h2, cnt_mod]
set_option maxHeartbeats 4000000 in
set_option maxRecDepth 100000 in
theorem place_calls (s : Nat) (hs : s < 2 ^ 32) (i : Int) (w : World) : Calls Try.prog 15 #[.int .u32 (s : Int), .int .i64 i] w fun e w' => e = .returned (.int .i64 (cnt s (cl i) : Nat)) ∧ Below w.heap.size w w' := by
  obtain ⟨k, hk⟩ : ∃ k, cl i = k := ⟨_, rfl⟩
  have hk32 : k ≤ 32 := by rw [← hk]; exact cl_le i
  obtain ⟨m, hm⟩ : ∃ m : Int, (if i < 0 then 0 else i) = m := ⟨_, rfl⟩
  have hm0 : 0 ≤ m := by rw [← hm]; split <;> omega
  have hmk : (if 32 < m then 32 else m) = (k : Int) := by rw [← hk, ← hm]; unfold cl; split <;> (try split) <;> omega
  rw [hk, ← cnt_mask s k hk32]
  have hmask := mask_is s k hs hk32
  have ht : s % 2 ^ k < 2 ^ 32 := Nat.lt_of_le_of_lt (Nat.mod_le _ _) hs
  obtain ⟨t, hte⟩ : ∃ t, s % 2 ^ k = t := ⟨_, rfl⟩
  rw [hte] at hmask ht ⊢
  have HT := Lib.hid ht
  clear ht hte
  go_enter Try.func15, Try.ntmps15
  go_wp2_with (go_at_call 63; go_loud (refine (ones_calls t HT.out _).mono ?_; rintro e w' ⟨rfl, hd⟩; have HD := Lib.hid hd; clear hd))
  go_ret
  exact ⟨rfl, HD.out.below⟩
theorem len_calls (s : Nat) (hs : s < 2 ^ 32) (w : World) : Calls Try.prog 18 #[.int .u32 (s : Int)] w fun e w' => e = .returned (.int .i64 (cnt s 32 : Nat)) ∧ Below w.heap.size w w' := by
  go_enter Try.func18, Try.ntmps18
  go_wp2_with (go_at_call 15; go_loud (refine (place_calls s hs 32 _).mono ?_; rintro e w' ⟨rfl, hd⟩; have HD := Lib.hid hd; clear hd))
  go_ret
  exact ⟨rfl, HD.out⟩
/-- Is a number in a set? -/
def isin (s : Nat) (i : Int) : Bool := decide (0 ≤ i) && (decide (i < 32) && s.testBit i.toNat)
theorem bit_is (s k : Nat) (hs : s < 2 ^ 32) : (Go.bits .and .u32 ((s / 2 ^ k : Nat) : Int) 1 == 1) = s.testBit k := by
  have h0 : s / 2 ^ k < 2 ^ 32 := Nat.lt_of_le_of_lt (Nat.div_le_self _ _) hs
  have h1 := (bits_nat .u32 32 (by decide) wraps_u32 (s / 2 ^ k) 1 h0 (by decide)).1
  have h2 : Go.bits .and .u32 ((s / 2 ^ k : Nat) : Int) 1 = (((s / 2 ^ k) &&& 1 : Nat) : Int) := h1
  rw [h2, Nat.and_one_is_mod, Nat.testBit_eq_decide_div_mod_eq]
  rcases Nat.mod_two_eq_zero_or_one (s / 2 ^ k) with h | h <;> rw [h] <;> rfl
set_option maxHeartbeats 4000000 in
set_option maxRecDepth 100000 in
theorem has_calls (s : Nat) (hs : s < 2 ^ 32) (i : Int) (w : World) : Calls Try.prog 14 #[.int .u32 (s : Int), .int .i64 i] w fun e w' => e = .returned (.bool (isin s i)) ∧ Below w.heap.size w w' := by
  by_cases h0 : 0 ≤ i
  · by_cases h1 : i < 32
    · obtain ⟨k, rfl⟩ : ∃ k : Nat, i = (k : Int) := ⟨i.toNat, by omega⟩
      have hk : k < 32 := by omega
      have hb := bit_is s k hs
      have hin : isin s (k : Int) = s.testBit k := by unfold isin; rw [decide_eq_true h0, decide_eq_true h1]; rfl
      rw [hin, ← hb]
      have e1 : ((s / 2 ^ k : Nat) : Int) = (s : Int) / 2 ^ k := by rw [Int.natCast_ediv, Int.natCast_pow]; rfl
      rw [e1]
      clear hin hb e1
      go_enter Try.func14, Try.ntmps14
      go_wp2
      go_ret
      exact ⟨rfl, by first | exact Below.refl _ _ | exact below_drew1 (Below.refl _ _)⟩
    · have hin : isin s i = false := by unfold isin; rw [decide_eq_true h0, decide_eq_false h1]; rfl
      rw [hin]
      go_enter Try.func14, Try.ntmps14
      go_wp2
      go_ret
      exact ⟨by simp, by first | exact Below.refl _ _ | exact below_drew1 (Below.refl _ _)⟩
  · have hin : isin s i = false := by unfold isin; rw [decide_eq_false h0]; rfl
    rw [hin]
    go_enter Try.func14, Try.ntmps14
    go_wp2
    go_ret
    exact ⟨by simp, by first | exact Below.refl _ _ | exact below_drew1 (Below.refl _ _)⟩
end Go.Proofs.Ytnipbfhfaefieaa.Dig
