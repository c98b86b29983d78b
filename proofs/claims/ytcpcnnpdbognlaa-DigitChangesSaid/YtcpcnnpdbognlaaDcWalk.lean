/- DigitChanges: the plain law on sets of digits, and the walk of the law's function over the printed contracts of its callees. No condition. -/
import Derived.Test.YtcpcnnpdbognlaaPDigitChangesx1
import Derived.Lib.Hide
namespace Go.Proofs.Ytcpcnnpdbognlaa.DC
open Go.RowKit Go.Proofs.Ytcpcnnpdbognlaa.PDigitChanges Go.Proofs.YtcpcnnpdbognlaaW.PrintWords Go.Proofs.YtcpcnnpdbognlaaW.PrintLast Go.Proofs.YtcpcnnpdbognlaaW.PrintMore

/-! ## the plain law -/
def hasB (s i : Int) : Bool := (Go.bits .and .u32 (shr .u32 s i) 1) == 1
theorem has_f (s i : Int) (h0 : 0 ≤ i) (h1 : i < 32) : digit_Set_Has.f s i = some (hasB s i) := by
  unfold digit_Set_Has.f hasB
  rw [if_pos h0, if_pos h1, if_pos h0]
theorem bits_u32 (a b : Nat) (ha : a < 2 ^ 32) (hb : b < 2 ^ 32) : Go.bits .and .u32 a b = ((a &&& b : Nat) : Int) ∧ Go.bits .or .u32 a b = ((a ||| b : Nat) : Int) :=
  bits_nat .u32 32 (by decide) (fun n h0 h1 => by rw [IntKind.wrap_u32]; omega) a b ha hb
theorem shr_nat (a i : Nat) (hi : i < 32) : shr .u32 (a : Int) (i : Int) = ((a >>> i : Nat) : Int) := by
  unfold shr
  have : min (i : Int).toNat IntKind.u32.bits = i := by simp [IntKind.bits]; omega
  rw [this, Nat.shiftRight_eq_div_pow]; simp
theorem hasB_nat (a i : Nat) (ha : a < 2 ^ 32) (hi : i < 32) : hasB a i = a.testBit i := by
  unfold hasB
  rw [shr_nat a i hi]
  have hlt : a >>> i < 2 ^ 32 := Nat.lt_of_le_of_lt (by rw [Nat.shiftRight_eq_div_pow]; exact Nat.div_le_self _ _) ha
  have h1 := (bits_u32 (a >>> i) 1 hlt (by decide)).1
  rw [show ((1 : Nat) : Int) = 1 from rfl] at h1
  rw [h1, Nat.testBit]
  have : 1 &&& a >>> i = a >>> i &&& 1 := Nat.and_comm _ _
  rw [this, Nat.and_one_is_mod]
  rcases Nat.mod_two_eq_zero_or_one (a >>> i) with h | h <;> simp [h]
def step (s x : Int) : Int := if 0 ≤ x ∧ x < 32 then Go.bits .or .u32 s (shl .u32 1 x) else s
def withL (s : Int) (l : List Int) : Int := l.foldl step s
theorem shl_nat (i : Nat) (hi : i < 32) : shl .u32 1 (i : Int) = ((2 ^ i : Nat) : Int) := by
  unfold shl
  have : min (i : Int).toNat IntKind.u32.bits = i := by simp [IntKind.bits]; omega
  rw [this, IntKind.wrap_u32]
  have : (2 : Nat) ^ i < 2 ^ 32 := Nat.pow_lt_pow_right (by decide) hi
  have h2 : ((2 : Int) ^ i) = ((2 ^ i : Nat) : Int) := by simp
  rw [h2]; generalize (2 : Nat) ^ i = p at *; omega
theorem step_nat (a : Nat) (ha : a < 2 ^ 32) (x : Int) : ∃ b : Nat, step a x = b ∧ b < 2 ^ 32 ∧ ∀ k : Nat, k < 32 → b.testBit k = (a.testBit k || (x == (k : Int))) := by
  unfold step
  split
  · rename_i h
    obtain ⟨i, rfl⟩ := Int.eq_ofNat_of_zero_le h.1
    have hi : i < 32 := by omega
    rw [shl_nat i hi]
    have hp : (2 : Nat) ^ i < 2 ^ 32 := Nat.pow_lt_pow_right (by decide) hi
    refine ⟨a ||| 2 ^ i, (bits_u32 a (2 ^ i) ha hp).2, Nat.or_lt_two_pow ha hp, fun k hk => ?_⟩
    rw [Nat.testBit_or, Nat.testBit_two_pow]
    congr 1
    by_cases e : i = k
    · subst e; simp
    · have e' : ¬ ((i : Int) = (k : Int)) := by omega
      simp [e, e']
  · rename_i h
    refine ⟨a, rfl, ha, fun k hk => ?_⟩
    have : (x == (k : Int)) = false := by
      rw [beq_eq_false_iff_ne]; intro e; exact h (by omega)
    simp [this]
theorem withL_nat (l : List Int) : ∀ (a : Nat), a < 2 ^ 32 → ∃ b : Nat, withL a l = b ∧ b < 2 ^ 32 ∧ ∀ k : Nat, k < 32 → b.testBit k = (a.testBit k || l.any (· == (k : Int))) := by
  induction l with
  | nil => intro a ha; exact ⟨a, rfl, ha, fun k _ => by simp⟩
  | cons x l ih =>
    intro a ha
    obtain ⟨b, hb, hlt, hk⟩ := step_nat a ha x
    obtain ⟨c, hc, hclt, hck⟩ := ih b hlt
    refine ⟨c, ?_, hclt, fun k h => ?_⟩
    · show withL (step a x) l = c
      rw [hb]; exact hc
    · rw [hck k h, hk k h]; simp [Bool.or_assoc]
theorem with_l0 (l : List Int) (hl : (l.length : Int) ≤ 140737488351232) (d : Nat) : ∀ (k j : Nat) (s : Int), l.length - j = d → j ≤ l.length → d < k → digit_Set_With.l0 k s l (l.length : Int) j = some (withL s (l.drop j)) := by
  induction d with
  | zero =>
    intro k j s hd hj hk
    obtain ⟨k, rfl⟩ : ∃ m, k = m + 1 := ⟨k - 1, by omega⟩
    simp only [digit_Set_With.l0]
    rw [if_neg (by omega), List.drop_eq_nil_of_le (by omega)]; rfl
  | succ d ih =>
    intro k j s hd hj hk
    obtain ⟨k, rfl⟩ : ∃ m, k = m + 1 := ⟨k - 1, by omega⟩
    have hlt : j < l.length := by omega
    have hdrop : l.drop j = l.getD j 0 :: l.drop (j + 1) := by
      rw [List.drop_eq_getElem_cons hlt]; simp [List.getD, hlt]
    have hrd : rd l (j : Int) = l.getD j 0 := rfl
    have hw : wrap64 ((j : Int) + 1) = ((j + 1 : Nat) : Int) := by unfold wrap64; omega
    simp only [digit_Set_With.l0]
    rw [if_pos (by omega), if_pos (by omega), if_pos (by omega), hrd, hw, hdrop]
    generalize l.getD j 0 = x
    show _ = some (withL (step s x) (l.drop (j + 1)))
    by_cases h0 : x ≥ 0
    · by_cases h1 : x < 32
      · rw [if_pos h0, if_pos h1, if_pos h0, ih k (j + 1) _ (by omega) (by omega) (by omega)]
        simp [step, h0, h1]
      · rw [if_pos h0, if_neg h1, ih k (j + 1) _ (by omega) (by omega) (by omega)]
        simp [step, h1]
    · rw [if_neg h0, ih k (j + 1) _ (by omega) (by omega) (by omega)]
      have : ¬ (0 ≤ x) := h0
      simp [step, this]
theorem with_f (s : Int) (l : List Int) (hl : (l.length : Int) ≤ 140737488351232) : digit_Set_With.f (l.length + 1) s l = some (withL s l) :=
  with_l0 l hl l.length (l.length + 1) 0 s (by omega) (by omega) (by omega)
def outL (s : Int) (l : List Int) : Int := Go.bits .andNot .u32 s (withL 0 l)
theorem without_f (s : Int) (l : List Int) (hl : (l.length : Int) ≤ 140737488351232) : digit_Set_Without.f (l.length + 1) s l = some (outL s l) := by
  unfold digit_Set_Without.f
  rw [with_f 0 l hl]; rfl
theorem has_with (s : Int) (l : List Int) (h0 : 0 ≤ s) (h1 : s < 4294967296) (i : Nat) (hi : i < 32) : hasB (withL s l) i = (hasB s i || l.any (· == (i : Int))) := by
  obtain ⟨a, rfl⟩ := Int.eq_ofNat_of_zero_le h0
  have ha : a < 2 ^ 32 := by omega
  obtain ⟨b, hb, hlt, hk⟩ := withL_nat l a ha
  rw [hb, hasB_nat b i hlt hi, hasB_nat a i ha hi, hk i hi]
theorem has_out (s : Int) (l : List Int) (h0 : 0 ≤ s) (h1 : s < 4294967296) (i : Nat) (hi : i < 32) : hasB (outL s l) i = (hasB s i && !l.any (· == (i : Int))) := by
  obtain ⟨a, rfl⟩ := Int.eq_ofNat_of_zero_le h0
  have ha : a < 2 ^ 32 := by omega
  obtain ⟨b, hb, hlt, hk⟩ := withL_nat l 0 (by decide)
  have hb : withL 0 l = b := hb
  unfold outL
  rw [hb]
  have e : Go.bits .andNot .u32 a b = ((((BitVec.ofNat 32 a) &&& ~~~ (BitVec.ofNat 32 b)).toNat : Nat) : Int) := by
    simp only [Go.bits, BitVec.ofInt_natCast]
    rw [IntKind.wrap_u32]
    have := ((BitVec.ofNat 32 a) &&& ~~~ (BitVec.ofNat 32 b)).isLt
    show ((((BitVec.ofNat 32 a) &&& ~~~ (BitVec.ofNat 32 b)).toNat : Nat) : Int) % 4294967296 = _
    omega
  rw [e, hasB_nat _ i (BitVec.isLt _) hi, hasB_nat a i ha hi]
  have t : ∀ x : BitVec 32, x.toNat.testBit i = x.getLsbD i := fun x => rfl
  rw [t, BitVec.getLsbD_and, BitVec.getLsbD_not, ← t, ← t]
  have hi' : decide (i < 32) = true := by simpa using hi
  simp only [BitVec.toNat_ofNat, hi', Bool.true_and]
  rw [Nat.mod_eq_of_lt ha, Nat.mod_eq_of_lt hlt, hk i hi]
  simp

/-! ## the walk -/
theorem lives_calls (w : World) : Calls Try.prog 17 #[] w fun e w' => e = .returned (.bool true) ∧ Drawn0 w w' :=
  easementlaw05_lives.calls 5 true w (by decide +kernel)
theorem with_calls (s : Int) (A1 : Option Addr) (c1 : Nat) (l : List Int) (w : World) (hl : (l.length : Int) ≤ 140737488351232) (hr : Kd.C (Kd.int .i64) w A1 l.length l) (hc : l.length ≤ c1) :
    Calls Try.prog 18 #[.int .u32 s, .slice A1 l.length c1] w fun e w' => e = .returned (.int .u32 (withL s l)) ∧ Drawn0 w w' :=
  digit_Set_With.calls _ s A1 c1 l _ w hr hc (with_f s l hl)
theorem without_calls (s : Int) (A1 : Option Addr) (c1 : Nat) (l : List Int) (w : World) (hl : (l.length : Int) ≤ 140737488351232) (hr : Kd.C (Kd.int .i64) w A1 l.length l) (hc : l.length ≤ c1) :
    Calls Try.prog 19 #[.int .u32 s, .slice A1 l.length c1] w fun e w' => e = .returned (.int .u32 (outL s l)) ∧ Drawn0 w w' :=
  digit_Set_Without.calls _ s A1 c1 l _ w hr hc (without_f s l hl)
theorem has_calls (s i : Int) (w : World) (h0 : 0 ≤ i) (h1 : i < 32) :
    Calls Try.prog 20 #[.int .u32 s, .int .i64 i] w fun e w' => e = .returned (.bool (hasB s i)) ∧ Drawn0 w w' :=
  digit_Set_Has.calls s i _ w (has_f s i h0 h1)
def among (l : List Int) (i : Int) : Bool := l.any (· == i)
theorem among_snoc (l : List Int) (j : Nat) (h : j < l.length) (i : Int) : among (l.take (j + 1)) i = (among (l.take j) i || (l.getD j 0 == i)) := by
  unfold among
  rw [List.take_succ_eq_append_getElem h, List.any_append]; simp [List.getD, h]
set_option maxHeartbeats 1000000 in
set_option maxRecDepth 100000 in
theorem law (s : Int) (A1 : Option Addr) (c1 : Nat) (l : List Int) (w : World) (hs0 : 0 ≤ s) (hs1 : s < 4294967296) (hl : (l.length : Int) ≤ 140737488351232) (hr : Kd.C (Kd.int .i64) w A1 l.length l) (hc : l.length ≤ c1) :
    Calls Try.prog 3 #[.int .u32 s, .slice A1 l.length c1] w fun e w' => e = .returned (.bool true) ∧ Drawn0 w w' := by
  have HR := Lib.hid hr
  have HC := Lib.hid hc
  clear hr hc
  by_cases h60 : (l.length : Int) > 60
  · go_enter Try.func3, Try.ntmps3
    go_wp2_with (go_at_call 17; refine (lives_calls _).mono ?_; rintro e w' ⟨rfl, ⟨nd, rfl⟩⟩)
    go_ret
    exact ⟨rfl, by repeat (first | exact Drawn0.refl _ | apply Drawn0.step)⟩
  · go_enter Try.func3, Try.ntmps3
    go_wp2_with (first | (go_at_call 17; refine (lives_calls _).mono ?_; rintro e w' ⟨rfl, ⟨nd, rfl⟩⟩) | (go_at_call 18; refine (with_calls _ _ _ _ _ hl ?s1 HC.out).mono ?_; (case s1 => exact Kd.C_drewN HR.out _); rintro e w' ⟨rfl, ⟨nd, rfl⟩⟩) | (go_at_call 19; refine (without_calls _ _ _ _ _ hl ?s1 HC.out).mono ?_; (case s1 => exact Kd.C_drewN HR.out _); rintro e w' ⟨rfl, ⟨nd, rfl⟩⟩))
    go_loopw [27] (fun i wr => ∃ k : Nat, k ≤ 32 ∧ i = .int .i64 k ∧ Drawn0 w wr) (fun i _ => 32 - (intOf i).toNat)
    case atStart => exact ⟨0, by omega, rfl, by repeat (first | exact Drawn0.refl _ | apply Drawn0.step)⟩
    case round =>
      obtain ⟨k, hk, rfl, ⟨⟨m, rfl⟩⟩⟩ := hrel
      by_cases hlt : k < 32
      · go_wp2
        go_loopw [9, 32] (fun b j wr => ∃ i : Nat, i ≤ l.length ∧ j = .int .i64 i ∧ b = .bool (among (l.take i) k) ∧ Drawn0 w wr) (fun _ j _ => l.length - (intOf j).toNat)
        case atStart => exact ⟨0, by omega, rfl, rfl, by repeat (first | exact Drawn0.refl _ | apply Drawn0.step)⟩
        case round =>
          obtain ⟨i, hi, rfl, rfl, ⟨⟨m', rfl⟩⟩⟩ := hrel
          by_cases hlt2 : i < l.length
          · obtain ⟨ad, e, hx⟩ := Kd.at_int HR.out (i : Int) (by omega) (by omega)
            have HX := Lib.hid (among_snoc l i hlt2 k)
            cases e
            replace hx : w.cell? (ad.add i) = some (.int .i64 (l.getD i 0)) := hx
            cases hb : among (l.take i) k
            all_goals
              have HB := Lib.hid hb
              clear hb
              go_wp2
              go_roundw
              case rel => exact ⟨i + 1, by omega, by go_num, by rw [HX.out, HB.out]; first | rfl | simp [hlt2], by repeat (first | exact Drawn0.refl _ | apply Drawn0.step)⟩
              case measure => simp [intOf]; omega
          · have hii : i = l.length := by omega
            subst hii
            have ha := has_with s l hs0 hs1 k hlt
            have ho := has_out s l hs0 hs1 k hlt
            have hal : among (l.take l.length) k = among l k := by rw [List.take_length]
            rw [show (l.any fun x => x == (k : Int)) = among l k from rfl] at ha ho
            cases hm : among l k <;> cases hk' : hasB s k
            all_goals
              rw [hm, hk'] at ha ho
              simp at ha ho
              go_wp2_with (go_at_call 20; refine (has_calls _ _ _ (by omega) (by omega)).mono ?_; rintro e w' ⟨rfl, ⟨nd, rfl⟩⟩)
              go_roundw
              case rel => exact ⟨k + 1, by omega, by go_num, by repeat (first | exact Drawn0.refl _ | apply Drawn0.step)⟩
              case measure => simp [intOf]; omega
      · go_wp2
        go_ret
        exact ⟨rfl, by repeat (first | exact Drawn0.refl _ | apply Drawn0.step)⟩
theorem walk (a0 : Int) (a1 : Option Addr) (len1 cap1 : Nat) (z1 : List Int) (w : World) (w0 : (Lit.int .u32 a0).wf = true) (w1 : (a1 = none ∧ len1 = 0 ∧ cap1 = 0 ∧ z1 = []) ∨ ∃ x, a1 = some x ∧ len1 ≤ cap1 ∧ cap1 ≤ maxLen ∧ z1.length = cap1 ∧ (∀ i, i < z1.length → w.cell? (x.add i) = some (.int .i64 (z1.getD i 0))) ∧ ∀ n ∈ z1, (Lit.int .i64 n).wf = true) (y1 : len1 * 8 ≤ 140737488351232) :
    Calls Try.prog 3 #[.int .u32 a0, .slice a1 len1 cap1] w fun e w' => e = .returned (.bool true) ∧ Below w.heap.size w w' := by
  obtain ⟨l1, rfl, hr1, _, _, hc1⟩ := ReadsInt.ofRowC w1
  have hw : 0 ≤ a0 ∧ a0 ≤ 4294967295 := by simpa [Lit.wf, IntKind.min, IntKind.max, IntKind.signed, IntKind.bits] using w0
  refine (law a0 _ _ l1 w (by omega) (by omega) (by omega) (Kd.C_of_reads (d := (0 : Int)) (h1 := fun _ => rfl) hr1) hc1).mono ?_
  rintro e w' ⟨rfl, hd⟩
  exact ⟨rfl, hd.below⟩
end Go.Proofs.Ytcpcnnpdbognlaa.DC
