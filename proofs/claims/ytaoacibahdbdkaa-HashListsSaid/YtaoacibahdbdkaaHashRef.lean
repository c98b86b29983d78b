/- hash: the document's answer, as contracts. -/
import Derived.Test.YtaoacibahdbdkaaHashOf
namespace Go.Proofs.Ytaoacibahdbdkaa.Hsh
open Go.RowKit Go Go.Proofs.YtaoacibahdbdkaaW.PrintWords Go.Proofs.YtaoacibahdbdkaaW.PrintMore Go.Proofs.YtaoacibahdbdkaaW.PrintLast Go.Proofs.Ytaoacibahdbdkaa.Bts Go.Proofs.Ytaoacibahdbdkaa.Fra Go.Proofs.Ytaoacibahdbdkaa.Pk Go.Proofs.Ytaoacibahdbdkaa.Pr Go.Proofs.Ytaoacibahdbdkaa.QPackedPuts
theorem half (n : Int) (j : Nat) : n / 2 ^ j / 2 = n / 2 ^ (j + 1) := by rw [Int.ediv_ediv_of_nonneg (Int.le_of_lt (Int.pow_pos (by decide))), Int.pow_succ]
theorem pow_bd (n : Int) (j : Nat) (h0 : 0 ≤ n) (h1 : n ≤ 18446744073709551615) : 0 ≤ n / 2 ^ j ∧ n / 2 ^ j ≤ 18446744073709551615 := by
  have hp : (0 : Int) < 2 ^ j := Int.pow_pos (by decide)
  exact ⟨Int.ediv_nonneg h0 (Int.le_of_lt hp), Int.le_trans (Int.ediv_le_self _ h0) h1⟩
set_option maxHeartbeats 2000000 in
theorem against_calls (n : Int) (by_ : Nat) (d : Int) (hd : (2 : Int) ^ by_ = d) (w : World) (h0 : 0 ≤ n) (h1 : n ≤ 18446744073709551615) (hb : by_ ≤ 64) :
    Calls Try.prog 78 #[.int .u64 n, .int .i64 by_] w fun e w' => e = .returned (.int .u64 (xshr n d)) ∧ w = w' := by
  have HD := Lib.hid hd
  clear hd
  go_enter Try.func78, Try.ntmps78
  go_wp2
  go_loop [5, 6] (fun v i => ∃ j : Nat, j ≤ by_ ∧ i = .int .i64 j ∧ v = .int .u64 (n / 2 ^ j)) (fun _ i => by_ - (intOf i).toNat)
  case atStart => exact ⟨0, by omega, rfl, by simp⟩
  case round =>
    obtain ⟨j, hj, rfl, rfl⟩ := hrel
    have hbd := pow_bd n j h0 h1
    have hh := half n j
    have HH := Lib.hid hh
    have he : j = by_ → n / 2 ^ j = n / d := fun e => by rw [e, HD.out]
    have HE := Lib.hid he
    clear he
    generalize n / 2 ^ j = m at *
    have hm0 := hbd.1
    have hm1 := hbd.2
    clear hh hbd
    by_cases hl : j < by_
    · go_wp2
      go_round
      case rel => exact ⟨j + 1, by omega, by go_num, by rw [← HH.out]⟩
      case measure => simp [intOf]; omega
    · go_wp2
      go_ret
      have e := HE.out (by omega)
      subst e
      exact ⟨rfl, rfl⟩
theorem refMix_calls (n : Int) (w : World) (h0 : 0 ≤ n) (h1 : n ≤ 18446744073709551615) :
    Calls Try.prog 43 #[.int .u64 n] w fun e w' => e = .returned (.int .u64 (mixI n)) ∧ w = w' := by
  have ha := wrap_u64 (xshr n 1073741824 * 13787848793156543929)
  have hb := wrap_u64 (xshr (mixA n) 134217728 * 10723151780598845931)
  have HA := Lib.hid ha
  have HB := Lib.hid hb
  clear ha hb
  go_enter Try.func43, Try.ntmps43
  go_wp2_with (first
    | (go_at_call_of 78 (Value.int .i64 30); go_loud (refine (against_calls n 30 1073741824 (by decide) _ h0 h1 (by decide)).mono ?_; rintro e w1 ⟨rfl, rfl⟩))
    | (go_at_call_of 78 (Value.int .i64 27); go_loud (refine (against_calls (mixA n) 27 134217728 (by decide) _ HA.out.1 HA.out.2 (by decide)).mono ?_; rintro e w1 ⟨rfl, rfl⟩))
    | (go_at_call_of 78 (Value.int .i64 31); go_loud (refine (against_calls (mixB (mixA n)) 31 2147483648 (by decide) _ HB.out.1 HB.out.2 (by decide)).mono ?_; rintro e w1 ⟨rfl, rfl⟩)))
  go_ret
  exact ⟨rfl, rfl⟩
theorem refKey_calls (n : Int) (w : World) :
    Calls Try.prog 76 #[.int .u64 n] w fun e w' => e = .returned (.int .u64 (keyI n)) ∧ w = w' := by
  have ha := wrap_u64 (n + 11400714819323198485)
  have HA := Lib.hid ha
  clear ha
  go_enter Try.func76, Try.ntmps76
  go_wp2_with (go_at_call 43; go_loud (refine (refMix_calls _ _ HA.out.1 HA.out.2).mono ?_; rintro e w1 ⟨rfl, rfl⟩))
  go_ret
  exact ⟨rfl, rfl⟩
set_option maxHeartbeats 4000000 in
set_option maxRecDepth 100000 in
theorem refOf_calls (seed k n : Int) (s : ByteArray) (w : World) (hk0 : 0 ≤ k) (hk1 : k ≤ 255) (hs : s.size ≤ 35184372088832) :
    Calls Try.prog 41 #[.int .u64 seed, .agg #[.int .u8 k, .int .i64 n, .string s]] w fun e w' => e = .returned (.int .u64 (ofI seed k n s)) ∧ Below w.heap.size w w' := by
  have hvl := valB_len k n s
  have HR := Lib.hid (refValue k n s hk0 hk1 (by omega))
  have HB := Lib.hid (Below.refl w.heap.size w)
  go_enter Try.func41, Try.ntmps41
  go_wp2_with (first
    | (go_at_call 76; go_loud (refine (refKey_calls _ _).mono ?_; rintro e w1 ⟨rfl, rfl⟩))
    | (go_at_call 72; go_loud (refine (easementref02_Value.calls 10 k n s _ _ HR.out).mono ?_; rintro e w2 ⟨v2, rfl, hR2, hB2⟩; obtain ⟨A, c, rfl, hc, hn, hC⟩ := (byt_of_R hR2).C (by omega); have HBn := Lib.hid (below_step (by repeat (first | (with_reducible first | exact HB.out | apply below_alloc | apply pw_below_drewN | apply below_drew1) | exact HB.out)) hB2); clear HB; have HB := HBn; clear HBn; clear hR2)))
  go_loopw [5, 7] (fun v i wr => ∃ j : Nat, j ≤ (valB k n s).length ∧ i = .int .i64 j ∧ v = .int .u64 (bytesI seed ((valB k n s).take j)) ∧ wr = w2) (fun _ i _ => (valB k n s).length - (intOf i).toNat)
  case atStart => exact ⟨0, by omega, rfl, rfl, rfl⟩
  case round =>
    obtain ⟨j, hj, rfl, rfl, rfl⟩ := hrel
    by_cases hl : j < (valB k n s).length
    · obtain ⟨ad, rfl, hx⟩ := Kd.at_int hC (j : Int) (by omega) (by omega)
      rw [Int.toNat_natCast] at hx
      go_wp2
      go_roundw
      case rel =>
        refine ⟨j + 1, by omega, by go_num, ?_, trivial⟩
        have ht := List.take_append_getElem (l := valB k n s) (i := j) hl
        have hrd : rd (valB k n s) (j : Int) = (valB k n s)[j] := by simp [rd, hl]
        rw [← ht, bytesI_snoc, hrd]
        rfl
      case measure => simp [intOf]; omega
    · have hbd := bytesI_bd seed ((valB k n s).take j)
      have HBD := Lib.hid hbd
      clear hbd
      go_wp2_with (go_at_call 43; refine (refMix_calls _ _ HBD.out.1 HBD.out.2).mono ?_; rintro e w3 ⟨rfl, rfl⟩)
      go_ret
      obtain rfl : j = (valB k n s).length := by omega
      rw [List.take_length]
      exact ⟨rfl, HB.out⟩
end Go.Proofs.Ytaoacibahdbdkaa.Hsh
