/- The law DrawsActs, walked. -/
import Derived.Test.YtcpcnnpdbognlaaDrawsB
namespace Go.Proofs.Ytcpcnnpdbognlaa.Drw
open Go.RowKit Go Go.Proofs.YtcpcnnpdbognlaaW.PrintWords Go.Proofs.YtcpcnnpdbognlaaW.PrintMore Go.Proofs.YtcpcnnpdbognlaaW.PrintLast Go.Proofs.Ytcpcnnpdbognlaa.Bts Go.Proofs.Ytcpcnnpdbognlaa.Fra
set_option maxHeartbeats 1000000 in
set_option maxRecDepth 100000 in
theorem acts_early (A0 : Option Addr) (c0 n0 : Nat) (A1 : Option Addr) (c1 n1 : Nat) (W : World) (h0 : n0 ≤ 9223372036854775807) (h1 : n1 ≤ 9223372036854775807) (h : 200 < n0 ∨ 60 < n1) :
    Calls Try.prog 7 #[.slice A0 n0 c0, .slice A1 n1 c1] W fun e W' => e = .returned (.bool true) ∧ Below W.heap.size W W' := by
  have HB := Lib.hid (Below.refl W.heap.size W)
  by_cases h2 : 200 < n0
  · have b1 : decide ((200 : Int) < (n0 : Int)) = true := by simp; omega
    clear h h2
    go_enter Try.func7, Try.ntmps7
    go_wp2_with (first
      | (go_at_call 31; go_loud (refine (lives_calls _).mono ?_; rintro e w1 ⟨rfl, hB1⟩; have HBn := Lib.hid (below_step (by repeat (first | (with_reducible first | exact HB.out | apply below_alloc | apply pw_below_drewN | apply below_drew1) | exact HB.out)) hB1); clear HB; have HB := HBn; clear HBn)))
    go_ret
    exact ⟨rfl, HB.out⟩
  · have b1 : decide ((200 : Int) < (n0 : Int)) = false := by simp; omega
    have b2 : decide ((60 : Int) < (n1 : Int)) = true := by simp; omega
    clear h h2
    go_enter Try.func7, Try.ntmps7
    go_wp2_with (first
      | (go_at_call 31; go_loud (refine (lives_calls _).mono ?_; rintro e w1 ⟨rfl, hB1⟩; have HBn := Lib.hid (below_step (by repeat (first | (with_reducible first | exact HB.out | apply below_alloc | apply pw_below_drewN | apply below_drew1) | exact HB.out)) hB1); clear HB; have HB := HBn; clear HBn)))
    go_ret
    exact ⟨rfl, HB.out⟩
theorem acts_walk (A0 : Option Addr) (c0 : Nat) (x0 : List (Int)) (A1 : Option Addr) (c1 : Nat) (x1 : List ((Int) × (List ((Int) × (Int))) × (List (Int)))) (W : World) (l0 : x0.length ≤ c0) (C0 : Kd.C (Kd.int .u64) W A0 x0.length x0) (p0 : (x0.length ≤ maxLen ∧ x0.length * Try.prog.bytesOf 55 ≤ 140737488351232 ∧ ∀ x ∈ x0, (IntKind.u64.min ≤ x ∧ x ≤ IntKind.u64.max))) (l1 : x1.length ≤ c1) (C1 : Kd.C (Kd.pair (Kd.int .u8) (Kd.pair (Kd.slice 62 (Kd.pair (Kd.int .u64) (Kd.int .u64))) (Kd.slice 55 (Kd.int .u64)))) W A1 x1.length x1) (p1 : (x1.length ≤ maxLen ∧ x1.length * Try.prog.bytesOf 58 ≤ 140737488351232 ∧ ∀ x : Int × List (Int × Int) × List Int, x ∈ x1 → ((IntKind.u8.min ≤ x.1 ∧ x.1 ≤ IntKind.u8.max) ∧ ((x.2.1.length ≤ maxLen ∧ x.2.1.length * Try.prog.bytesOf 62 ≤ 140737488351232 ∧ ∀ y : Int × Int, y ∈ x.2.1 → ((IntKind.u64.min ≤ y.1 ∧ y.1 ≤ IntKind.u64.max) ∧ (IntKind.u64.min ≤ y.2 ∧ y.2 ≤ IntKind.u64.max))) ∧ (x.2.2.length ≤ maxLen ∧ x.2.2.length * Try.prog.bytesOf 55 ≤ 140737488351232 ∧ ∀ y : Int, y ∈ x.2.2 → (IntKind.u64.min ≤ y ∧ y ≤ IntKind.u64.max)))))) :
    Calls Try.prog 7 #[.slice A0 x0.length c0, .slice A1 x1.length c1] W fun e W' => e = .returned (.bool true) ∧ Below W.heap.size W W' := by
  have m0 := p0.1
  have m1 := p1.1
  unfold maxLen at m0 m1
  by_cases h : 200 < x0.length ∨ 60 < x1.length
  · exact acts_early A0 c0 _ A1 c1 _ W (by omega) (by omega) h
  · refine acts_main A0 c0 x0 A1 c1 x1 W l0 C0 C1 (by omega) (by omega) ?_
    intro x hx
    have := (p1.2.2 x hx).1
    exact this
end Go.Proofs.Ytcpcnnpdbognlaa.Drw
