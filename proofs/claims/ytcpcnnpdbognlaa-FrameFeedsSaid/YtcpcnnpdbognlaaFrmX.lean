/- frame: the law FrameFeeds, whole. -/
import Derived.Test.YtcpcnnpdbognlaaFrmW
namespace Go.Proofs.Ytcpcnnpdbognlaa.Frm
open Go.RowKit Go Go.Proofs.YtcpcnnpdbognlaaW.PrintWords Go.Proofs.YtcpcnnpdbognlaaW.PrintMore Go.Proofs.YtcpcnnpdbognlaaW.PrintLast Go.Proofs.Ytcpcnnpdbognlaa.Bts Go.Proofs.Ytcpcnnpdbognlaa.Fra
set_option maxHeartbeats 1000000 in
theorem feeds_walk (A0 : Option Addr) (c0 : Nat) (x0 : List (Int)) (A1 : Option Addr) (c1 : Nat) (x1 : List (Int)) (W : World) (l0 : x0.length ≤ c0) (C0 : Kd.C (Kd.int .u8) W A0 x0.length x0) (p0 : (x0.length ≤ maxLen ∧ x0.length * Try.prog.bytesOf 5 ≤ 140737488351232 ∧ ∀ x ∈ x0, (IntKind.u8.min ≤ x ∧ x ≤ IntKind.u8.max))) (l1 : x1.length ≤ c1) (C1 : Kd.C (Kd.int .u16) W A1 x1.length x1) (p1 : (x1.length ≤ maxLen ∧ x1.length * Try.prog.bytesOf 42 ≤ 140737488351232 ∧ ∀ x ∈ x1, (IntKind.u16.min ≤ x ∧ x ≤ IntKind.u16.max))) :
    Calls Try.prog 5 #[.slice A0 x0.length c0, .slice A1 x1.length c1] W fun e W' => e = .returned (.bool true) ∧ Below W.heap.size W W' := by
  by_cases h0 : x0.length ≤ 30000
  · by_cases h1 : x1.length ≤ 100
    · exact feeds_main A0 c0 x0 A1 c1 x1 W l0 C0 p0.2.2 h0 C1 h1 p1.2.2
    · clear C0 p0 C1 p1
      have t0 : ¬ (30000 : Int) < (x0.length : Int) := by omega
      have t1 : (100 : Int) < (x1.length : Int) := by omega
      go_enter Try.func5, Try.ntmps5
      go_wp2_with (first
        | (go_at_call 26; refine (lives_calls _).mono ?_; rintro e w2 ⟨rfl, hB2⟩; have HB2 := Lib.hid (below_step hB1 hB2))
        | (go_at_call 26; refine (lives_calls _).mono ?_; rintro e w1 ⟨rfl, hB1⟩))
      go_ret
      exact ⟨rfl, HB2.out⟩
  · clear C0 p0 C1 p1
    have t0 : (30000 : Int) < (x0.length : Int) := by omega
    go_enter Try.func5, Try.ntmps5
    go_wp2_with (first
      | (go_at_call 26; refine (lives_calls _).mono ?_; rintro e w2 ⟨rfl, hB2⟩; have HB2 := Lib.hid (below_step hB1 hB2))
      | (go_at_call 26; refine (lives_calls _).mono ?_; rintro e w1 ⟨rfl, hB1⟩))
    go_ret
    exact ⟨rfl, HB2.out⟩
end Go.Proofs.Ytcpcnnpdbognlaa.Frm
