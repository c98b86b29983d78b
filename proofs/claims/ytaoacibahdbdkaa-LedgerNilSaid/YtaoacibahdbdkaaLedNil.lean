/- ledger: the law LedgerNil, walked. -/
import Derived.Test.YtaoacibahdbdkaaLedN
namespace Go.Proofs.Ytaoacibahdbdkaa.LedNil
open Go.RowKit Go Go.Proofs.YtaoacibahdbdkaaW.PrintWords Go.Proofs.YtaoacibahdbdkaaW.PrintMore Go.Proofs.YtaoacibahdbdkaaW.PrintLast Go.Proofs.Ytaoacibahdbdkaa.Bts Go.Proofs.Ytaoacibahdbdkaa.Fra Go.Maps Go.Proofs.Ytaoacibahdbdkaa.Led
set_option maxHeartbeats 2000000 in
set_option maxRecDepth 100000 in
theorem walk (x0 : Int) (x1 : Int) (W : World) (p0 : (IntKind.u32.min ≤ x0 ∧ x0 ≤ IntKind.u32.max)) (p1 : (IntKind.i64.min ≤ x1 ∧ x1 ≤ IntKind.i64.max)) :
    Calls Try.prog 5 #[.int .u32 x0, .int .i64 x1] W fun e W' => e = .returned (.bool true) ∧ Below W.heap.size W W' := by
  clear p0 p1
  go_enter Try.func5, Try.ntmps5
  go_wp2_with (first
    | (go_at_call 16; go_loud (refine (lives_calls _).mono ?_; rintro e w1 ⟨rfl, hB1⟩; have HB := Lib.hid hB1; clear hB1))
    | (go_at_call 26; go_loud (refine (has_nil _ _).mono ?_; rintro e w2 ⟨rfl, hB2⟩; have hx := Lib.hid (below_step HB.out hB2); clear HB; have HB := hx; clear hx hB2))
    | (go_at_call 23; go_loud (refine (take_nil _ _ _ _ _).mono ?_; rintro e w3 ⟨rfl, hB2⟩; have hx := Lib.hid (below_step HB.out hB2); clear HB; have HB := hx; clear hx hB2))
    | (go_at_call 24; go_loud (refine (give_nil _ _ _ _ _).mono ?_; rintro e w4 ⟨rfl, hB2⟩; have hx := Lib.hid (below_step HB.out hB2); clear HB; have HB := hx; clear hx hB2))
    | (go_at_call 25; go_loud (refine (close_nil _ _).mono ?_; rintro e w5 ⟨rfl, hB2⟩; have hx := Lib.hid (below_step HB.out hB2); clear HB; have HB := hx; clear hx hB2))
    | (go_at_call 27; go_loud (refine (sum_nil _).mono ?_; rintro e w6 ⟨rfl, hB2⟩; have hx := Lib.hid (below_step HB.out hB2); clear HB; have HB := hx; clear hx hB2)))
  go_ret
  exact ⟨rfl, HB.out⟩
end Go.Proofs.Ytaoacibahdbdkaa.LedNil
