/- The law PackedNil, walked. -/
import Derived.Test.YtaoacibahdbdkaaPackN
namespace Go.Proofs.Ytaoacibahdbdkaa.PnLaw
open Go.RowKit Go Go.Proofs.YtaoacibahdbdkaaW.PrintWords Go.Proofs.YtaoacibahdbdkaaW.PrintMore Go.Proofs.Ytaoacibahdbdkaa.Pr
set_option maxHeartbeats 4000000 in
set_option maxRecDepth 100000 in
theorem walk (x0 : Int) (W : World) (p0 : (IntKind.i64.min ≤ x0 ∧ x0 ≤ IntKind.i64.max)) :
    Calls Try.prog 8 #[.int .i64 x0] W fun e W' => e = .returned (.bool true) ∧ Below W.heap.size W W' := by
  clear p0
  go_enter Try.func8, Try.ntmps8
  go_wp2_with (first
    | (go_at_call 31; refine (lives_calls _).mono ?_; rintro e w1 ⟨rfl, hB⟩)
    | (go_at_call 32; refine (number_nil _ _).mono ?_; rintro e w ⟨rfl, rfl⟩)
    | (go_at_call 33; refine (text_nil _ _).mono ?_; rintro e w ⟨rfl, rfl⟩)
    | (go_at_call 34; refine (value_nil _).mono ?_; rintro e w2 ⟨rfl, hB2⟩)
    | (go_at_call 35; refine (left_nil _).mono ?_; rintro e w ⟨rfl, rfl⟩)
    | (go_at_call 36; refine (failed_nil _).mono ?_; rintro e w ⟨rfl, rfl⟩)
    | (go_at_call 37; refine (end_nil _).mono ?_; rintro e w ⟨rfl, rfl⟩))
  go_ret
  exact ⟨rfl, below_step hB hB2⟩
end Go.Proofs.Ytaoacibahdbdkaa.PnLaw
