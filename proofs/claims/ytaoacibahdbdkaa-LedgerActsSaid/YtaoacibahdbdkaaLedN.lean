/- ledger: the example, and no ledger. -/
import Derived.Test.YtaoacibahdbdkaaLedL
namespace Go.Proofs.Ytaoacibahdbdkaa.Led
open Go.RowKit Go Go.Proofs.YtaoacibahdbdkaaW.PrintWords Go.Proofs.YtaoacibahdbdkaaW.PrintMore Go.Proofs.YtaoacibahdbdkaaW.PrintLast Go.Proofs.Ytaoacibahdbdkaa.Bts Go.Proofs.Ytaoacibahdbdkaa.Fra Go.Maps
theorem has_nil (k : Int) (w : World) : Calls Try.prog 26 #[.pointer none, .int .u32 k] w fun e w' => e = .returned (bill 0 0 0) ∧ Below w.heap.size w w' := by
  go_enter Try.func26, Try.ntmps26
  go_wp2
  refine bodyPost_ret (results_cell_row rfl _ _ w.heap.size 23 #[.int .i64 0, .int .i64 0, .int .i64 0] (0, 0) _ rfl (blk_new w _) Try.underlying23 rfl (by kernel_rfl)) rfl ?_
  exact ⟨rfl, below_alloc (Below.refl _ _) _⟩
theorem give_nil (k x y z : Int) (w : World) : Calls Try.prog 24 #[.pointer none, .int .u32 k, bill x y z] w fun e w' => e = .returned (.int .i64 1) ∧ Below w.heap.size w w' := by
  go_enter Try.func24, Try.ntmps24
  go_wp2
  go_quiet (fail)
  go_wp2
  go_ret
  exact ⟨rfl, pw_below_drewN (below_alloc (Below.refl _ _) _) _⟩
theorem close_nil (k : Int) (w : World) : Calls Try.prog 25 #[.pointer none, .int .u32 k] w fun e w' => e = .returned (bill 0 0 0) ∧ Below w.heap.size w w' := by
  go_enter Try.func25, Try.ntmps25
  go_wp2
  refine bodyPost_ret (results_cell_row rfl _ _ w.heap.size 23 #[.int .i64 0, .int .i64 0, .int .i64 0] (0, 0) _ rfl (blk_new w _) Try.underlying23 rfl (by kernel_rfl)) rfl ?_
  exact ⟨rfl, below_alloc (Below.refl _ _) _⟩
theorem sum_nil (w : World) : Calls Try.prog 27 #[.pointer none] w fun e w' => e = .returned (bill 0 0 0) ∧ Below w.heap.size w w' := by
  go_enter Try.func27, Try.ntmps27
  go_wp2
  refine bodyPost_ret (results_cell_row rfl _ _ w.heap.size 23 #[.int .i64 0, .int .i64 0, .int .i64 0] (0, 0) _ rfl (blk_alloc (blk_new w _) _) Try.underlying23 rfl (by kernel_rfl)) rfl ?_
  exact ⟨rfl, below_alloc (below_alloc (Below.refl _ _) _) _⟩
theorem fl_below {B : Nat} {w w' w2 : World} (h : Below B w w') (hB : B ≤ w.heap.size) (hf : Fl B w' w2) : Below B w w2 :=
  Fr.below (S := fun j => B ≤ j) (Fr.then_ (Fr.of_below h (fun j hj => .inl hj)) hf (fun j hj => .inl hj.1)) (fun j h => h) hB
set_option maxHeartbeats 2000000 in
set_option maxRecDepth 100000 in
theorem lives_calls (w : World) : Calls Try.prog 16 #[] w fun e w' => e = .returned (.bool true) ∧ Below w.heap.size w w' := by
  have HN0 := Lib.hid (show 0 < maxLen by decide)
  have HN1 := Lib.hid (show 0 + 1 < maxLen by decide)
  have HN2 := Lib.hid (show 0 + 1 + 1 < maxLen by decide)
  have hfd : ∀ W, (Instr.field 23 (bill 3 0 0) 0).run Try.prog W = .ok (.int .i64 3) W := fun _ => by kernel_rfl
  have hin : (1 : Int) ∈ ([1] : List Int) := by decide
  go_enter Try.func16, Try.ntmps16
  go_wp2_with (first
    | (go_at_call 22; go_loud (refine (new_calls 5 0 0 [1] _ (by decide) (by decide +kernel)).mono ?_; rintro e w1 ⟨g, rfl, hX1, hg, hB1⟩; have HX1 := Lib.hid hX1; have HB1 := Lib.hid hB1; clear hX1 hB1; have tk1 := trivial))
    | (go_at_call 23; go_loud (have _t := tk1; refine (take_ok 1 3 0 0 _ HX1.out (by decide) (by decide) hin HB1.out.size HN0.out (by decide) (by decide +kernel)).mono ?_; rintro e w2 ⟨rfl, hX2, hF2⟩; have HX2 := Lib.hid hX2; have HB2 := Lib.hid (fl_below HB1.out (Nat.le_refl _) hF2); clear hX2 hF2 tk1; have tk2 := trivial))
    | (go_at_call 23; go_loud (have _t := tk2; refine (take_over 1 3 0 0 _ HX2.out (by decide) (by decide) hin HB2.out.size HN1.out (by decide) (by decide +kernel)).mono ?_; rintro e w3 ⟨rfl, hX3, hF3⟩; have HX3 := Lib.hid hX3; have HB3 := Lib.hid (fl_below HB2.out (Nat.le_refl _) hF3); clear hX3 hF3))
    | (go_at_call 26; go_loud (refine (has_calls 1 _ HX3.out (by decide) (by decide) hin HB3.out.size HN2.out).mono ?_; rintro e w4 ⟨he4, ⟨a, hA4⟩, hF4⟩; obtain rfl := he4.trans (show _ = Ending.returned (bill 3 0 0) from by kernel_rfl); clear he4; have HB4 := Lib.hid (fl_below HB3.out (Nat.le_refl _) hF4); clear hA4 hF4)))
  go_ret
  exact ⟨rfl, HB4.out⟩
end Go.Proofs.Ytaoacibahdbdkaa.Led
