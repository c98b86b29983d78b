/- draws: the chapter's example, and the law DrawsNil, walked. -/
import Derived.Test.YtcpcnnpdbognlaaDrawsH
namespace Go.Proofs.Ytcpcnnpdbognlaa.Drw
open Go.RowKit Go Go.Proofs.YtcpcnnpdbognlaaW.PrintWords Go.Proofs.YtcpcnnpdbognlaaW.PrintMore Go.Proofs.YtcpcnnpdbognlaaW.PrintLast Go.Proofs.Ytcpcnnpdbognlaa.Bts Go.Proofs.Ytcpcnnpdbognlaa.Fra
attribute [local go_sem high] eqH
/-- A row that has just been laid. -/
theorem slr_new (w : World) (k : IntKind) (t : TypeId) (xs : List Int) (n : Nat) (hn : xs.length = n) : SlR (w.alloc (.cells (nums k xs).toArray t)) 1 (.slice (some ⟨w.heap.size, 0, none⟩) n n) n (nums k xs) := by
  subst hn
  refine ⟨by rw [nums_length, Nat.mul_one], _, _, rfl, Nat.le_refl _, (fun h => by cases h), ?_⟩
  intro ad hA j u hj
  cases hA
  rw [add_plain, blk_cell (blk_new w _)]
  simpa using hj
theorem lives1_calls (a b : Int) (w : World) : Calls Try.prog 66 (#[.agg #[.int .u64 a, .int .u64 b]] ++ #[]) w fun e w' => e = .returned (.bool false) ∧ Below w.heap.size w w' := by
  go_enter Try.func66, Try.ntmps66
  go_wp2
  go_ret
  exact ⟨rfl, below_alloc (Below.refl _ _) _⟩
set_option maxHeartbeats 1000000 in
theorem lives_calls (w : World) : Calls Try.prog 31 #[] w fun e w' => e = .returned (.bool true) ∧ Below w.heap.size w w' := by
  have h0 : SlR (w.alloc (.cells #[.int .u64 0, .int .u64 0, .int .u64 1, .int .u64 2] 55)) 1 (.slice (some ⟨w.heap.size, 0, none⟩) 4 4) 4 (nums .u64 [0, 0, 1, 2]) := slr_new w .u64 55 [0, 0, 1, 2] 4 rfl
  have hcf := fun (args : Array Value) (W : World) => enters_ Try.func66 (by kernel_rfl) rfl args W
  have H0 := Lib.hid h0
  have HCF := Lib.hid hcf
  clear h0 hcf
  go_enter Try.func31, Try.ntmps31
  go_wp2_with (first
    | (go_at_call 32; go_loud (refine (new_calls _ [0, 0, 1, 2] _ H0.out (by simp)).mono ?_; rintro e w1 ⟨g, rfl, hD, hB1⟩; have HD := Lib.hid hD; have HB1 := Lib.hid hB1; have HG := Lib.hid hD; clear hD hB1))
    | (go_at_call 34; go_loud (refine (handle_calls _ g 0 [0, 0, 1, 2] 66 #[] (fun _ _ => false) _ HD.out (fun k hk => hk.2) HCF.out (fun W _ a b => lives1_calls a b W)).mono ?_; rintro e w2 ⟨he, _, hF2⟩; obtain rfl : e = .returned (.tuple #[.agg #[.int .u64 1, .int .u64 2], .int .i64 0]) := he; have HF2 := Lib.hid hF2; clear hF2)))
  go_ret
  refine ⟨rfl, below_alloc ?_ _⟩
  have hb := below_step (below_alloc (Below.refl _ _) _) HB1.out
  have hg := HG.out
  obtain ⟨_, _, _, _, h3, _⟩ := hg
  exact hb.trans (HF2.out.below (fun k hk => by subst hk; have := h3.1; simp at this; omega) hb.size)
set_option maxHeartbeats 1000000 in
theorem nil_walk (x0 : Int) (W : World) (p0 : (IntKind.u64.min ≤ x0 ∧ x0 ≤ IntKind.u64.max)) :
    Calls Try.prog 8 #[.int .u64 x0] W fun e W' => e = .returned (.bool true) ∧ Below W.heap.size W W' := by
  clear p0
  go_enter Try.func8, Try.ntmps8
  go_wp2_with (first
    | (go_at_call 31; refine (lives_calls _).mono ?_; rintro e w1 ⟨rfl, hB1⟩)
    | (go_at_call 37; refine (more_nil _ _).mono ?_; rintro e w2 ⟨rfl, rfl⟩)
    | (go_at_call 33; refine (next_nil _).mono ?_; rintro e w2 ⟨rfl, rfl⟩)
    | (go_at_call 34; refine (handle_nil _ _).mono ?_; rintro e w2 ⟨rfl, hB2⟩)
    | (go_at_call 38; refine (left_nil _).mono ?_; rintro e w2 ⟨rfl, rfl⟩)
    | (go_at_call 39; refine (used_nil _).mono ?_; rintro e w2 ⟨rfl, rfl⟩))
  go_ret
  exact ⟨rfl, below_alloc (below_step (below_alloc hB1 _) hB2) _⟩
end Go.Proofs.Ytcpcnnpdbognlaa.Drw
