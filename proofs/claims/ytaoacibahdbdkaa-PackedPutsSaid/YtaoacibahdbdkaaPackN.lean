/- packed.Reader: no reader. -/
import Derived.Test.YtaoacibahdbdkaaPackU
import Derived.Test.YtaoacibahdbdkaaPackV
namespace Go.Proofs.Ytaoacibahdbdkaa.Pr
open Go.RowKit Go Go.Proofs.YtaoacibahdbdkaaW.PrintWords Go.Proofs.YtaoacibahdbdkaaW.PrintMore Go.Proofs.Ytaoacibahdbdkaa.Bts Go.Proofs.Ytaoacibahdbdkaa.Pk Go.Proofs.Ytaoacibahdbdkaa.Fra Go.Proofs.Ytaoacibahdbdkaa.QPackedPuts
attribute [local go_sem] max2_int min2_int max_two min_two

theorem take_nil (n : Int) (w : World) :
    Calls Try.prog 74 #[.pointer none, .int .i64 n] w fun e w' => e = .returned (.slice none 0 0) ∧ w = w' := by
  go_enter Try.func74, Try.ntmps74
  go_wp2
  go_ret
  exact ⟨rfl, rfl⟩
theorem left_nil (w : World) :
    Calls Try.prog 35 #[.pointer none] w fun e w' => e = .returned (.int .i64 0) ∧ w = w' := by
  go_enter Try.func35, Try.ntmps35
  go_wp2
  go_ret
  exact ⟨rfl, rfl⟩
theorem end_nil (w : World) :
    Calls Try.prog 37 #[.pointer none] w fun e w' => e = .returned (.int .i64 1) ∧ w = w' := by
  go_enter Try.func37, Try.ntmps37
  go_wp2_with (go_at_call 36; refine (failed_nil _).mono ?_; rintro e w1 ⟨rfl, rfl⟩)
  go_ret
  exact ⟨rfl, rfl⟩
set_option maxHeartbeats 1000000 in
theorem number_nil (size : Int) (w : World) :
    Calls Try.prog 32 #[.pointer none, .int .i64 size] w fun e w' => e = .returned (.int .u64 0) ∧ w = w' := by
  obtain ⟨m, hm⟩ : ∃ m : Int, (if size < 0 then (0 : Int) else size) = m := ⟨_, rfl⟩
  obtain ⟨k, hk⟩ : ∃ k : Int, (if 8 < m then (8 : Int) else m) = k := ⟨_, rfl⟩
  go_enter Try.func32, Try.ntmps32
  go_wp2_with (go_at_call 74; refine (take_nil _ _).mono ?_; rintro e w1 ⟨rfl, rfl⟩)
  go_loopw [5, 14] (fun v i wr => i = .int .i64 0 ∧ v = .int .u64 0 ∧ wr = w) (fun _ i _ => 0)
  case atStart => exact ⟨rfl, rfl, rfl⟩
  case round =>
    obtain ⟨rfl, rfl, rfl⟩ := hrel
    go_wp2
    go_ret
    exact ⟨rfl, rfl⟩
set_option maxHeartbeats 1000000 in
theorem text_nil (most : Int) (w : World) :
    Calls Try.prog 33 #[.pointer none, .int .i64 most] w fun e w' => e = .returned (.string (⟨#[]⟩ : ByteArray)) ∧ w = w' := by
  have hstr := fun W : World => run_convert_bytes_nil (P := Try.prog) W 56 5 Try.underlying56 Try.underlying5 0 0 9 Try.underlying9
  go_enter Try.func33, Try.ntmps33
  go_wp2_with (first
    | (go_at_call 32; refine (number_nil _ _).mono ?_; rintro e w1 ⟨rfl, rfl⟩)
    | (go_at_call 36; refine (failed_nil _).mono ?_; rintro e w1 ⟨rfl, rfl⟩)
    | (go_at_call 74; refine (take_nil _ _).mono ?_; rintro e w1 ⟨rfl, rfl⟩))
  go_ret
  exact ⟨rfl, rfl⟩
set_option maxHeartbeats 1000000 in
theorem value_nil (w : World) :
    Calls Try.prog 34 #[.pointer none] w fun e w' => e = .returned (.agg #[.int .u8 0, .int .i64 0, .string (⟨#[]⟩ : ByteArray)]) ∧ Below w.heap.size w w' := by
  go_enter Try.func34, Try.ntmps34
  go_wp2_with (first
    | (go_at_call 32; refine (number_nil _ _).mono ?_; rintro e w1 ⟨rfl, rfl⟩)
    | (go_at_call 36; refine (failed_nil _).mono ?_; rintro e w1 ⟨rfl, rfl⟩))
  refine bodyPost_ret (results_cell_row rfl _ _ w.heap.size 54 #[.int .u8 0, .int .i64 0, .string (⟨#[]⟩ : ByteArray)] (0, 0) _ rfl (blk_alloc (blk_new w _) _) Try.underlying54 rfl (by kernel_rfl)) rfl ?_
  exact ⟨rfl, below_alloc (below_alloc (Below.refl _ _) _) _⟩
set_option maxHeartbeats 4000000 in
set_option maxRecDepth 100000 in
theorem lives_calls (w : World) :
    Calls Try.prog 31 #[] w fun e w' => e = .returned (.bool true) ∧ Below w.heap.size w w' := by
  have h9 : ∀ W : World, Byt (W.alloc (.cells #[.int .u8 9] 5)) (.slice (some ⟨W.heap.size, 0, none⟩) 1 1) [9] := by
    intro W
    refine ⟨rfl, _, _, rfl, Nat.le_refl _, (fun h => by cases h), ?_⟩
    intro ad hA j u hj
    cases hA
    rw [add_plain, blk_cell (blk_new W _)]
    simpa [nums] using hj
  have hl : [9] ++ valB 2 (-2) (⟨#[]⟩ : ByteArray) = [9, 2, 254, 255, 255, 255, 255, 255, 255, 255] := by decide
  have HL := Lib.hid hl
  clear hl
  have htl : ((strOfNums [9, 2, 254, 255, 255, 255, 255, 255, 255, 255]).toList == ([9, 2, 254, 255, 255, 255, 255, 255, 255, 255] : List UInt8)) = true := by decide +kernel
  go_enter Try.func31, Try.ntmps31
  go_wp2_with (first
    | (go_at_call 69; go_loud (refine (value_calls _ [9] 2 (-2) _ _ (h9 w) (by decide) (by decide) (by decide) (by decide)).mono ?_; rintro e w1 ⟨v1, rfl, hM⟩; rw [HL.out] at hM; obtain ⟨A, c, rfl, hc, hn, hC⟩ := hM.byt.C (by decide); have hstr := Kd.C_string (c := c) (n := 10) (src := 56) (dst := 9) (e := 5) Try.underlying56 Try.underlying5 Try.underlying9 hC))
    | (go_at_call 73; go_loud (refine (open_calls _ _ _ hM.byt (by decide)).mono ?_; rintro e w2 ⟨g, rfl, hr, hg, hB⟩))
    | (go_at_call 35; go_loud (refine (left_calls _ _ _ _ _ hr).mono ?_; rintro e w3 ⟨rfl, rfl⟩)))
  go_ret
  exact ⟨rfl, below_then (below_alloc (Below.refl _ _) _) (by simp) (below_then hM.2 (by have := hM.2.size; simp at this ⊢; omega) hB)⟩
end Go.Proofs.Ytaoacibahdbdkaa.Pr
