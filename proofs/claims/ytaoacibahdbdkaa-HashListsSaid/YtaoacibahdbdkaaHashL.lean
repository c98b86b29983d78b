/- hash: the chapter's example, and the laws HashMixes and HashNumbers, walked. -/
import Derived.Test.YtaoacibahdbdkaaHashRef
import Derived.Test.YtaoacibahdbdkaaPackP
namespace Go.Proofs.Ytaoacibahdbdkaa.Hsh
open Go.RowKit Go Go.Proofs.YtaoacibahdbdkaaW.PrintWords Go.Proofs.YtaoacibahdbdkaaW.PrintMore Go.Proofs.YtaoacibahdbdkaaW.PrintLast Go.Proofs.Ytaoacibahdbdkaa.Bts Go.Proofs.Ytaoacibahdbdkaa.Fra Go.Proofs.Ytaoacibahdbdkaa.Pk Go.Proofs.Ytaoacibahdbdkaa.Pr Go.Proofs.Ytaoacibahdbdkaa.QPackedPuts
set_option maxRecDepth 100000 in
theorem lives_calls (w : World) : Calls Try.prog 28 #[] w fun e w' => e = .returned (.bool true) ∧ Below w.heap.size w w' := by
  have m0 : (mixI 0 == 0) = true := by decide +kernel
  have m1 : (ofI 1 0 0 (⟨#[]⟩ : ByteArray) != 0) = true := by decide +kernel
  have m2 : (ofI 1 0 0 (⟨#[]⟩ : ByteArray) == 0) = false := by decide +kernel
  have HB := Lib.hid (Below.refl w.heap.size w)
  go_enter Try.func28, Try.ntmps28
  go_wp2_with (first
    | (go_at_call_of 29 (Value.int .u64 0); go_loud (refine (mix_calls 0 _ (by decide) (by decide)).mono ?_; rintro e w1 ⟨rfl, rfl⟩))
    | (go_at_call_of 29 (Value.int .u64 1); go_loud (refine (mix_calls 1 _ (by decide) (by decide)).mono ?_; rintro e w1 ⟨rfl, rfl⟩))
    | (go_at_call 43; go_loud (refine (refMix_calls 1 _ (by decide) (by decide)).mono ?_; rintro e w1 ⟨rfl, rfl⟩))
    | (go_at_call 40; go_loud (refine (new_calls 1 _).mono ?_; rintro e w2 ⟨g, rfl, hr, hg, hB2⟩; have HR := Lib.hid hr; have HG := Lib.hid hg; have HBn := Lib.hid (below_step (by repeat (first | (with_reducible first | exact HB.out | apply below_alloc | apply pw_below_drewN | apply below_drew1) | exact HB.out)) hB2); clear HB; have HB := HBn; clear HBn; clear hr hg))
    | (go_at_call 42; go_loud (refine (of_calls g 1 0 0 _ _ HR.out (by decide) (by decide) (by decide)).mono ?_; rintro e w3 ⟨rfl, _, hF⟩; have HF := Lib.hid hF; clear hF)))
  go_ret
  exact ⟨rfl, HB.out.trans (HF.out.below (fun k hk => by subst hk; exact HG.out) HB.out.size)⟩
theorem mixes_walk (x0 : Int) (x1 : Int) (W : World) (p0 : (IntKind.u64.min ≤ x0 ∧ x0 ≤ IntKind.u64.max)) (p1 : (IntKind.u64.min ≤ x1 ∧ x1 ≤ IntKind.u64.max)) :
    Calls Try.prog 6 #[.int .u64 x0, .int .u64 x1] W fun e W' => e = .returned (.bool true) ∧ Below W.heap.size W W' := by
  have a0 : 0 ≤ x0 ∧ x0 ≤ 18446744073709551615 := p0
  have a1 : 0 ≤ x1 ∧ x1 ≤ 18446744073709551615 := p1
  have he := mixI_eq x0 x1 a0.1 a0.2 a1.1 a1.2
  have A0 := Lib.hid a0
  have A1 := Lib.hid a1
  clear p0 p1 a0 a1
  go_enter Try.func6, Try.ntmps6
  go_wp2_with (first
    | (go_at_call 28; refine (lives_calls _).mono ?_; rintro e w1 ⟨rfl, hB1⟩)
    | (go_at_call_of 29 (Value.int .u64 x0); go_loud (refine (mix_calls x0 _ A0.out.1 A0.out.2).mono ?_; rintro e w2 ⟨rfl, rfl⟩))
    | (go_at_call_of 29 (Value.int .u64 x1); go_loud (refine (mix_calls x1 _ A1.out.1 A1.out.2).mono ?_; rintro e w2 ⟨rfl, rfl⟩)))
  go_ret
  exact ⟨rfl, hB1⟩
theorem blk_new1 (w : World) (o1 o2 : Obj) : ((w.alloc o1).alloc o2).heap[w.heap.size + 1]? = some o2 := by
  have h := blk_new (w.alloc o1) o2
  have e : (w.alloc o1).heap.size = w.heap.size + 1 := by simp
  rwa [e] at h
theorem right_some (k m : Int) (t : ByteArray) : ∃ r, easementref01_Right.f k m t = some r := by
  unfold easementref01_Right.f
  split
  · split <;> exact ⟨_, rfl⟩
  · split
    · split
      · exact ⟨_, rfl⟩
      · split <;> exact ⟨_, rfl⟩
    · split
      · exact ⟨_, rfl⟩
      · split
        · split <;> exact ⟨_, rfl⟩
        · exact ⟨_, rfl⟩
theorem of3_calls (k n : Int) (s : ByteArray) (w : World) :
    Calls Try.prog 39 #[.agg #[.int .u8 k, .int .i64 n, .string s]] w fun e w' => e = .returned (.agg #[.int .u8 k, .int .i64 n, .string s]) ∧ Below w.heap.size w w' := by
  go_enter Try.func39, Try.ntmps39
  go_wp2
  refine bodyPost_ret (results_cell_row rfl _ _ (w.heap.size + 1) 67 #[.int .u8 k, .int .i64 n, .string s] (0, 0) _ rfl (blk_new1 w _ _) Try.underlying67 rfl (by kernel_rfl)) rfl ?_
  exact ⟨rfl, below_alloc (below_alloc (Below.refl _ _) _) _⟩
set_option maxHeartbeats 4000000 in
set_option maxRecDepth 100000 in
theorem numbers_main (seed x k n : Int) (s : ByteArray) (W : World) (hx : 0 ≤ x ∧ x ≤ 18446744073709551615) (hk0 : 0 ≤ k) (hk1 : k ≤ 255) (hs : s.size ≤ 4096) (hr : easementref01_Right.f k n s = some true) :
    Calls Try.prog 9 #[.int .u64 seed, .int .u64 x, .agg #[.int .u8 k, .int .i64 n, .string s]] W fun e W' => e = .returned (.bool true) ∧ Below W.heap.size W W' := by
  have hs2 : s.size ≤ 35184372088832 := by omega
  have HX := Lib.hid hx
  have HRT := Lib.hid hr
  have HB := Lib.hid (Below.refl W.heap.size W)
  have HV := Lib.hid (blk_new W (.cells #[.int .u8 k, .int .i64 n, .string s] 54))
  clear hx hr
  go_enter Try.func9, Try.ntmps9
  go_wp2_with (first
    | (go_at_call 28; go_loud (refine (lives_calls _).mono ?_; rintro e w1 ⟨rfl, hB1⟩; have hvn := blk_below HV.out hB1; clear HV; have HV := Lib.hid hvn; clear hvn; have c0 := blk_cell HV.out 0; have c1 := blk_cell HV.out 1; have c2 := blk_cell HV.out 2; have HBn := Lib.hid (below_step (by repeat (first | (with_reducible first | exact HB.out | apply below_alloc | apply pw_below_drewN | apply below_drew1) | exact HB.out)) hB1); clear HB; have HB := HBn; clear HBn))
    | (go_at_call 39; go_loud (refine (of3_calls k n s _).mono ?_; rintro e w1 ⟨rfl, hB1⟩; have hvn := blk_below HV.out hB1; clear HV; have HV := Lib.hid hvn; clear hvn; have c0 := blk_cell HV.out 0; have c1 := blk_cell HV.out 1; have c2 := blk_cell HV.out 2; have HBn := Lib.hid (below_step (by repeat (first | (with_reducible first | exact HB.out | apply below_alloc | apply pw_below_drewN | apply below_drew1) | exact HB.out)) hB1); clear HB; have HB := HBn; clear HBn))
    | (go_at_call 38; go_loud (refine (easementref01_Right.calls _ _ _ _ _ HRT.out).mono ?_; rintro e w1 ⟨rfl, hB1⟩; have hvn := blk_below HV.out hB1; clear HV; have HV := Lib.hid hvn; clear hvn; have c0 := blk_cell HV.out 0; have c1 := blk_cell HV.out 1; have c2 := blk_cell HV.out 2; have HBn := Lib.hid (below_step (by repeat (first | (with_reducible first | exact HB.out | apply below_alloc | apply pw_below_drewN | apply below_drew1) | exact HB.out)) hB1); clear HB; have HB := HBn; clear HBn))
    | (go_at_call 40; go_loud (refine (new_calls seed _).mono ?_; rintro e w2 ⟨g, rfl, hr, hg, hB2⟩; have HR := Lib.hid hr; have hgW : ¬ W.heap.size = g := (by have := blk_lt HV.out; omega); have hgl : W.heap.size ≤ g := (by have := HB.out.size; omega); have hvn := blk_below HV.out hB2; clear HV; have HV := Lib.hid hvn; clear hvn; have c0 := blk_cell HV.out 0; have c1 := blk_cell HV.out 1; have c2 := blk_cell HV.out 2; have HBn := Lib.hid (below_step (by repeat (first | (with_reducible first | exact HB.out | apply below_alloc | apply pw_below_drewN | apply below_drew1) | exact HB.out)) hB2); clear HB; have HB := HBn; clear HBn; clear hr hg))
    | (go_at_call 41; go_loud (refine (refOf_calls seed k n s _ hk0 hk1 hs2).mono ?_; rintro e w3 ⟨rfl, hB3⟩; have HR3 := Lib.hid ((HR.out.below hB1).below hB3); have hvn := blk_below HV.out hB3; clear HV; have HV := Lib.hid hvn; clear hvn; have c0 := blk_cell HV.out 0; have c1 := blk_cell HV.out 1; have c2 := blk_cell HV.out 2; have HBn := Lib.hid (below_step (by repeat (first | (with_reducible first | exact HB.out | apply below_alloc | apply pw_below_drewN | apply below_drew1) | exact HB.out)) hB3); clear HB; have HB := HBn; clear HBn))
    | (go_at_call_of 42 (Value.pointer none); go_loud (refine (of_nil _ ⟨_, _, _, rfl⟩ _).mono ?_; rintro e w6 ⟨rfl, hB6⟩; have hvn := blk_below HV.out hB6; clear HV; have HV := Lib.hid hvn; clear hvn; have c0 := blk_cell HV.out 0; have c1 := blk_cell HV.out 1; have c2 := blk_cell HV.out 2; have HBn := Lib.hid (below_step (by repeat (first | (with_reducible first | exact HB.out | apply below_alloc | apply pw_below_drewN | apply below_drew1) | exact HB.out)) hB6); clear HB; have HB := HBn; clear HBn))
    | (go_at_call 42; (refine (of_calls g seed k n s _ HR4.out hk0 hk1 hs2).mono ?_; rintro e w5 ⟨rfl, h5, hF5⟩; have hvn := hF5.blk HV.out hgW; clear HV; have HV := Lib.hid hvn; clear hvn; have c0 := blk_cell HV.out 0; have c1 := blk_cell HV.out 1; have c2 := blk_cell HV.out 2; have HBn := Lib.hid (HB.out.trans (hF5.below (fun k hk => by subst hk; exact hgl) HB.out.size)); clear HB; have HB := HBn; clear HBn h5 hF5))
    | (go_at_call 42; go_loud (refine (of_calls g seed k n s _ HR3.out hk0 hk1 hs2).mono ?_; rintro e w4 ⟨rfl, h4, hF4⟩; have HR4 := Lib.hid h4; have hvn := hF4.blk HV.out hgW; clear HV; have HV := Lib.hid hvn; clear hvn; have c0 := blk_cell HV.out 0; have c1 := blk_cell HV.out 1; have c2 := blk_cell HV.out 2; have HBn := Lib.hid (HB.out.trans (hF4.below (fun k hk => by subst hk; exact hgl) HB.out.size)); clear HB; have HB := HBn; clear HBn h4 hF4))
    | (go_at_call 29; go_loud (refine (mix_calls x _ HX.out.1 HX.out.2).mono ?_; rintro e w1 ⟨rfl, rfl⟩))
    | (go_at_call 43; go_loud (refine (refMix_calls x _ HX.out.1 HX.out.2).mono ?_; rintro e w1 ⟨rfl, rfl⟩))
    | (go_at_call 44; go_loud (refine (all_nil _ _).mono ?_; rintro e w7 ⟨rfl, rfl⟩)))
  go_ret
  exact ⟨rfl, below_alloc HB.out _⟩
set_option maxHeartbeats 4000000 in
theorem numbers_walk (x0 : Int) (x1 : Int) (x2_0 : Int) (x2_1 : Int) (x2_2 : ByteArray) (W : World) (p0 : (IntKind.u64.min ≤ x0 ∧ x0 ≤ IntKind.u64.max)) (p1 : (IntKind.u64.min ≤ x1 ∧ x1 ≤ IntKind.u64.max)) (p2_0 : (IntKind.u8.min ≤ x2_0 ∧ x2_0 ≤ IntKind.u8.max)) (p2_1 : (IntKind.i64.min ≤ x2_1 ∧ x2_1 ≤ IntKind.i64.max)) (p2_2 : (x2_2.size ≤ 140737488351232)) :
    Calls Try.prog 9 #[.int .u64 x0, .int .u64 x1, .agg #[.int .u8 x2_0, .int .i64 x2_1, .string x2_2]] W fun e W' => e = .returned (.bool true) ∧ Below W.heap.size W W' := by
  have a1 : 0 ≤ x1 ∧ x1 ≤ 18446744073709551615 := p1
  have a2 : 0 ≤ x2_0 ∧ x2_0 ≤ 255 := p2_0
  obtain ⟨r, hr⟩ := right_some x2_0 x2_1 x2_2
  cases r
  · have HRT := Lib.hid hr
    have HB := Lib.hid (Below.refl W.heap.size W)
    have HV := Lib.hid (blk_new W (.cells #[.int .u8 x2_0, .int .i64 x2_1, .string x2_2] 54))
    clear hr p0 p1 p2_0 p2_1 p2_2 a1 a2
    go_enter Try.func9, Try.ntmps9
    go_wp2_with (first
      | (go_at_call 28; go_loud (refine (lives_calls _).mono ?_; rintro e w1 ⟨rfl, hB1⟩; (try (have hvn := blk_below HV.out hB1; clear HV; have HV := Lib.hid hvn; clear hvn; have c0 := blk_cell HV.out 0; have c1 := blk_cell HV.out 1; have c2 := blk_cell HV.out 2)); have HBn := Lib.hid (below_step (by repeat (first | (with_reducible first | exact HB.out | apply below_alloc | apply pw_below_drewN | apply below_drew1) | exact HB.out)) hB1); clear HB; have HB := HBn; clear HBn))
      | (go_at_call 39; go_loud (refine (of3_calls x2_0 x2_1 x2_2 _).mono ?_; rintro e w1 ⟨rfl, hB1⟩; have hvn := blk_below HV.out hB1; clear HV; have HV := Lib.hid hvn; clear hvn; have c0 := blk_cell HV.out 0; have c1 := blk_cell HV.out 1; have c2 := blk_cell HV.out 2; have HBn := Lib.hid (below_step (by repeat (first | (with_reducible first | exact HB.out | apply below_alloc | apply pw_below_drewN | apply below_drew1) | exact HB.out)) hB1); clear HB; have HB := HBn; clear HBn))
      | (go_at_call 38; go_loud (refine (easementref01_Right.calls _ _ _ _ _ HRT.out).mono ?_; rintro e w1 ⟨rfl, hB1⟩; have hvn := blk_below HV.out hB1; clear HV; have HV := Lib.hid hvn; clear hvn; have c0 := blk_cell HV.out 0; have c1 := blk_cell HV.out 1; have c2 := blk_cell HV.out 2; have HBn := Lib.hid (below_step (by repeat (first | (with_reducible first | exact HB.out | apply below_alloc | apply pw_below_drewN | apply below_drew1) | exact HB.out)) hB1); clear HB; have HB := HBn; clear HBn)))
    go_ret
    exact ⟨rfl, HB.out⟩
  · have ht : x2_2.size ≤ 4096 := by
      have e0 : ByteArray.empty.size = 0 := rfl
      rcases right_cases hr with ⟨_, _, rfl⟩ | ⟨_, _, rfl⟩ | ⟨_, rfl⟩ | ⟨_, _, h⟩ <;> omega
    exact numbers_main x0 x1 x2_0 x2_1 x2_2 W a1 a2.1 a2.2 ht hr
end Go.Proofs.Ytaoacibahdbdkaa.Hsh
