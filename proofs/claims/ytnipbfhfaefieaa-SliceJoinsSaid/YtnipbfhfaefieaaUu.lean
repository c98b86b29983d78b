/- Texts of this claim, laid together: TlB, TlC. -/
import Derived.Test.YtnipbfhfaefieaaUt
/-! slice: SliceJoins, a join. -/
namespace Go.Proofs.Ytnipbfhfaefieaa.Sl
open Go.RowKit Go Go.Proofs.YtnipbfhfaefieaaW.PrintWords Go.Proofs.YtnipbfhfaefieaaW.PrintMore Go.Proofs.YtnipbfhfaefieaaW.PrintLast Go.Proofs.Ytnipbfhfaefieaa.Bts Go.Proofs.Ytnipbfhfaefieaa.Fra Go.Proofs.Ytnipbfhfaefieaa.ArnP Go.Proofs.Ytnipbfhfaefieaa.Arn Go.Proofs.Ytnipbfhfaefieaa.Ao Go.Proofs.Ytnipbfhfaefieaa.Pv Go.Proofs.Ytnipbfhfaefieaa.ValPure Go.Proofs.Ytnipbfhfaefieaa.Vl
section
variable {O : Nat → Prop} {a : Nat} {f : Nat → Cell} {live most : Int} {ext rest : Nat → Nat}
theorem live_is (l0 : Int) (w : World) (h : AO w O a f live most ext nop) (hl : l0 = live) : Calls Try.prog 22 #[.pointer (some ⟨a, 0, none⟩)] w fun e w' => e = .returned (.int .i64 l0) ∧ w' = w := by
  rw [hl]
  exact live_AO w h
theorem vself (n r t : Nat) (l : List V3) (w : World) (h : AO w O a f live most ext nop) (hv : VRep f n r t l) (he : ∀ x, vx r t x ≤ ext x) :
    Calls Try.prog 58 #[.pointer (some ⟨a, 0, none⟩), vecV n r t, vecV n r t] w fun e w' => e = .returned (.int .i64 0) ∧ Below w.heap.size w w' := by
  rw [← listsV_self l]
  exact vcompare n r t n r t l l w h hv hv he he
end
theorem eqsame {Q R : Nat → Prop} (l : List V3) (v u : Value) (w : World) (hl : RowIn kVal w Q v l) (hm : RowIn kVal w R u l) (hll : l.length ≤ 100000) :
    Calls Try.prog 41 #[v, u] w fun e w' => e = .returned (.bool true) ∧ Below w.heap.size w w' := by
  have := equal_calls l l v u w hl hm hll hll
  rwa [decide_eq_true (rfl : l = l)] at this
theorem rowC {Q : Nat → Prop} {w : World} {A : Option Addr} {c n : Nat} {l : List V3} (hn : l.length = n) (h : RowIn kVal w Q (.slice A n c) l) : kVal.C w A l.length l := by
  obtain ⟨A', c', e, _, _, hC, _⟩ := h
  rw [hn] at e
  injection e with e1
  rw [e1]
  exact hC
theorem concatR {Q R : Nat → Prop} (g : Nat) (A B : Option Addr) (c d n m : Nat) (l l2 : List V3) (w : World) (hg : w.heap[g]? = some (.cells #[.slice A n c, .slice B m d] 41 (0, 0))) (hn : l.length = n) (hm : l2.length = m) (hl : RowIn kVal w Q (.slice A n c) l) (hl2 : RowIn kVal w R (.slice B m d) l2) (h1 : n ≤ 1000) (h2 : m ≤ 1000) :
    Calls Try.prog 57 #[.slice (some ⟨g, 0, none⟩) 2 2] w fun e w' => ∃ u, e = .returned u ∧ VR w' w.heap.size u (l ++ l2) ∧ Below w.heap.size w w' := by
  have k1 := rowC hn hl
  have k2 := rowC hm hl2
  subst hn hm
  exact concat_calls g A B c d l l2 w hg k1 k2 h1 h2
theorem ofR {Q : Nat → Prop} (A : Option Addr) (c n : Nat) (l : List V3) (w : World) (hn : l.length = n) (hl : RowIn kVal w Q (.slice A n c) l) (h1 : n ≤ 1000) :
    Calls Try.prog 60 #[.slice A n c] w fun e w' => ∃ u, e = .returned u ∧ DR w' w.heap.size u l ∧ Below w.heap.size w w' := by
  have k1 := rowC hn hl
  subst hn
  exact of_calls l A c w k1 (by omega)
set_option maxHeartbeats 8000000 in
set_option maxRecDepth 100000 in
theorem joins_ok (A0 : Option Addr) (c0 : Nat) (x0 : List V3) (A1 : Option Addr) (c1 : Nat) (x1 : List V3) (x2_0 : Int) (x2_1 : Int) (W : World) (C0 : kVal.C W A0 x0.length x0) (C1 : kVal.C W A1 x1.length x1) (hm : x0.length ≤ 4611686018427387904) (hm1 : x1.length ≤ 4611686018427387904) (hf : fitsB x0 = true) (hf1 : fitsB x1 = true) (hx60 : x0.length ≤ 2000) (hx61 : x1.length ≤ 2000) (N M : Nat) (hN : (IntKind.u64.wrap x2_0).tmod 700 = N) (hN2 : N < 700) (hN3 : wrap64 (N : Int) = N) (hM : (IntKind.u64.wrap x2_1).tmod 700 = M) (hM2 : M < 700) (hM3 : wrap64 (M : Int) = M) (K : Nat) (hK : N + M = K) (hsmall : N + M ≤ 1024) :
    Calls Try.prog 11 #[.slice A0 x0.length c0, .slice A1 x1.length c1, .agg #[.int .i64 x2_0, .int .i64 x2_1]] W fun e W' => e = .returned (.bool true) ∧ Below W.heap.size W W' := by
  have hlen := fillL_len x0 N
  have hlen1 := fillL_len x1 M
  have HLEN := Lib.hid hlen
  have HLEN1 := Lib.hid hlen1
  have HSZ := Lib.hid (And.intro (fill_size hf N) (fill_size hf1 M))
  have hsm : N ≤ 1024 := by (clear hN hM; omega)
  have hsm1 : M ≤ 1024 := by (clear hN hM; omega)
  have hw : wrap64 ((N : Int) + (M : Int)) = (N : Int) + (M : Int) := by unfold wrap64; clear hm hm1 hN hM; omega
  have HF := Lib.hid hf
  have HF1 := Lib.hid hf1
  have HK := Lib.hid hK
  clear hK
  have hbig' : ¬ (1024 : Int) < (N : Int) + (M : Int) := by clear hm hm1 hN hM; omega
  clear hf hf1 hlen hlen1
  have HC := Lib.hid C0
  have HC1 := Lib.hid C1
  have hbx := below_alloc (Below.refl W.heap.size W) (.cells #[.int .i64 x2_0, .int .i64 x2_1] 55)
  have hkx := blk_new W (.cells #[.int .i64 x2_0, .int .i64 x2_1] 55)
  obtain ⟨X0, hX0⟩ : ∃ X0, W.alloc (.cells #[.int .i64 x2_0, .int .i64 x2_1] 55) = X0 := ⟨_, rfl⟩
  rw [hX0] at hbx hkx
  have hdx : Below X0.heap.size X0 X0.drew := below_drew1 (Below.refl _ _)
  obtain ⟨X, hX1⟩ : ∃ X, X0.drew = X := ⟨_, rfl⟩
  have hX : (W.alloc (.cells #[.int .i64 x2_0, .int .i64 x2_1] 55)).drew = X := by rw [hX0]; exact hX1
  rw [hX1] at hdx
  have q0 := blk_cell (blk_below hkx hdx) 0
  have q1 := blk_cell (blk_below hkx hdx) 1
  have HBX := Lib.hid (hbx.trans (hdx.mono hbx.size))
  clear C0 C1 hbx hkx hdx hX0 hX1
  go_enter Try.func11, Try.ntmps11
  go_wp2
  refine start_ (n := 6) (S := fun w' => w'.cell? ⟨W.heap.size, 0, none⟩ = some (.int .i64 x2_0) ∧ w'.cell? ⟨W.heap.size, 1, none⟩ = some (.int .i64 x2_1)) (ds := []) #[false, false, false, false, false, false] (by kernel_rfl) rfl rfl ⟨(by rw [hX]; exact q0), (by rw [hX]; exact q1)⟩ (fun hHeld => ?_)
  refine pure_ (i := 0) (N := some 20) (v := ?_) (a' := ?_) #[true, false, false, false, false, false] rfl rfl (by kernel_rfl) (fun _ _ _ h => h) (Or.inl ⟨by rfl, ?_⟩) ?_ ?_
  rotate_left
  · intro w'
    go_simp
    with_reducible rfl
  rotate_left
  · simp only [Act.put, List.setIfInBounds_toArray, List.set_cons_zero, List.set_cons_succ]
    rfl
  refine pure_ (i := 2) (N := some 22) (v := ?_) (a' := ?_) #[true, false, true, false, false, false] rfl rfl (by kernel_rfl) (fun _ _ _ h => h) (Or.inl ⟨by rfl, ?_⟩) ?_ ?_
  rotate_left
  · intro w'
    go_simp
    with_reducible rfl
  rotate_left
  · simp only [Act.put, List.setIfInBounds_toArray, List.set_cons_zero, List.set_cons_succ]
    rfl
  refine take_ (i := 1) (N := some 21) (v := ?_) (a' := ?_) #[true, true, true, false, false, false] rfl rfl (by kernel_rfl) (fun _ _ _ h => h) (Or.inl ⟨by rfl, ?_⟩) hHeld ?_ ?_
  rotate_left
  · rintro w' ⟨s0, s1⟩
    go_simp
    with_reducible rfl
  rotate_left
  · simp only [Act.put, List.setIfInBounds_toArray, List.set_cons_zero, List.set_cons_succ]
    rfl
  refine pure_ (i := 4) (N := some 7) (v := ?_) (a' := ?_) #[true, true, true, false, true, false] rfl rfl (by kernel_rfl) (fun _ _ _ h => h) (Or.inl ⟨by rfl, ?_⟩) ?_ ?_
  rotate_left
  · intro w'
    go_simp
    with_reducible rfl
  rotate_left
  · simp only [Act.put, List.setIfInBounds_toArray, List.set_cons_zero, List.set_cons_succ]
    rfl
  refine take_ (i := 3) (N := some 23) (v := ?_) (a' := ?_) #[true, true, true, true, true, false] rfl rfl (by kernel_rfl) (fun _ _ _ h => h) (Or.inl ⟨by rfl, ?_⟩) hHeld ?_ ?_
  rotate_left
  · rintro w' ⟨s0, s1⟩
    go_simp
    with_reducible rfl
  rotate_left
  · simp only [Act.put, List.setIfInBounds_toArray, List.set_cons_zero, List.set_cons_succ]
    rfl
  refine pure_ (i := 5) (N := some 8) (v := ?_) (a' := ?_) #[true, true, true, true, true, true] rfl rfl (by kernel_rfl) (fun _ _ _ h => h) (Or.inl ⟨by rfl, ?_⟩) ?_ ?_
  rotate_left
  · intro w'
    go_simp
    with_reducible rfl
  rotate_left
  · simp only [Act.put, List.setIfInBounds_toArray, List.set_cons_zero, List.set_cons_succ]
    rfl
  refine done_ (by kernel_rfl) ?_

  rw [hX]
  clear q0 q1
  go_wp2_with (first
    | (go_at_call 22; have hx := HL23; clear hx; go_loud (refine (live_is live8 _ HA23.out HL23.out).mono ?_; rintro e w24 ⟨rfl, hw24⟩; subst hw24))
    | (go_at_call 37; go_loud (refine (vdrop_calls (rest := fun z => no0 z + vx r t z + vx r2 t2 z) (K : Int) r9 t9 _ HA22.out).mono ?_; rintro e w23 ⟨rfl, O23, f23, live23, hA23, hK23, _, hO23, hF23⟩; have HL23 := Lib.hid (live_same HA8.out hA23 (fun j h0 hj => (KeepR.same HK10.out h0 hj).trans (KeepR.same hK23 h0 hj))); have HA23 := Lib.hid hA23; have HF23 := Lib.hid hF23; have HO23 := Lib.hid hO23; clear hA23 hK23 hO23 hF23))
    | (go_at_call 58; have hx := HB21; clear hx; go_loud (refine (vself N r t (fillL x0 N) _ (HAB10.out.below HB21.out) HVX.out (fun z => by show vx r t z ≤ no0 z + vx r t z + vx r2 t2 z + vx r9 t9 z; (clear hN hM; omega))).mono ?_; rintro e w22 ⟨rfl, hB22⟩; have HB22 := Lib.hid (HB21.out.trans (hB22.mono HB21.out.size)); have HA22 := Lib.hid (HAB10.out.below HB22.out); clear d0 d1 d2 v0 v1 v2 u0 u1 u2; have d0 := blk_cell (blk_below HJB10.out HB22.out) 0; have d1 := blk_cell (blk_below HJB10.out HB22.out) 1; have d2 := blk_cell (blk_below HJB10.out HB22.out) 2; have v0 := blk_cell (blk_below HVB10.out HB22.out) 0; have v1 := blk_cell (blk_below HVB10.out HB22.out) 1; have v2 := blk_cell (blk_below HVB10.out HB22.out) 2; have u0 := blk_cell (blk_below HWB10.out HB22.out) 0; have u1 := blk_cell (blk_below HWB10.out HB22.out) 1; have u2 := blk_cell (blk_below HWB10.out HB22.out) 2))
    | (go_at_call 59; go_loud (refine (reflists_calls (fillL x0 N) (fillL x1 M) v19 v20 _ HV20.out HW20.out (by rw [HLEN.out]; (clear hN hM; omega)) (by rw [HLEN1.out]; (clear hN hM; omega)) HSZ.out.1 HSZ.out.2).mono ?_; rintro e w21 ⟨rfl, hB21⟩; have HB21 := Lib.hid (HB20.out.trans (hB21.mono HB20.out.size)); clear d0 d1 d2 v0 v1 v2 u0 u1 u2; have d0 := blk_cell (blk_below HJB10.out HB21.out) 0; have d1 := blk_cell (blk_below HJB10.out HB21.out) 1; have d2 := blk_cell (blk_below HJB10.out HB21.out) 2; have v0 := blk_cell (blk_below HVB10.out HB21.out) 0; have v1 := blk_cell (blk_below HVB10.out HB21.out) 1; have v2 := blk_cell (blk_below HVB10.out HB21.out) 2; have u0 := blk_cell (blk_below HWB10.out HB21.out) 0; have u1 := blk_cell (blk_below HWB10.out HB21.out) 1; have u2 := blk_cell (blk_below HWB10.out HB21.out) 2))
    | (go_at_call 60; have hx := HV19; clear hx; go_loud (refine (ofR A6 c6 M (fillL x1 M) _ HLEN1.out (HRb.out.below HB19.out) (by (clear hN hM; omega))).mono ?_; rintro e w20 ⟨v20, rfl, hV20, hB20⟩; have HB20 := Lib.hid (HB19.out.trans (hB20.mono HB19.out.size)); have HV20 := Lib.hid (HV19.out.below hB20); have HW20 := Lib.hid (RowIn.of_R hV20); clear d0 d1 d2 v0 v1 v2 u0 u1 u2; have d0 := blk_cell (blk_below HJB10.out HB20.out) 0; have d1 := blk_cell (blk_below HJB10.out HB20.out) 1; have d2 := blk_cell (blk_below HJB10.out HB20.out) 2; have v0 := blk_cell (blk_below HVB10.out HB20.out) 0; have v1 := blk_cell (blk_below HVB10.out HB20.out) 1; have v2 := blk_cell (blk_below HVB10.out HB20.out) 2; have u0 := blk_cell (blk_below HWB10.out HB20.out) 0; have u1 := blk_cell (blk_below HWB10.out HB20.out) 1; have u2 := blk_cell (blk_below HWB10.out HB20.out) 2))
    | (go_at_call 60; have hx := HB18; clear hx; go_loud (refine (ofR A5 c5 N (fillL x0 N) _ HLEN.out (HRa.out.below HB18.out) (by (clear hN hM; omega))).mono ?_; rintro e w19 ⟨v19, rfl, hV19, hB19⟩; have HB19 := Lib.hid (HB18.out.trans (hB19.mono HB18.out.size)); have HV19 := Lib.hid (RowIn.of_R hV19); clear d0 d1 d2 v0 v1 v2 u0 u1 u2; have d0 := blk_cell (blk_below HJB10.out HB19.out) 0; have d1 := blk_cell (blk_below HJB10.out HB19.out) 1; have d2 := blk_cell (blk_below HJB10.out HB19.out) 2; have v0 := blk_cell (blk_below HVB10.out HB19.out) 0; have v1 := blk_cell (blk_below HVB10.out HB19.out) 1; have v2 := blk_cell (blk_below HVB10.out HB19.out) 2; have u0 := blk_cell (blk_below HWB10.out HB19.out) 0; have u1 := blk_cell (blk_below HWB10.out HB19.out) 1; have u2 := blk_cell (blk_below HWB10.out HB19.out) 2))
    | (go_at_call 58; have hx := HB17; clear hx; go_loud (refine (vcompare N r t M r2 t2 (fillL x0 N) (fillL x1 M) _ (HAB10.out.below HB17.out) HVX.out HVY.out (fun z => by show vx r t z ≤ no0 z + vx r t z + vx r2 t2 z + vx r9 t9 z; (clear hN hM; omega)) (fun z => by show vx r2 t2 z ≤ no0 z + vx r t z + vx r2 t2 z + vx r9 t9 z; (clear hN hM; omega))).mono ?_; rintro e w18 ⟨rfl, hB18⟩; have HB18 := Lib.hid (HB17.out.trans (hB18.mono HB17.out.size)); clear d0 d1 d2 v0 v1 v2 u0 u1 u2; have d0 := blk_cell (blk_below HJB10.out HB18.out) 0; have d1 := blk_cell (blk_below HJB10.out HB18.out) 1; have d2 := blk_cell (blk_below HJB10.out HB18.out) 2; have v0 := blk_cell (blk_below HVB10.out HB18.out) 0; have v1 := blk_cell (blk_below HVB10.out HB18.out) 1; have v2 := blk_cell (blk_below HVB10.out HB18.out) 2; have u0 := blk_cell (blk_below HWB10.out HB18.out) 0; have u1 := blk_cell (blk_below HWB10.out HB18.out) 1; have u2 := blk_cell (blk_below HWB10.out HB18.out) 2))
    | (go_at_call 41; go_loud (refine (eqsame (fillL x0 N ++ fillL x1 M) v14 v16 _ HV16.out HW16.out (by rw [List.length_append, HLEN.out, HLEN1.out]; (clear hN hM; omega))).mono ?_; rintro e w17 ⟨rfl, hB17⟩; have HB17 := Lib.hid (HB16.out.trans (hB17.mono HB16.out.size)); clear d0 d1 d2 v0 v1 v2 u0 u1 u2; have d0 := blk_cell (blk_below HJB10.out HB17.out) 0; have d1 := blk_cell (blk_below HJB10.out HB17.out) 1; have d2 := blk_cell (blk_below HJB10.out HB17.out) 2; have v0 := blk_cell (blk_below HVB10.out HB17.out) 0; have v1 := blk_cell (blk_below HVB10.out HB17.out) 1; have v2 := blk_cell (blk_below HVB10.out HB17.out) 2; have u0 := blk_cell (blk_below HWB10.out HB17.out) 0; have u1 := blk_cell (blk_below HWB10.out HB17.out) 1; have u2 := blk_cell (blk_below HWB10.out HB17.out) 2))
    | (go_at_call 57; go_loud (refine (concatR w14.heap.size A5 A6 c5 c6 N M (fillL x0 N) (fillL x1 M) _ (blk_new w14 (.cells #[.slice A5 N c5, .slice A6 M c6] 41)) HLEN.out HLEN1.out (HRa.out.below HB15.out) (HRb.out.below HB15.out) (by (clear hN hM; omega)) (by (clear hN hM; omega))).mono ?_; rintro e w16 ⟨v16, rfl, hV16, hB16⟩; have HB16 := Lib.hid (HB15.out.trans (hB16.mono HB15.out.size)); have HV16 := Lib.hid (HV15.out.below hB16); have HW16 := Lib.hid (RowIn.of_R hV16); clear d0 d1 d2 v0 v1 v2 u0 u1 u2; have d0 := blk_cell (blk_below HJB10.out HB16.out) 0; have d1 := blk_cell (blk_below HJB10.out HB16.out) 1; have d2 := blk_cell (blk_below HJB10.out HB16.out) 2; have v0 := blk_cell (blk_below HVB10.out HB16.out) 0; have v1 := blk_cell (blk_below HVB10.out HB16.out) 1; have v2 := blk_cell (blk_below HVB10.out HB16.out) 2; have u0 := blk_cell (blk_below HWB10.out HB16.out) 0; have u1 := blk_cell (blk_below HWB10.out HB16.out) 1; have u2 := blk_cell (blk_below HWB10.out HB16.out) 2))
    | (go_at_call 42; go_loud (refine (all_calls K r9 t9 (fillL x0 N ++ fillL x1 M) _ HAB10.out HV10.out (fun z => Nat.le_add_left _ _)).mono ?_; rintro e w14 ⟨v14, rfl, hV14, hB14⟩; have HB14 := Lib.hid hB14; have HB15 := Lib.hid (hB14.trans ((below_alloc (Below.refl w14.heap.size w14) (.cells #[.slice A5 N c5, .slice A6 M c6] 41)).mono hB14.size)); have HV15 := Lib.hid ((RowIn.of_R hV14).below (below_alloc (Below.refl w14.heap.size w14) (.cells #[.slice A5 N c5, .slice A6 M c6] 41))); clear d0 d1 d2 v0 v1 v2 u0 u1 u2; have d0 := blk_cell (blk_below HJB10.out HB14.out) 0; have d1 := blk_cell (blk_below HJB10.out HB14.out) 1; have d2 := blk_cell (blk_below HJB10.out HB14.out) 2; have v0 := blk_cell (blk_below HVB10.out HB14.out) 0; have v1 := blk_cell (blk_below HVB10.out HB14.out) 1; have v2 := blk_cell (blk_below HVB10.out HB14.out) 2; have u0 := blk_cell (blk_below HWB10.out HB14.out) 0; have u1 := blk_cell (blk_below HWB10.out HB14.out) 1; have u2 := blk_cell (blk_below HWB10.out HB14.out) 2))
    | (go_at_call 56; have hjb := below_alloc (Below.refl (w8.alloc (.cells #[.int .i64 (M : Int), .int .i64 r2, .int .i64 t2] 61)).heap.size (w8.alloc (.cells #[.int .i64 (M : Int), .int .i64 r2, .int .i64 t2] 61))) (.cells #[.int .i64 (N : Int), .int .i64 (r : Int), .int .i64 (t : Int), .int .i64 (M : Int), .int .i64 (r2 : Int), .int .i64 (t2 : Int)] 61); have HJA := Lib.hid (HAB8.out.below hjb); have HJB := Lib.hid hjb; clear hjb; go_loud (refine (join_ok _ N r t M r2 t2 K (fillL x0 N) (fillL x1 M) _ HJA.out HVV8.out HV8.out (fun z => by show vx r t z ≤ no0 z + vx r t z + vx r2 t2 z; (clear hN hM; omega)) (fun z => by show vx r2 t2 z ≤ no0 z + vx r t z + vx r2 t2 z; (clear hN hM; omega)) (fun z => by have := vx_le r t z; have := vx_le r2 t2 z; show no0 z + vx r t z + vx r2 t2 z ≤ _; have : no0 z = 0 := rfl; (clear hN hM; omega)) (by rw [HLEN.out, HLEN1.out]; exact HK.out) (by have := HK.out; (clear hN hM; omega)) (by (clear hN hM; omega)) (new1 w8 (.cells #[.int .i64 (M : Int), .int .i64 r2, .int .i64 t2] 61) (.cells #[.int .i64 (N : Int), .int .i64 (r : Int), .int .i64 (t : Int), .int .i64 (M : Int), .int .i64 (r2 : Int), .int .i64 (t2 : Int)] 61))).mono ?_; rintro e w10 ⟨r9, t9, O10, f10, live10, rfl, HA10, HV10, HK10, HO10, HF10⟩; have hs8 := HJB.out.size; have hs810 := HF10.out.size; have HRa := Lib.hid ((((HR58.out.below HJB.out).fr kVal_K HF10.out (fun j hj hj2 => by rcases HO8b.out j hj2 with q | q <;> (clear hN hM; omega)))).below (below_alloc (Below.refl _ _) (.cells #[.int .i64 (K : Int), .int .i64 r9, .int .i64 t9] 61))); have HRb := Lib.hid ((((HR68.out.below HJB.out).fr kVal_K HF10.out (fun j hj hj2 => by rcases HO8b.out j hj2 with q | q <;> (clear hN hM; omega)))).below (below_alloc (Below.refl _ _) (.cells #[.int .i64 (K : Int), .int .i64 r9, .int .i64 t9] 61))); have HAB10 := Lib.hid (HA10.out.below (below_alloc (Below.refl _ _) (.cells #[.int .i64 (K : Int), .int .i64 r9, .int .i64 t9] 61))); have HVB10 := Lib.hid (blk_alloc (HF10.out.blk (blk_below HVB8.out HJB.out) HNO8.out) (.cells #[.int .i64 (K : Int), .int .i64 r9, .int .i64 t9] 61)); have HWB10 := Lib.hid (blk_alloc (HF10.out.blk (blk_below HWB8.out HJB.out) HNW8.out) (.cells #[.int .i64 (K : Int), .int .i64 r9, .int .i64 t9] 61)); have HJB10 := Lib.hid (blk_new w10 (.cells #[.int .i64 (K : Int), .int .i64 r9, .int .i64 t9] 61)); have d0 := blk_cell HJB10.out 0; have d1 := blk_cell HJB10.out 1; have d2 := blk_cell HJB10.out 2; have hfr10 := (((Fr.of_new (S := fun j => W.heap.size ≤ j) (HB8.out.trans (HJB.out.mono HB8.out.size))).then_ HF10.out (fun i hi => .inl (HO8c.out i hi))).more (below_alloc (Below.refl _ _) (.cells #[.int .i64 (K : Int), .int .i64 r9, .int .i64 t9] 61))); have HB10 := Lib.hid (Fr.below hfr10 (fun _ h => h) (Nat.le_refl _)); have HO10c := Lib.hid (show ∀ j, O10 j → W.heap.size ≤ j from fun j hj => (HO10.out j hj).elim (fun q => HO8c.out j q) (fun q => by have := HB8.out.size; (clear hN hM; omega))); have HVX := Lib.hid (HVV8.out.same (fun j h0 hj => KeepR.same HK10.out h0 (by show 0 < no0 j + vx r t j + vx r2 t2 j; (clear hN hM; omega)))); have HVY := Lib.hid (HV8.out.same (fun j h0 hj => KeepR.same HK10.out h0 (by show 0 < no0 j + vx r t j + vx r2 t2 j; (clear hN hM; omega)))); have x0_ := blk_cell HVB10.out 0; have x1_ := blk_cell HVB10.out 1; have x2_ := blk_cell HVB10.out 2; have y0_ := blk_cell HWB10.out 0; have y1_ := blk_cell HWB10.out 1; have y2_ := blk_cell HWB10.out 2; clear hfr10 v0 v1 v2 u0 u1 u2; have v0 := x0_; have v1 := x1_; have v2 := x2_; have u0 := y0_; have u1 := y1_; have u2 := y2_; clear x0_ x1_ x2_ y0_ y1_ y2_))
    | (go_at_call 22; go_loud (refine (live_AO _ HAB8.out).mono ?_; rintro e w9 ⟨rfl, hw9⟩; subst hw9; have HLIV := Lib.hid trivial))
    | (go_at_call 40; have hx := HV7; clear hx; go_loud (refine (from_ok (rest := fun z => no0 z + vx r t z) (Q := fun j => w5.heap.size ≤ j ∧ j < w6.heap.size) M (fillL x1 M) _ _ HAB7.out (by have := HR67.out; exact this) (fun j hj hj2 => by rcases HO7b.out j hj2 with q | q <;> (clear hN hM; omega)) HLEN1.out hsm1 (fun z => by have := vx_le r t z; show no0 z + vx r t z ≤ _; have : no0 z = 0 := rfl; (clear hN hM; omega)) (by (clear hN hM; omega))).mono ?_; rintro e w8 ⟨r2, t2, O8, f8, live8, rfl, HA8, HV8, HK8, HO8, HF8, hl8⟩; have hs78 := HF8.out.size; have hw7 := blk_lt HVB7.out; have HNO7 := Lib.hid (show ¬ O7 w7.heap.size from fun q => by have := HA7.out.lt _ q; (clear hN hM; omega)); have HR58 := Lib.hid ((HR57.out.fr kVal_K HF8.out (fun j hj hj2 => by rcases HO7b.out j hj2 with q | q <;> (clear hN hM; omega))).below (below_alloc (Below.refl _ _) (.cells #[.int .i64 (M : Int), .int .i64 r2, .int .i64 t2] 61))); have HR68 := Lib.hid ((HR67.out.fr kVal_K HF8.out (fun j hj hj2 => by rcases HO7b.out j hj2 with q | q <;> (clear hN hM; omega))).below (below_alloc (Below.refl _ _) (.cells #[.int .i64 (M : Int), .int .i64 r2, .int .i64 t2] 61))); have HAB8 := Lib.hid (HA8.out.below (below_alloc (Below.refl _ _) (.cells #[.int .i64 (M : Int), .int .i64 r2, .int .i64 t2] 61))); have HVB8 := Lib.hid (blk_alloc (HF8.out.blk HVB7.out HNO7.out) (.cells #[.int .i64 (M : Int), .int .i64 r2, .int .i64 t2] 61)); have HWB8 := Lib.hid (blk_new w8 (.cells #[.int .i64 (M : Int), .int .i64 r2, .int .i64 t2] 61)); have HVV8 := Lib.hid (HV7.out.same (fun j h0 hj => KeepR.same HK8.out h0 (by show 0 < no0 j + vx r t j; (clear hN hM; omega)))); have hfr8 := (((Fr.of_new (S := fun j => W.heap.size ≤ j) HB7.out).then_ HF8.out (fun i hi => .inl (HO7c.out i hi))).more (below_alloc (Below.refl _ _) (.cells #[.int .i64 (M : Int), .int .i64 r2, .int .i64 t2] 61))); have HB8 := Lib.hid (Fr.below hfr8 (fun _ h => h) (Nat.le_refl _)); have HO8c := Lib.hid (show ∀ j, O8 j → W.heap.size ≤ j from fun j hj => (HO8.out j hj).elim (fun q => HO7c.out j q) (fun q => by have := HB7.out.size; (clear hN hM; omega))); have HNO8 := Lib.hid (show ¬ O8 w7.heap.size from fun q => by rcases HO8.out _ q with q2 | q2; exact HNO7.out q2; (clear hN hM; omega)); have HNW8 := Lib.hid (show ¬ O8 w8.heap.size from fun q => by have := HA8.out.lt _ q; (clear hN hM; omega)); have HO8b := Lib.hid (show ∀ j, O8 j → j < w4.heap.size ∨ w6.heap.size ≤ j from fun j hj => (HO8.out j hj).elim (fun q => HO7b.out j q) (fun q => by (clear hN hM; omega))); have v0 := blk_cell HVB8.out 0; have v1 := blk_cell HVB8.out 1; have v2 := blk_cell HVB8.out 2; have u0 := blk_cell HWB8.out 0; have u1 := blk_cell HWB8.out 1; have u2 := blk_cell HWB8.out 2; clear hfr8 hw7))
    | (go_at_call 40; go_loud (refine (from_ok (rest := no0) (Q := fun j => w4.heap.size ≤ j ∧ j < w5.heap.size) N (fillL x0 N) _ _ HA6.out (by have := HR56.out; exact this) (fun j hj hj2 => by have := HOL.out j hj2; (clear hN hM; omega)) HLEN.out hsm (fun _ => Nat.zero_le _) (by decide)).mono ?_; rintro e w7 ⟨r, t, O7, f7, live7, rfl, HA7, HV7, HK7, HO7, HF7, hl7⟩; have hs67 := HF7.out.size; have HR57 := Lib.hid ((HR56.out.fr kVal_K HF7.out (fun j hj hj2 => by have := HOL.out j hj2; (clear hN hM; omega))).below (below_alloc (Below.refl _ _) (.cells #[.int .i64 (N : Int), .int .i64 r, .int .i64 t] 61))); have HR67 := Lib.hid ((HR6.out.fr kVal_K HF7.out (fun j hj hj2 => by have := HOL.out j hj2; (clear hN hM; omega))).below (below_alloc (Below.refl _ _) (.cells #[.int .i64 (N : Int), .int .i64 r, .int .i64 t] 61))); have HAB7 := Lib.hid (HA7.out.below (below_alloc (Below.refl _ _) (.cells #[.int .i64 (N : Int), .int .i64 r, .int .i64 t] 61))); have HVB7 := Lib.hid (blk_new w7 (.cells #[.int .i64 (N : Int), .int .i64 r, .int .i64 t] 61)); have hfr7 := (((Fr.of_new (S := fun j => W.heap.size ≤ j) HB6.out).then_ HF7.out (fun i hi => .inl (by have := HON.out i hi; have := HB3.out.size; (clear hN hM; omega)))).more (below_alloc (Below.refl _ _) (.cells #[.int .i64 (N : Int), .int .i64 r, .int .i64 t] 61))); have HB7 := Lib.hid (Fr.below hfr7 (fun _ h => h) (Nat.le_refl _)); have HO7b := Lib.hid (show ∀ j, O7 j → j < w4.heap.size ∨ w6.heap.size ≤ j from fun j hj => (HO7.out j hj).imp (fun q => HOL.out j q) id); have HO7c := Lib.hid (show ∀ j, O7 j → W.heap.size ≤ j from fun j hj => (HO7.out j hj).elim (fun q => by have := HON.out j q; have := HB3.out.size; (clear hN hM; omega)) (fun q => by have := HB6.out.size; (clear hN hM; omega))); clear hfr7))
    | (go_at_call 39; have hx := HR5; clear hx; go_loud (refine (fill_calls x1 A1 c1 M _ (Kd.C_below HC1.out HB5.out) (by (clear hN hM; omega)) hx61).mono ?_; rintro e w6 ⟨u6, rfl, hR6, hB6⟩; have HB6 := Lib.hid (HB5.out.trans (hB6.mono HB5.out.size)); have hs56 := hB6.size; have HA6 := Lib.hid (HA5.out.below hB6); have HR56 := Lib.hid (HR5.out.below hB6); obtain ⟨A6, c6, e6, hc6, _⟩ := id (RowIn.of_R hR6); rw [HLEN1.out] at e6 hc6; subst e6; have HR6 := Lib.hid (row_lt (RowIn.of_R hR6) (fun j hj hjl => (⟨hj, hjl⟩ : w5.heap.size ≤ j ∧ j < w6.heap.size))); clear hR6 hB6))
    | (go_at_call 39; go_loud (refine (fill_calls x0 A0 c0 N _ (Kd.C_below HC.out HB4.out) (by (clear hN hM; omega)) hx60).mono ?_; rintro e w5 ⟨u5, rfl, hR5, hB5⟩; have HB5 := Lib.hid (HB4.out.trans (hB5.mono HB4.out.size)); have hs45 := hB5.size; have HA5 := Lib.hid (HA4.out.below hB5); obtain ⟨A5, c5, e5, hc5, _⟩ := id (RowIn.of_R hR5); rw [HLEN.out] at e5 hc5; subst e5; have HR5 := Lib.hid (row_lt (RowIn.of_R hR5) (fun j hj hjl => (⟨hj, hjl⟩ : w4.heap.size ≤ j ∧ j < w5.heap.size))); clear hR5 hB5))
    | (go_at_call 20; go_loud (refine (new_AO 8192 _ (by decide) (by decide)).mono ?_; rintro e w4 ⟨a, O, rfl, hA4, hO4, hB4⟩; rw [no0_vx] at hA4; have HA4 := Lib.hid hA4; have HON := Lib.hid hO4; have HOL := Lib.hid hA4.lt; have HB4 := Lib.hid (HB3.out.trans (hB4.mono HB3.out.size)); have hs34 := hB4.size; clear hA4 hO4 hB4))
    | (go_at_call 43; have hx := HB2; clear hx; go_loud (refine (fits_calls x1 A1 c1 _ (Kd.C_below HC1.out HB2.out) hm1).mono ?_; rw [HF1.out]; rintro e w3 ⟨rfl, hb3⟩; have HB3 := Lib.hid (HB2.out.trans (hb3.mono HB2.out.size)); clear hb3))
    | (go_at_call 43; go_loud (refine (fits_calls x0 A0 c0 _ (Kd.C_below HC.out HB1.out) hm).mono ?_; rw [HF.out]; rintro e w2 ⟨rfl, hb2⟩; have HB2 := Lib.hid (HB1.out.trans (hb2.mono HB1.out.size)); clear hb2))
    | (go_at_call 38; go_loud (refine (lives_calls _).mono ?_; rintro e w1 ⟨rfl, hb1⟩; have HB1 := Lib.hid (HBX.out.trans (hb1.mono HBX.out.size)); clear hb1)))
  go_ret
  exact ⟨by simp, Fr.below ((Fr.of_new (S := fun j => W.heap.size ≤ j) (HB10.out.trans (HB22.out.mono HB10.out.size))).then_ HF23.out (fun i hi => .inl (HO10c.out i hi))) (fun _ h => h) (Nat.le_refl _)⟩
end Go.Proofs.Ytnipbfhfaefieaa.Sl
/-! slice: SliceJoins, as a whole. -/
namespace Go.Proofs.Ytnipbfhfaefieaa.Sl
open Go.RowKit Go Go.Proofs.YtnipbfhfaefieaaW.PrintWords Go.Proofs.YtnipbfhfaefieaaW.PrintMore Go.Proofs.YtnipbfhfaefieaaW.PrintLast Go.Proofs.Ytnipbfhfaefieaa.Bts Go.Proofs.Ytnipbfhfaefieaa.Fra Go.Proofs.Ytnipbfhfaefieaa.ArnP Go.Proofs.Ytnipbfhfaefieaa.Arn Go.Proofs.Ytnipbfhfaefieaa.Ao Go.Proofs.Ytnipbfhfaefieaa.Pv
theorem fits_len {l : List V3} (h : fitsB l = true) : l.length ≤ 2000 := by
  unfold fitsB at h
  have := of_decide_eq_true (Bool.and_eq_true_iff.1 h).2
  omega
theorem joins_walk (A0 : Option Addr) (c0 : Nat) (x0 : List ((Int) × (Int) × (ByteArray))) (A1 : Option Addr) (c1 : Nat) (x1 : List ((Int) × (Int) × (ByteArray))) (x2_0 : Int) (x2_1 : Int) (W : World) (l0 : x0.length ≤ c0) (C0 : Kd.C (Kd.pair (Kd.int .u8) (Kd.pair (Kd.int .i64) Kd.string)) W A0 x0.length x0) (p0 : (x0.length ≤ maxLen ∧ x0.length * Try.prog.bytesOf 66 ≤ 140737488351232 ∧ ∀ x ∈ x0, ((IntKind.u8.min ≤ x.1 ∧ x.1 ≤ IntKind.u8.max) ∧ ((IntKind.i64.min ≤ x.2.1 ∧ x.2.1 ≤ IntKind.i64.max) ∧ (x.2.2.size ≤ 140737488351232))))) (l1 : x1.length ≤ c1) (C1 : Kd.C (Kd.pair (Kd.int .u8) (Kd.pair (Kd.int .i64) Kd.string)) W A1 x1.length x1) (p1 : (x1.length ≤ maxLen ∧ x1.length * Try.prog.bytesOf 66 ≤ 140737488351232 ∧ ∀ x ∈ x1, ((IntKind.u8.min ≤ x.1 ∧ x.1 ≤ IntKind.u8.max) ∧ ((IntKind.i64.min ≤ x.2.1 ∧ x.2.1 ≤ IntKind.i64.max) ∧ (x.2.2.size ≤ 140737488351232))))) (p2_0 : (IntKind.i64.min ≤ x2_0 ∧ x2_0 ≤ IntKind.i64.max)) (p2_1 : (IntKind.i64.min ≤ x2_1 ∧ x2_1 ≤ IntKind.i64.max)) :
    Calls Try.prog 11 #[.slice A0 x0.length c0, .slice A1 x1.length c1, .agg #[.int .i64 x2_0, .int .i64 x2_1]] W fun e W' => e = .returned (.bool true) ∧ Below W.heap.size W W' := by
  clear p2_0 p2_1 l0 l1
  have m0 := p0.2.1
  have m1 := p1.2.1
  have hb : Try.prog.bytesOf 66 = 32 := by kernel_rfl
  rw [hb] at m0 m1
  have hm : x0.length ≤ 4611686018427387904 := by clear m1; omega
  have hm1 : x1.length ≤ 4611686018427387904 := by clear m0; omega
  clear m0 m1 p0 p1 hb
  cases hf : fitsB x0
  · exact joins_e1 A0 c0 x0 A1 c1 x1 x2_0 x2_1 W C0 C1 hm hm1 hf
  · cases hf1 : fitsB x1
    · exact joins_e2 A0 c0 x0 A1 c1 x1 x2_0 x2_1 W C0 C1 hm hm1 hf hf1
    · obtain ⟨N, hN, hN2, hN3⟩ := mod_nat x2_0 700 (by decide) (by decide)
      obtain ⟨M, hM, hM2, hM3⟩ := mod_nat x2_1 700 (by decide) (by decide)
      by_cases hs : N + M ≤ 1024
      · exact joins_ok A0 c0 x0 A1 c1 x1 x2_0 x2_1 W C0 C1 hm hm1 hf hf1 (fits_len hf) (fits_len hf1) N M hN hN2 hN3 hM hM2 hM3 _ rfl hs
      · exact joins_long A0 c0 x0 A1 c1 x1 x2_0 x2_1 W C0 C1 hm hm1 hf hf1 (fits_len hf) (fits_len hf1) N M hN hN2 hN3 hM hM2 hM3 (Nat.lt_of_not_le hs)
end Go.Proofs.Ytnipbfhfaefieaa.Sl
