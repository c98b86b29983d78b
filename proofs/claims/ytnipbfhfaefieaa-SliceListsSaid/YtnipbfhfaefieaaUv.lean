/- Texts of this claim, laid together: SlO. -/
import Derived.Test.YtnipbfhfaefieaaUr
/-! slice: SliceLists, a wrong page, a cut. -/
namespace Go.Proofs.Ytnipbfhfaefieaa.Sl
open Go.RowKit Go Go.Proofs.YtnipbfhfaefieaaW.PrintWords Go.Proofs.YtnipbfhfaefieaaW.PrintMore Go.Proofs.YtnipbfhfaefieaaW.PrintLast Go.Proofs.Ytnipbfhfaefieaa.Bts Go.Proofs.Ytnipbfhfaefieaa.Fra Go.Proofs.Ytnipbfhfaefieaa.ArnP Go.Proofs.Ytnipbfhfaefieaa.Arn Go.Proofs.Ytnipbfhfaefieaa.Ao Go.Proofs.Ytnipbfhfaefieaa.Pv
set_option maxHeartbeats 8000000 in
set_option maxRecDepth 100000 in
theorem lists_A1K (A0 : Option Addr) (c0 : Nat) (x0 : List V3) (x1_0 : Int) (x1_1 : Int) (x2_0 : Int) (x2_1 : Int) (W : World) (C0 : kVal.C W A0 x0.length x0) (hm : x0.length ≤ 4611686018427387904) (hx60 : x0.length ≤ 2000) (hf : fitsB x0 = true) (N : Nat) (hN : (IntKind.u64.wrap x1_0).tmod 1100 = N) (hN2 : N < 1100) (hN3 : wrap64 (N : Int) = N) (hsm : N ≤ 1024) (pf cn sz : Int) (hpf : x2_0.tmod 1100 = pf) (hcn : x2_1.tmod 80 = cn) (hsz : x1_1.tmod 300 = sz) (hp1 : cn < 0) (p m : Nat) (hpp : pf = p) (hss : sz = m) (hpm : p + m ≤ N) :
    Calls Try.prog 9 #[.slice A0 x0.length c0, .agg #[.int .i64 x1_0, .int .i64 x1_1], .agg #[.int .i64 x2_0, .int .i64 x2_1]] W fun e W' => e = .returned (.bool true) ∧ Below W.heap.size W W' := by
  have hbig' : ¬ (1024 : Int) < (N : Int) := by omega
  have hlen := fillL_len x0 N
  have HLEN := Lib.hid hlen
  have HC := Lib.hid C0
  have HF := Lib.hid hf
  have hpg : cn < 0 ∨ 64 < cn := .inl hp1
  have hn1 : ¬ pf < 0 := by rw [hpp]; exact nn1 p
  have hn2 : ¬ pf + sz < pf := by rw [hpp, hss]; exact nn2 p m
  have hn3 : ¬ (N : Int) < pf + sz := by rw [hpp, hss]; exact nn3 hpm
  have hpr : -1099 ≤ pf ∧ pf ≤ 1099 := by rw [← hpf]; exact tmod_rng x2_0 1100 (by decide)
  have hsr : -299 ≤ sz ∧ sz ≤ 299 := by rw [← hsz]; exact tmod_rng x1_1 300 (by decide)
  have hto : wrap64 (pf + sz) = pf + sz := by unfold wrap64; omega
  have HPG := Lib.hid hpg
  clear hpg
  have HPM := Lib.hid hpm
  have HPP := Lib.hid hpp
  have HSS := Lib.hid hss
  clear hpp hss hpm
  clear C0 hf hlen
  go_enter Try.func9, Try.ntmps9
  go_wp2_with (first
    | (go_at_call 41; go_loud (refine (equal_calls (fillL x0 N) (fillL x0 N) v6 _ _ (RowIn.of_R HV6.out) (by have := HR6.out; exact this) (by rw [HLEN.out]; omega) (by rw [HLEN.out]; omega)).mono ?_; rw [decide_eq_true (rfl : fillL x0 N = fillL x0 N)]; rintro e w7 ⟨rfl, hB7⟩; have hb7 := HB6.out.trans (hB7.mono HB6.out.size); have HR7 := Lib.hid (HR5.out.fr kVal_K (Fr.of_new (S := fun _ => False) hb7) (fun _ _ h => h)); have HA7 := Lib.hid (HAV5.out.below hb7); have HQ71 := Lib.hid (blk_below HQ51.out hb7); have HQ72 := Lib.hid (blk_below HQ52.out hb7); have HVB7 := Lib.hid (blk_below HVB5.out hb7); have HB7 := Lib.hid (HB5.out.trans (hb7.mono HB5.out.size)); have HS7 := Lib.hid hb7.size; clear hb7 hB7))
    | (go_at_call 42; go_loud (refine (all_calls N r t (fillL x0 N) _ HAV5.out HV5.out (fun _ => Nat.le_add_left _ _)).mono ?_; rintro e w6 ⟨v6, rfl, hV6, hB6⟩; have HV6 := Lib.hid hV6; have HB6 := Lib.hid hB6; have HR6 := Lib.hid (HR5.out.fr kVal_K (Fr.of_new (S := fun _ => False) hB6) (fun _ _ h => h)); clear hV6 hB6))
    | (go_at_call 40; go_loud (refine (from_ok (rest := no0) (Q := fun j => w2.heap.size ≤ j ∧ j < w3.heap.size) N (fillL x0 N) _ _ HA4.out (by have := HR4.out; exact this) (fun j hj hj2 => by have := HON.out j hj2; omega) HLEN.out hsm (fun _ => Nat.zero_le _) (by decide)).mono ?_; rintro e w5 ⟨r, t, O5, f5, live5, rfl, HA5, HV5, HK5, HO5, HF5, hl5⟩; have hb5 := HF5.out; have HLO := Lib.hid (show ∀ j, j < w4.heap.size → w3.heap.size ≤ w4.heap.size → j < w3.heap.size → ¬ O5 j from fun j h1 h2 h3 h4 => by rcases HO5.out j h4 with q | q; (have := HON.out j q; omega); omega); have HQ51 := Lib.hid (blk_alloc (hb5.blk HQ41.out (fun q => by have := HON.out _ q; have := blk_lt HQ31.out; omega)) (.cells #[.int .i64 (N : Int), .int .i64 r, .int .i64 t] 61)); have HQ52 := Lib.hid (blk_alloc (hb5.blk HQ42.out (fun q => by have := HON.out _ q; have := blk_lt HQ32.out; omega)) (.cells #[.int .i64 (N : Int), .int .i64 r, .int .i64 t] 61)); have HR5 := Lib.hid ((HR4.out.fr kVal_K hb5 (fun j hj hj2 => by have := HON.out j hj2; omega)).fr kVal_K (Fr.of_new (S := fun _ => False) (below_alloc (Below.refl w5.heap.size w5) (.cells #[.int .i64 (N : Int), .int .i64 r, .int .i64 t] 61))) (fun _ _ h => h)); have HAV5 := Lib.hid (HA5.out.below (below_alloc (Below.refl _ _) (.cells #[.int .i64 (N : Int), .int .i64 r, .int .i64 t] 61))); have HVB5 := Lib.hid (blk_new w5 (.cells #[.int .i64 (N : Int), .int .i64 r, .int .i64 t] 61)); have q0 := blk_cell HVB5.out 0; have hfr5 := (((Fr.of_new (S := fun j => W.heap.size ≤ j) HB4.out).then_ hb5 (fun i hi => .inl (by have := HON.out i hi; have := HB3.out.size; omega))).more (below_alloc (Below.refl _ _) (.cells #[.int .i64 (N : Int), .int .i64 r, .int .i64 t] 61))); have HB5 := Lib.hid (Fr.below hfr5 (fun _ h => h) (Nat.le_refl _)); have hs5 := HF5.out.size; clear hb5 hfr5))
    | (go_at_call 20; go_loud (refine (new_AO 4096 _ (by decide) (by decide)).mono ?_; rintro e w4 ⟨a, O, rfl, hA4, hO4, hB4⟩; rw [no0_vx] at hA4; have HA4 := Lib.hid hA4; have HON := Lib.hid hO4; have HQ41 := Lib.hid (blk_below HQ31.out hB4); have HQ42 := Lib.hid (blk_below HQ32.out hB4); have HR4 := Lib.hid (HR3.out.fr kVal_K (Fr.of_new (S := fun _ => False) hB4) (fun _ _ h => h)); have HB4 := Lib.hid (HB3.out.trans (hB4.mono HB3.out.size)); have hs34 := hB4.size; clear hA4 hO4 hB4))
    | (go_at_call 39; go_loud (refine (fill_calls x0 A0 c0 N _ (Kd.C_below HC.out HB2.out) (by omega) hx60).mono ?_; rintro e w3 ⟨u3, rfl, hR3, hB3⟩; have HQ31 := Lib.hid (blk_below HQ1.out hB3); have HQ32 := Lib.hid (blk_below HQ2.out hB3); have HB3 := Lib.hid (HB2.out.trans (hB3.mono HB2.out.size)); obtain ⟨A3, c3, e3, hc3, _⟩ := id (RowIn.of_R hR3); rw [HLEN.out] at e3 hc3; subst e3; have HR3 := Lib.hid (row_lt (RowIn.of_R hR3) (fun j hj hjl => (⟨hj, hjl⟩ : w2.heap.size ≤ j ∧ j < w3.heap.size))); clear hR3 hB3))
    | (go_at_call 43; go_loud (refine (fits_calls x0 A0 c0 _ (Kd.C_below HC.out HB1.out) hm).mono ?_; rw [HF.out]; rintro e w2 ⟨rfl, hb2⟩; have HB2 := Lib.hid (HB1.out.trans (hb2.mono HB1.out.size)); have HQ1 := Lib.hid (blk_below HP1.out hb2); have HQ2 := Lib.hid (blk_below HP2.out hb2); have p0 := blk_cell HQ1.out 0; have p1 := blk_cell HQ1.out 1; clear hb2))
    | (go_at_call 38; go_loud (refine (lives_calls _).mono ?_; rintro e w1 ⟨rfl, hb1⟩; have hbb := blk_alloc (blk_new W (.cells #[.int .i64 x1_0, .int .i64 x1_1] 55)) (.cells #[.int .i64 x2_0, .int .i64 x2_1] 55); have hbc := new1 W (.cells #[.int .i64 x1_0, .int .i64 x1_1] 55) (.cells #[.int .i64 x2_0, .int .i64 x2_1] 55); have HP1 := Lib.hid (blk_below hbb hb1); have HP2 := Lib.hid (blk_below hbc hb1); have HB1 := Lib.hid (below_step (below_alloc (below_alloc (Below.refl W.heap.size W) (.cells #[.int .i64 x1_0, .int .i64 x1_1] 55)) (.cells #[.int .i64 x2_0, .int .i64 x2_1] 55)) hb1); clear hb1 hbb hbc)))
  have hd7 : Below w7.heap.size w7 w7.drew := below_drew1 (Below.refl _ _)
  have e0 := blk_cell (blk_below HQ72.out hd7) 0
  have e1 := blk_cell (blk_below HQ72.out hd7) 1
  obtain ⟨V, hV⟩ : ∃ V, w7.drew = V := ⟨_, rfl⟩
  rw [hV] at e0 e1 hd7
  have HD7 := Lib.hid hd7
  have HRV := Lib.hid (HR7.out.fr kVal_K (Fr.of_new (S := fun _ => False) hd7) (fun _ _ h => h))
  have HAV := Lib.hid (HA7.out.below hd7)
  have HQV := Lib.hid (blk_below HQ71.out hd7)
  have HVB := Lib.hid (blk_below HVB7.out hd7)
  have HBV := Lib.hid (HB7.out.trans (hd7.mono HB7.out.size))
  have hsv := hd7.size
  have hs7 := HS7.out
  clear hd7 HS7
  refine start_ (n := 8) (S := fun w' => w'.cell? ⟨W.heap.size + 1, 0, none⟩ = some (.int .i64 x2_0) ∧ w'.cell? ⟨W.heap.size + 1, 1, none⟩ = some (.int .i64 x2_1)) (ds := []) #[false, false, false, false, false, false, false, false] (by kernel_rfl) rfl rfl ⟨(by rw [hV]; exact e0), (by rw [hV]; exact e1)⟩ (fun hHeld => ?_)
  refine pure_ (i := 0) (N := some 76) (v := ?_) (a' := ?_) #[true, false, false, false, false, false, false, false] rfl rfl (by kernel_rfl) (fun _ _ _ h => h) (Or.inl ⟨by rfl, ?_⟩) ?_ ?_
  rotate_left
  · intro w'
    go_simp
    with_reducible rfl
  rotate_left
  · simp only [Act.put, List.setIfInBounds_toArray, List.set_cons_zero, List.set_cons_succ]
    rfl
  refine pure_ (i := 3) (N := some 79) (v := ?_) (a' := ?_) #[true, false, false, true, false, false, false, false] rfl rfl (by kernel_rfl) (fun _ _ _ h => h) (Or.inl ⟨by rfl, ?_⟩) ?_ ?_
  rotate_left
  · intro w'
    go_simp
    with_reducible rfl
  rotate_left
  · simp only [Act.put, List.setIfInBounds_toArray, List.set_cons_zero, List.set_cons_succ]
    rfl
  refine take_ (i := 1) (N := some 77) (v := ?_) (a' := ?_) #[true, true, false, true, false, false, false, false] rfl rfl (by kernel_rfl) (fun _ _ _ h => h) (Or.inl ⟨by rfl, ?_⟩) hHeld ?_ ?_
  rotate_left
  · rintro w' ⟨s0, s1⟩
    go_simp
    with_reducible rfl
  rotate_left
  · simp only [Act.put, List.setIfInBounds_toArray, List.set_cons_zero, List.set_cons_succ]
    rfl
  refine pure_ (i := 2) (N := some 78) (v := ?_) (a' := ?_) #[true, true, true, true, false, false, false, false] rfl rfl (by kernel_rfl) (fun _ _ _ h => h) (Or.inl ⟨by rfl, ?_⟩) ?_ ?_
  rotate_left
  · intro w'
    go_simp
    with_reducible rfl
  rotate_left
  · simp only [Act.put, List.setIfInBounds_toArray, List.set_cons_zero, List.set_cons_succ]
    rfl
  refine pure_ (i := 6) (N := some 12) (v := ?_) (a' := ?_) #[true, true, true, true, false, false, true, false] rfl rfl (by kernel_rfl) (fun _ _ _ h => h) (Or.inl ⟨by rfl, ?_⟩) ?_ ?_
  rotate_left
  · intro w'
    go_simp
    with_reducible rfl
  rotate_left
  · simp only [Act.put, List.setIfInBounds_toArray, List.set_cons_zero, List.set_cons_succ]
    rfl
  refine take_ (i := 4) (N := some 80) (v := ?_) (a' := ?_) #[true, true, true, true, true, false, true, false] rfl rfl (by kernel_rfl) (fun _ _ _ h => h) (Or.inl ⟨by rfl, ?_⟩) hHeld ?_ ?_
  rotate_left
  · rintro w' ⟨s0, s1⟩
    go_simp
    with_reducible rfl
  rotate_left
  · simp only [Act.put, List.setIfInBounds_toArray, List.set_cons_zero, List.set_cons_succ]
    rfl
  refine pure_ (i := 5) (N := some 81) (v := ?_) (a' := ?_) #[true, true, true, true, true, true, true, false] rfl rfl (by kernel_rfl) (fun _ _ _ h => h) (Or.inl ⟨by rfl, ?_⟩) ?_ ?_
  rotate_left
  · intro w'
    go_simp
    with_reducible rfl
  rotate_left
  · simp only [Act.put, List.setIfInBounds_toArray, List.set_cons_zero, List.set_cons_succ]
    rfl
  refine pure_ (i := 7) (N := some 13) (v := ?_) (a' := ?_) #[true, true, true, true, true, true, true, true] rfl rfl (by kernel_rfl) (fun _ _ _ h => h) (Or.inl ⟨by rfl, ?_⟩) ?_ ?_
  rotate_left
  · intro w'
    go_simp
    with_reducible rfl
  rotate_left
  · simp only [Act.put, List.setIfInBounds_toArray, List.set_cons_zero, List.set_cons_succ]
    rfl
  refine done_ (by kernel_rfl) ?_

  have b0 := blk_cell HQV.out 0
  have b1 := blk_cell HQV.out 1
  have v0 := blk_cell HVB.out 0
  have v1 := blk_cell HVB.out 1
  have v2 := blk_cell HVB.out 2
  clear e0 e1 p0 p1 q0
  have HVO := Lib.hid (show ¬ O5 w5.heap.size from fun q => by have := HA5.out.lt _ q; omega)
  have HOW := Lib.hid (show ∀ i, O5 i → W.heap.size ≤ i from fun i hi => by
    have h1 := HB3.out.size
    rcases HO5.out i hi with q | q
    · have := HON.out i q
      omega
    · omega)
  go_wp2_with (first
    | (go_at_call 45; go_loud (refine (cut_okI (rest := no0) N r t p m pf sz HPP.out HSS.out (fillL x0 N) _ HA8.out HV5.out HPM.out (fun _ => Nat.zero_le _) (nn5 hl5)).mono ?_; rintro e w10 ⟨r9, t9, O9, f9, live9, rfl, HA9, HW9, HV9, HO9, HF9⟩; have HVB10 := Lib.hid (blk_alloc (HF9.out.blk HVB8.out (fun q => HVO.out q)) (.cells #[.int .i64 (m : Int), .int .i64 r9, .int .i64 t9] 61)); have HR10 := Lib.hid ((HR8.out.fr kVal_K HF9.out (fun j hj hj2 => by rcases HO5.out j hj2 with q | q; (have := HON.out j q; omega); omega)).fr kVal_K (Fr.of_new (S := fun _ => False) (below_alloc (Below.refl w10.heap.size w10) (.cells #[.int .i64 (m : Int), .int .i64 r9, .int .i64 t9] 61))) (fun _ _ h => h)); have HAW := Lib.hid (HA9.out.below (below_alloc (Below.refl _ _) (.cells #[.int .i64 (m : Int), .int .i64 r9, .int .i64 t9] 61))); have HWB := Lib.hid (blk_new w10 (.cells #[.int .i64 (m : Int), .int .i64 r9, .int .i64 t9] 61)); have h9 := (Fr.of_new (S := fun j => W.heap.size ≤ j) HB8.out).then_ HF9.out (fun i hi => .inl (HOW.out i hi)) |>.more (below_alloc (Below.refl _ _) (.cells #[.int .i64 (m : Int), .int .i64 r9, .int .i64 t9] 61)); have HB10 := Lib.hid (Fr.below h9 (fun _ h => h) (Nat.le_refl _)); have hs10 := HF9.out.size; clear h9; have i0 := blk_cell HWB.out 0; have i1 := blk_cell HWB.out 1; have i2 := blk_cell HWB.out 2; have d0 := blk_cell HVB10.out 0; have d1 := blk_cell HVB10.out 1; have d2 := blk_cell HVB10.out 2))
    | (go_at_call 44; go_loud (refine (page_arg a (N : Int) r t pf cn _ HPG.out).mono ?_; rintro e w8 ⟨rfl, hB8⟩; have HA8 := Lib.hid (HAV.out.below hB8); have HQ8 := Lib.hid (blk_below HQV.out hB8); have HVB8 := Lib.hid (blk_below HVB.out hB8); have HR8 := Lib.hid (HRV.out.fr kVal_K (Fr.of_new (S := fun _ => False) hB8) (fun _ _ h => h)); have HB8 := Lib.hid (HBV.out.trans (hB8.mono HBV.out.size)); have hs8 := hB8.size; have c0 := blk_cell HQ8.out 0; have c1 := blk_cell HQ8.out 1; have d0 := blk_cell HVB8.out 0; have d1 := blk_cell HVB8.out 1; have d2 := blk_cell HVB8.out 2; clear hB8)))
  obtain ⟨X, hX⟩ : ∃ X, (w10.alloc (.cells #[.int .i64 (m : Int), .int .i64 r9, .int .i64 t9] 61)).drew = X := ⟨_, rfl⟩
  have hdx : Below (w10.alloc (.cells #[.int .i64 (m : Int), .int .i64 r9, .int .i64 t9] 61)).heap.size (w10.alloc (.cells #[.int .i64 (m : Int), .int .i64 r9, .int .i64 t9] 61)) X := by rw [← hX]; exact below_drew1 (Below.refl _ _)
  have hwb := blk_below HWB.out hdx
  have hvb := blk_below HVB10.out hdx
  have f0_ := blk_cell hwb 0
  have f1_ := blk_cell hwb 1
  have f2_ := blk_cell hwb 2
  have g0_ := blk_cell hvb 0
  have g1_ := blk_cell hvb 1
  have g2_ := blk_cell hvb 2
  have HWBV := Lib.hid hwb
  have HVBV := Lib.hid hvb
  have HAX := Lib.hid (HAW.out.below hdx)
  have HRX := Lib.hid (HR10.out.fr kVal_K (Fr.of_new (S := fun _ => False) hdx) (fun _ _ h => h))
  have HBX := Lib.hid (HB10.out.trans (hdx.mono HB10.out.size))
  have hcm := nn4 HPM.out hc3
  have hsl : ∀ w, (Instr.slice 41 (.slice A3 N c3) (some (.int .i64 pf)) (some (.int .i64 (pf + sz))) none).run Try.prog w = .ok (.slice (subV A3 p c3) m (c3 - p)) w := fun w => by rw [HPP.out, HSS.out]; exact sl_val w A3 N c3 p m hcm
  clear hwb hvb hdx i0 i1 i2 d0 d1 d2
  refine start_ (n := 21) (S := fun w' => w'.cell? ⟨w10.heap.size, 0, none⟩ = some (.int .i64 (m : Int)) ∧ w'.cell? ⟨w10.heap.size, 1, none⟩ = some (.int .i64 (r9 : Int)) ∧ w'.cell? ⟨w10.heap.size, 2, none⟩ = some (.int .i64 (t9 : Int)) ∧ w'.cell? ⟨w5.heap.size, 0, none⟩ = some (.int .i64 (N : Int)) ∧ w'.cell? ⟨w5.heap.size, 1, none⟩ = some (.int .i64 (r : Int)) ∧ w'.cell? ⟨w5.heap.size, 2, none⟩ = some (.int .i64 (t : Int))) (ds := []) #[false, false, false, false, false, false, false, false, false, false, false, false, false, false, false, false, false, false, false, false, false] (by kernel_rfl) rfl rfl ⟨(by rw [hX]; exact f0_), (by rw [hX]; exact f1_), (by rw [hX]; exact f2_), (by rw [hX]; exact g0_), (by rw [hX]; exact g1_), (by rw [hX]; exact g2_)⟩ (fun hHeld => ?_)
  refine pure_ (i := 0) (N := some 169) (v := ?_) (a' := ?_) #[true, false, false, false, false, false, false, false, false, false, false, false, false, false, false, false, false, false, false, false, false] rfl rfl (by kernel_rfl) (fun _ _ _ h => h) (Or.inl ⟨by rfl, ?_⟩) ?_ ?_
  rotate_left
  · intro w'
    go_simp
    with_reducible rfl
  rotate_left
  · simp only [Act.put, List.setIfInBounds_toArray, List.set_cons_zero, List.set_cons_succ]
    rfl
  refine pure_ (i := 1) (N := some 170) (v := ?_) (a' := ?_) #[true, true, false, false, false, false, false, false, false, false, false, false, false, false, false, false, false, false, false, false, false] rfl rfl (by kernel_rfl) (fun _ _ _ h => h) (Or.inl ⟨by rfl, ?_⟩) ?_ ?_
  rotate_left
  · intro w'
    go_simp
    with_reducible rfl
  rotate_left
  · simp only [Act.put, List.setIfInBounds_toArray, List.set_cons_zero, List.set_cons_succ]
    rfl
  refine pure_ (i := 2) (N := some 171) (v := ?_) (a' := ?_) #[true, true, true, false, false, false, false, false, false, false, false, false, false, false, false, false, false, false, false, false, false] rfl rfl (by kernel_rfl) (fun _ _ _ h => h) (Or.inl ⟨by rfl, ?_⟩) ?_ ?_
  rotate_left
  · intro w'
    go_simp
    with_reducible rfl
  rotate_left
  · simp only [Act.put, List.setIfInBounds_toArray, List.set_cons_zero, List.set_cons_succ]
    rfl
  refine pure_ (i := 3) (N := some 172) (v := ?_) (a' := ?_) #[true, true, true, true, false, false, false, false, false, false, false, false, false, false, false, false, false, false, false, false, false] rfl rfl (by kernel_rfl) (fun _ _ _ h => h) (Or.inl ⟨by rfl, ?_⟩) ?_ ?_
  rotate_left
  · intro w'
    go_simp
    with_reducible rfl
  rotate_left
  · simp only [Act.put, List.setIfInBounds_toArray, List.set_cons_zero, List.set_cons_succ]
    rfl
  refine pure_ (i := 6) (N := some 175) (v := ?_) (a' := ?_) #[true, true, true, true, false, false, true, false, false, false, false, false, false, false, false, false, false, false, false, false, false] rfl rfl (by kernel_rfl) (fun _ _ _ h => h) (Or.inl ⟨by rfl, ?_⟩) ?_ ?_
  rotate_left
  · intro w'
    go_simp
    with_reducible rfl
  rotate_left
  · simp only [Act.put, List.setIfInBounds_toArray, List.set_cons_zero, List.set_cons_succ]
    rfl
  refine pure_ (i := 7) (N := some 176) (v := ?_) (a' := ?_) #[true, true, true, true, false, false, true, true, false, false, false, false, false, false, false, false, false, false, false, false, false] rfl rfl (by kernel_rfl) (fun _ _ _ h => h) (Or.inl ⟨by rfl, ?_⟩) ?_ ?_
  rotate_left
  · intro w'
    go_simp
    with_reducible rfl
  rotate_left
  · simp only [Act.put, List.setIfInBounds_toArray, List.set_cons_zero, List.set_cons_succ]
    rfl
  refine pure_ (i := 8) (N := some 177) (v := ?_) (a' := ?_) #[true, true, true, true, false, false, true, true, true, false, false, false, false, false, false, false, false, false, false, false, false] rfl rfl (by kernel_rfl) (fun _ _ _ h => h) (Or.inl ⟨by rfl, ?_⟩) ?_ ?_
  rotate_left
  · intro w'
    go_simp
    with_reducible rfl
  rotate_left
  · simp only [Act.put, List.setIfInBounds_toArray, List.set_cons_zero, List.set_cons_succ]
    rfl
  refine pure_ (i := 9) (N := some 178) (v := ?_) (a' := ?_) #[true, true, true, true, false, false, true, true, true, true, false, false, false, false, false, false, false, false, false, false, false] rfl rfl (by kernel_rfl) (fun _ _ _ h => h) (Or.inl ⟨by rfl, ?_⟩) ?_ ?_
  rotate_left
  · intro w'
    go_simp
    with_reducible rfl
  rotate_left
  · simp only [Act.put, List.setIfInBounds_toArray, List.set_cons_zero, List.set_cons_succ]
    rfl
  refine take_ (i := 4) (N := some 173) (v := ?_) (a' := ?_) #[true, true, true, true, true, false, true, true, true, true, false, false, false, false, false, false, false, false, false, false, false] rfl rfl (by kernel_rfl) (fun _ _ _ h => h) (Or.inl ⟨by rfl, ?_⟩) hHeld ?_ ?_
  rotate_left
  · rintro w' ⟨s0, s1, s2, s3, s4, s5⟩
    go_simp
    with_reducible rfl
  rotate_left
  · simp only [Act.put, List.setIfInBounds_toArray, List.set_cons_zero, List.set_cons_succ]
    rfl
  refine one_ (i := 5) (N := some 174) #[true, true, true, true, true, true, true, true, true, true, false, false, false, false, false, false, false, false, false, false, false] rfl rfl (by kernel_rfl) (by decide) (fun K hK => ?_)
  refine goes_ Try.func42 (by kernel_rfl) rfl #[.pointer (some ⟨a, 0, none⟩), vecV m r9 t9] (by rfl) rfl rfl (by simp only [List.map_toArray, List.map_cons, List.map_nil]; rfl) ?_
  with_reducible refine (all_calls m r9 t9 (((fillL x0 N).drop p).take m) _ (hX ▸ HAX.out) HW9.out (fun _ => Nat.le_add_left _ _)).mono ?_
  rintro e w14 ⟨v14, rfl, hV14, hB14⟩
  refine ⟨_, rfl, ?_⟩
  have HB14 := Lib.hid (hX ▸ hB14 : Below X.heap.size X w14)
  have HV14 := Lib.hid hV14
  have HR14 := Lib.hid (HRX.out.fr kVal_K (Fr.of_new (S := fun _ => False) HB14.out) (fun _ _ h => h))
  refine hK.out _ _ ⟨(blk_cell (blk_below HWBV.out HB14.out) 0), (blk_cell (blk_below HWBV.out HB14.out) 1), (blk_cell (blk_below HWBV.out HB14.out) 2), (blk_cell (blk_below HVBV.out HB14.out) 0), (blk_cell (blk_below HVBV.out HB14.out) 1), (blk_cell (blk_below HVBV.out HB14.out) 2)⟩ (fun hHeld => ?_)
  clear hK K
  refine norm_ (a' := ?_) ?_ ?_
  rotate_left
  · show Act.put _ (some 174) _ = _
    simp only [Act.put, List.setIfInBounds_toArray, List.set_cons_zero, List.set_cons_succ]
    rfl
  refine one_ (i := 10) (N := some 179) #[true, true, true, true, true, true, true, true, true, true, true, false, false, false, false, false, false, false, false, false, false] rfl rfl (by kernel_rfl) (by decide) (fun K hK => ?_)
  refine goes_ Try.func41 (by kernel_rfl) rfl #[v14, .slice (subV A3 p c3) m (c3 - p)] (by rfl) rfl rfl (by simp only [List.map_toArray, List.map_cons, List.map_nil]; rfl) ?_
  with_reducible refine (equal_same (((fillL x0 N).drop p).take m) v14 _ _ (RowIn.of_R HV14.out) (by have hr2 : RowIn kVal _ (fun j => w2.heap.size ≤ j ∧ j < w3.heap.size) (.slice A3 (fillL x0 N).length c3) (fillL x0 N) := (by rw [HLEN.out]; exact HR14.out); exact row_cut hr2 (by rw [HLEN.out]; exact HPM.out)) (by have := HPM.out; simp only [List.length_take, List.length_drop]; omega)).mono ?_
  rintro e w15 ⟨rfl, hB15⟩
  refine ⟨_, rfl, ?_⟩
  have HB15 := Lib.hid (HB14.out.trans (hB15.mono HB14.out.size))
  have HR15 := Lib.hid (HRX.out.fr kVal_K (Fr.of_new (S := fun _ => False) HB15.out) (fun _ _ h => h))
  have HA15 := Lib.hid (HAX.out.below HB15.out)
  refine hK.out _ _ ⟨(blk_cell (blk_below HWBV.out HB15.out) 0), (blk_cell (blk_below HWBV.out HB15.out) 1), (blk_cell (blk_below HWBV.out HB15.out) 2), (blk_cell (blk_below HVBV.out HB15.out) 0), (blk_cell (blk_below HVBV.out HB15.out) 1), (blk_cell (blk_below HVBV.out HB15.out) 2)⟩ (fun hHeld => ?_)
  clear hK K
  refine norm_ (a' := ?_) ?_ ?_
  rotate_left
  · show Act.put _ (some 179) _ = _
    simp only [Act.put, List.setIfInBounds_toArray, List.set_cons_zero, List.set_cons_succ]
    rfl
  refine pure_ (i := 11) (N := some 180) (v := ?_) (a' := ?_) #[true, true, true, true, true, true, true, true, true, true, true, true, false, false, false, false, false, false, false, false, false] rfl rfl (by kernel_rfl) (fun _ _ _ h => h) (Or.inl ⟨by rfl, ?_⟩) ?_ ?_
  rotate_left
  · intro w'
    go_simp
    with_reducible rfl
  rotate_left
  · simp only [Act.put, List.setIfInBounds_toArray, List.set_cons_zero, List.set_cons_succ]
    rfl
  refine pure_ (i := 12) (N := some 181) (v := ?_) (a' := ?_) #[true, true, true, true, true, true, true, true, true, true, true, true, true, false, false, false, false, false, false, false, false] rfl rfl (by kernel_rfl) (fun _ _ _ h => h) (Or.inl ⟨by rfl, ?_⟩) ?_ ?_
  rotate_left
  · intro w'
    go_simp
    with_reducible rfl
  rotate_left
  · simp only [Act.put, List.setIfInBounds_toArray, List.set_cons_zero, List.set_cons_succ]
    rfl
  refine pure_ (i := 13) (N := some 182) (v := ?_) (a' := ?_) #[true, true, true, true, true, true, true, true, true, true, true, true, true, true, false, false, false, false, false, false, false] rfl rfl (by kernel_rfl) (fun _ _ _ h => h) (Or.inl ⟨by rfl, ?_⟩) ?_ ?_
  rotate_left
  · intro w'
    go_simp
    with_reducible rfl
  rotate_left
  · simp only [Act.put, List.setIfInBounds_toArray, List.set_cons_zero, List.set_cons_succ]
    rfl
  refine pure_ (i := 14) (N := some 183) (v := ?_) (a' := ?_) #[true, true, true, true, true, true, true, true, true, true, true, true, true, true, true, false, false, false, false, false, false] rfl rfl (by kernel_rfl) (fun _ _ _ h => h) (Or.inl ⟨by rfl, ?_⟩) ?_ ?_
  rotate_left
  · intro w'
    go_simp
    with_reducible rfl
  rotate_left
  · simp only [Act.put, List.setIfInBounds_toArray, List.set_cons_zero, List.set_cons_succ]
    rfl
  refine pure_ (i := 17) (N := some 186) (v := ?_) (a' := ?_) #[true, true, true, true, true, true, true, true, true, true, true, true, true, true, true, false, false, true, false, false, false] rfl rfl (by kernel_rfl) (fun _ _ _ h => h) (Or.inl ⟨by rfl, ?_⟩) ?_ ?_
  rotate_left
  · intro w'
    go_simp
    with_reducible rfl
  rotate_left
  · simp only [Act.put, List.setIfInBounds_toArray, List.set_cons_zero, List.set_cons_succ]
    rfl
  refine take_ (i := 15) (N := some 184) (v := ?_) (a' := ?_) #[true, true, true, true, true, true, true, true, true, true, true, true, true, true, true, true, false, true, false, false, false] rfl rfl (by kernel_rfl) (fun _ _ _ h => h) (Or.inl ⟨by rfl, ?_⟩) hHeld ?_ ?_
  rotate_left
  · rintro w' ⟨s0, s1, s2, s3, s4, s5⟩
    go_simp
    with_reducible rfl
  rotate_left
  · simp only [Act.put, List.setIfInBounds_toArray, List.set_cons_zero, List.set_cons_succ]
    rfl
  refine one_ (i := 16) (N := some 185) #[true, true, true, true, true, true, true, true, true, true, true, true, true, true, true, true, true, true, false, false, false] rfl rfl (by kernel_rfl) (by decide) (fun K hK => ?_)
  refine goes_ Try.func42 (by kernel_rfl) rfl #[.pointer (some ⟨a, 0, none⟩), vecV N r t] (by rfl) rfl rfl (by simp only [List.map_toArray, List.map_cons, List.map_nil]; rfl) ?_
  with_reducible refine (all_calls N r t (fillL x0 N) _ HA15.out HV9.out (fun z => by show vx r t z ≤ no0 z + vx r t z + vx r9 t9 z; omega)).mono ?_
  rintro e w16 ⟨v16, rfl, hV16, hB16⟩
  refine ⟨_, rfl, ?_⟩
  have HB16 := Lib.hid (HB15.out.trans (hB16.mono HB15.out.size))
  have HV16 := Lib.hid hV16
  have HR16 := Lib.hid (HRX.out.fr kVal_K (Fr.of_new (S := fun _ => False) HB16.out) (fun _ _ h => h))
  refine hK.out _ _ ⟨(blk_cell (blk_below HWBV.out HB16.out) 0), (blk_cell (blk_below HWBV.out HB16.out) 1), (blk_cell (blk_below HWBV.out HB16.out) 2), (blk_cell (blk_below HVBV.out HB16.out) 0), (blk_cell (blk_below HVBV.out HB16.out) 1), (blk_cell (blk_below HVBV.out HB16.out) 2)⟩ (fun hHeld => ?_)
  clear hK K
  refine norm_ (a' := ?_) ?_ ?_
  rotate_left
  · show Act.put _ (some 185) _ = _
    simp only [Act.put, List.setIfInBounds_toArray, List.set_cons_zero, List.set_cons_succ]
    rfl
  refine one_ (i := 18) (N := some 187) #[true, true, true, true, true, true, true, true, true, true, true, true, true, true, true, true, true, true, true, false, false] rfl rfl (by kernel_rfl) (by decide) (fun K hK => ?_)
  refine goes_ Try.func41 (by kernel_rfl) rfl #[v16, .slice A3 N c3] (by rfl) rfl rfl (by simp only [List.map_toArray, List.map_cons, List.map_nil]; rfl) ?_
  with_reducible refine (equal_same (fillL x0 N) v16 _ _ (RowIn.of_R HV16.out) HR16.out (by rw [HLEN.out]; omega)).mono ?_
  rintro e w17 ⟨rfl, hB17⟩
  refine ⟨_, rfl, ?_⟩
  have HB17 := Lib.hid (HB16.out.trans (hB17.mono HB16.out.size))
  refine hK.out _ _ ⟨(blk_cell (blk_below HWBV.out HB17.out) 0), (blk_cell (blk_below HWBV.out HB17.out) 1), (blk_cell (blk_below HWBV.out HB17.out) 2), (blk_cell (blk_below HVBV.out HB17.out) 0), (blk_cell (blk_below HVBV.out HB17.out) 1), (blk_cell (blk_below HVBV.out HB17.out) 2)⟩ (fun hHeld => ?_)
  clear hK K
  refine norm_ (a' := ?_) ?_ ?_
  rotate_left
  · show Act.put _ (some 187) _ = _
    simp only [Act.put, List.setIfInBounds_toArray, List.set_cons_zero, List.set_cons_succ]
    rfl
  refine pure_ (i := 19) (N := some 188) (v := ?_) (a' := ?_) #[true, true, true, true, true, true, true, true, true, true, true, true, true, true, true, true, true, true, true, true, false] rfl rfl (by kernel_rfl) (fun _ _ _ h => h) (Or.inl ⟨by rfl, ?_⟩) ?_ ?_
  rotate_left
  · intro w'
    go_simp
    with_reducible rfl
  rotate_left
  · simp only [Act.put, List.setIfInBounds_toArray, List.set_cons_zero, List.set_cons_succ]
    rfl
  refine pure_ (i := 20) (N := some 189) (v := ?_) (a' := ?_) #[true, true, true, true, true, true, true, true, true, true, true, true, true, true, true, true, true, true, true, true, true] rfl rfl (by kernel_rfl) (fun _ _ _ h => h) (Or.inl ⟨by rfl, ?_⟩) ?_ ?_
  rotate_left
  · intro w'
    go_simp
    with_reducible rfl
  rotate_left
  · simp only [Act.put, List.setIfInBounds_toArray, List.set_cons_zero, List.set_cons_succ]
    rfl
  refine done_ (by kernel_rfl) ?_

  have HA19 := Lib.hid (HAX.out.below HB17.out)
  have HVB19 := Lib.hid (blk_below HVBV.out HB17.out)
  have hwb := blk_below HWBV.out HB17.out
  have j0 := blk_cell hwb 0
  have j1 := blk_cell hwb 1
  have j2 := blk_cell hwb 2
  have HB19 := Lib.hid (HBX.out.trans (HB17.out.mono HBX.out.size))
  clear f0_ f1_ f2_ g0_ g1_ g2_ hwb hsl
  go_wp2_with (first
    | (go_at_call 22; have hx := HA12; clear hx; go_loud (refine (live_AO _ HA12.out).mono ?_; rintro e w13 ⟨rfl, hw13⟩; subst hw13))
    | (go_at_call 37; have hx := HA11; clear hx; go_loud (refine (vdrop_calls (rest := no0) N r t _ HA11.out).mono ?_; rintro e w12 ⟨rfl, O12, f12, live12, hA12, _, _, hO12, hF12⟩; have hz := hA12.none_live (fun _ _ => rfl); subst hz; have HA12 := Lib.hid hA12; have HF12 := Lib.hid hF12; clear hA12 hO12 hF12))
    | (go_at_call 37; have hx := HA19; clear hx; go_loud (refine (vdrop_calls (rest := fun z => no0 z + vx r t z) m r9 t9 _ HA19.out).mono ?_; rintro e w11 ⟨rfl, O11, f11, live11, hA11, _, _, hO11, hF11⟩; have HA11 := Lib.hid hA11; have HO11 := Lib.hid hO11; have HF11 := Lib.hid hF11; have HVB11 := Lib.hid (hF11.blk HVB19.out (fun q => by have hlt8 := blk_lt HVB8.out; rcases HO9.out _ q with q2 | q2; exact HVO.out q2; omega)); have d0 := blk_cell HVB11.out 0; have d1 := blk_cell HVB11.out 1; have d2 := blk_cell HVB11.out 2; clear hA11 hO11 hF11)))
  go_ret
  have hF := ((Fr.of_new (S := fun j => W.heap.size ≤ j) HB19.out).then_ HF11.out (fun i hi => .inl (by
    rcases HO9.out i hi with q | q
    · exact HOW.out i q
    · have := HB8.out.size
      omega))).then_ HF12.out (fun i hi => .inl (by
    rcases HO11.out i hi with q | q
    · rcases HO9.out i q with q2 | q2
      · exact HOW.out i q2
      · have := HB8.out.size
        omega
    · have := HB19.out.size
      omega))
  exact ⟨rfl, Fr.below hF (fun _ h => h) (Nat.le_refl _)⟩
end Go.Proofs.Ytnipbfhfaefieaa.Sl
