/- Texts of this claim, laid together: PvS, PvT, PvU. -/
import Derived.Test.YtnipbfhfaefieaaUl
/-! pvec: the values of the leaf in which a place is. -/
namespace Go.Proofs.Ytnipbfhfaefieaa.Pv
open Go.RowKit Go Go.Proofs.YtnipbfhfaefieaaW.PrintWords Go.Proofs.YtnipbfhfaefieaaW.PrintMore Go.Proofs.YtnipbfhfaefieaaW.PrintLast Go.Proofs.Ytnipbfhfaefieaa.Bts Go.Proofs.Ytnipbfhfaefieaa.Fra Go.Proofs.Ytnipbfhfaefieaa.ArnP Go.Proofs.Ytnipbfhfaefieaa.Arn Go.Proofs.Ytnipbfhfaefieaa.Ao
section
variable {O : Nat → Prop} {a : Nat} {f : Nat → Cell} {live most : Int} {ext rest : Nat → Nat}
set_option maxHeartbeats 2000000 in
set_option maxRecDepth 100000 in
/-- In the tail. -/
theorem leafA_calls (n r t i d : Nat) (w : World) (h : AO w O a f live most ext nop) (hn : n ≤ 1024) (hd : i / 32 = d) (hi : i ≤ 1024) (hm : lvs n ≤ d) (ht : 0 < t) (htl : 0 < (f t).r) :
    Calls Try.prog 84 #[.pointer (some ⟨a, 0, none⟩), vecV n r t, .int .i64 i] w fun e w' => ∃ v', e = .returned v' ∧ VR w' w.heap.size v' (f t).vals ∧ Below w.heap.size w w' := by
  obtain ⟨m, hmm⟩ : ∃ m, lvs n = m := ⟨_, rfl⟩
  have hlc := leaves_calls n (r : Int) (t : Int) hn
  rw [hmm] at hlc hm
  have hkd : (i : Int).tdiv 32 = (d : Int) := by rw [Int.tdiv_eq_ediv_of_nonneg (by omega)]; omega
  have hkd2 : (i : Int) / 32 = (d : Int) := by omega
  have hdd : d ≤ 32 := by omega
  have hnlt : ¬ (d : Int) < (m : Int) := by omega
  have hb0 := below_alloc (Below.refl w.heap.size w) (.cells #[.int .i64 n, .int .i64 r, .int .i64 t] 61)
  have hbk := blk_new w (.cells #[.int .i64 n, .int .i64 r, .int .i64 t] 61)
  have HA := Lib.hid (h.below hb0)
  have HB := Lib.hid hb0
  have HK := Lib.hid hbk
  have HLC := Lib.hid hlc
  clear h hb0 hbk hlc hmm hn hd
  go_enter Try.func84, Try.ntmps84
  go_wp2_with (first
    | (go_at_call 24; go_loud (refine (get_AO t _ HA4.out ht htl).mono ?_; rintro e w5 ⟨v', k', rfl, hV5, hK5, hne, hB5⟩; obtain ⟨A1, c1, e1⟩ := Kd.R_slice hV5; subst e1; obtain ⟨A2, c2, e2⟩ := Kd.R_slice hK5; subst e2; have HV5 := Lib.hid hV5; have HB5 := Lib.hid hB5; clear hV5 hK5 hne))
    | (go_at_call 81; go_loud (refine (HLC.out _).mono ?_; rintro e w4 ⟨rfl, hB4⟩; have HA4 := Lib.hid (HA.out.below hB4); have hs4 := hB4.size; have hb4 := HB.out.trans (hB4.mono HB.out.size); have hk4 := blk_below HK.out hB4; have s0 := blk_cell hk4 0; have s1 := blk_cell hk4 1; have s2 := blk_cell hk4 2; have HB4 := Lib.hid hb4; clear hB4 hb4 hk4)))
  go_ret
  have hs9 := HB4.out.size
  exact ⟨_, rfl, Kd.R_lower (Kd.R_mono (Kd.R_below HV5.out (below_alloc (Below.refl _ _) _)) (fun j hj => by omega)) (by omega), below_alloc (HB4.out.trans (HB5.out.mono HB4.out.size)) _⟩
set_option maxHeartbeats 2000000 in
set_option maxRecDepth 100000 in
/-- In the one leaf. -/
theorem leafB_calls (n r t i : Nat) (w : World) (h : AO w O a f live most ext nop) (hn : n ≤ 1024) (hi : i < 32) (hm : lvs n = 1) (hr : 0 < r) (hrl : 0 < (f r).r) :
    Calls Try.prog 84 #[.pointer (some ⟨a, 0, none⟩), vecV n r t, .int .i64 i] w fun e w' => ∃ v', e = .returned v' ∧ VR w' w.heap.size v' (f r).vals ∧ Below w.heap.size w w' := by
  have hlc := leaves_calls n (r : Int) (t : Int) hn
  rw [hm] at hlc
  have hkd : (i : Int).tdiv 32 = 0 := by rw [Int.tdiv_eq_ediv_of_nonneg (by omega)]; omega
  have hkd2 : (i : Int) / 32 = 0 := by omega
  have hi' : (i : Int) ≤ 31 := by omega
  have hl1 : lev 1 = 0 := rfl
  have c1 : ∀ w, Calls Try.prog 62 #[.int .i64 1] w fun e w' => e = .returned (.int .i64 0) ∧ w' = w := fun w => by
    have := levels_calls 1 (by decide) w
    rw [hl1] at this
    exact this
  have hb0 := below_alloc (Below.refl w.heap.size w) (.cells #[.int .i64 n, .int .i64 r, .int .i64 t] 61)
  have hbk := blk_new w (.cells #[.int .i64 n, .int .i64 r, .int .i64 t] 61)
  have HA := Lib.hid (h.below hb0)
  have HB := Lib.hid hb0
  have HK := Lib.hid hbk
  have HLC := Lib.hid hlc
  have HLV := Lib.hid c1
  clear h hb0 hbk hlc hn hm hl1 c1
  go_enter Try.func84, Try.ntmps84
  go_wp2_with (first
    | (go_at_call 62; go_loud (refine (HLV.out _).mono ?_; rintro e w7 ⟨rfl, hw7⟩; subst w7))
    | (go_at_call 81; have hx := HA4; clear hx; go_loud (refine (HLC.out _).mono ?_; rintro e w6 ⟨rfl, hB6⟩; have HA6 := Lib.hid (HA4.out.below hB6); have hs6 := hB6.size; have hb6 := HB4.out.trans (hB6.mono HB4.out.size); have HB6 := Lib.hid hb6; clear hB6 hb6))
    | (go_at_call 81; go_loud (refine (HLC.out _).mono ?_; rintro e w4 ⟨rfl, hB4⟩; have HA4 := Lib.hid (HA.out.below hB4); have hs4 := hB4.size; have hb4 := HB.out.trans (hB4.mono HB.out.size); have hk4 := blk_below HK.out hB4; have s0 := blk_cell hk4 0; have s1 := blk_cell hk4 1; have s2 := blk_cell hk4 2; have HB4 := Lib.hid hb4; clear hB4 hb4 hk4)))
  go_loopw [7, 9] (fun x y wr => x = .int .i64 r ∧ y = .int .i64 (-1) ∧ wr = w6) (fun _ _ _ => 0)
  case atStart => exact ⟨rfl, rfl, rfl⟩
  case round =>
    obtain ⟨rfl, rfl, rfl⟩ := hrel
    go_wp2_with (go_at_call 24; go_loud (refine (get_AO r _ HA6.out hr hrl).mono ?_; rintro e w8 ⟨v', k', rfl, hV5, hK5, hne, hB5⟩; obtain ⟨A1, c1, e1⟩ := Kd.R_slice hV5; subst e1; obtain ⟨A2, c2, e2⟩ := Kd.R_slice hK5; subst e2; have HV5 := Lib.hid hV5; have HB5 := Lib.hid hB5; clear hV5 hK5 hne))
    go_ret
    have hs9 := HB6.out.size
    exact ⟨_, rfl, Kd.R_lower (Kd.R_mono (Kd.R_below HV5.out (below_alloc (Below.refl _ _) _)) (fun j hj => by omega)) (by omega), below_alloc (HB6.out.trans (HB5.out.mono HB6.out.size)) _⟩
set_option maxHeartbeats 4000000 in
set_option maxRecDepth 100000 in
/-- In one of several leaves. -/
theorem leafC_calls (n r t i d k m : Nat) (w : World) (h : AO w O a f live most ext nop) (hn : n ≤ 1024) (hd : i / 32 = d) (hm : lvs n = m) (hm2 : 2 ≤ m) (hdm : d < m) (hr : 0 < r) (hrl : 0 < (f r).r) (hkl : (f r).kids.length ≤ 1000) (hk : (f r).kids[d]? = some (k : Int)) (hk0 : 0 < k) (hkr : 0 < (f k).r) :
    Calls Try.prog 84 #[.pointer (some ⟨a, 0, none⟩), vecV n r t, .int .i64 i] w fun e w' => ∃ v', e = .returned v' ∧ VR w' w.heap.size v' (f k).vals ∧ Below w.heap.size w w' := by
  have hlc := leaves_calls n (r : Int) (t : Int) hn
  have hm31 : m ≤ 31 := by rw [← hm]; unfold lvs; omega
  rw [hm] at hlc
  have hkd : (i : Int).tdiv 32 = (d : Int) := by rw [Int.tdiv_eq_ediv_of_nonneg (by omega)]; omega
  have hkd2 : (i : Int) / 32 = (d : Int) := by omega
  have hi' : (i : Int) ≤ 1023 := by omega
  have hd32 : d < 32 := by omega
  have hlt : (d : Int) < (m : Int) := by omega
  have hdl : d < (f r).kids.length := (List.getElem?_eq_some_iff.1 hk).1
  have hdl' : (d : Int) < ((f r).kids.length : Int) := by omega
  have hl1 : lev m = 1 := by unfold lev; rw [if_neg (by omega)]
  have c1 : ∀ w, Calls Try.prog 62 #[.int .i64 (m : Int)] w fun e w' => e = .returned (.int .i64 1) ∧ w' = w := fun w => by
    have := levels_calls m (by omega) w
    rw [hl1] at this
    exact this
  have hb0 := below_alloc (Below.refl w.heap.size w) (.cells #[.int .i64 n, .int .i64 r, .int .i64 t] 61)
  have hbk := blk_new w (.cells #[.int .i64 n, .int .i64 r, .int .i64 t] 61)
  have HA := Lib.hid (h.below hb0)
  have HB := Lib.hid hb0
  have HK := Lib.hid hbk
  have HLC := Lib.hid hlc
  have HLV := Lib.hid c1
  have HKK := Lib.hid hk
  have HDL := Lib.hid hdl
  clear h hb0 hbk hlc hn hm hl1 c1 hd hk hdl
  go_enter Try.func84, Try.ntmps84
  go_wp2_with (first
    | (go_at_call 62; go_loud (refine (HLV.out _).mono ?_; rintro e w7 ⟨rfl, hw7⟩; subst w7))
    | (go_at_call 81; have hx := HA4; clear hx; go_loud (refine (HLC.out _).mono ?_; rintro e w6 ⟨rfl, hB6⟩; have HA6 := Lib.hid (HA4.out.below hB6); have hs6 := hB6.size; have hb6 := HB4.out.trans (hB6.mono HB4.out.size); have HB6 := Lib.hid hb6; clear hB6 hb6))
    | (go_at_call 81; go_loud (refine (HLC.out _).mono ?_; rintro e w4 ⟨rfl, hB4⟩; have HA4 := Lib.hid (HA.out.below hB4); have hs4 := hB4.size; have hb4 := HB.out.trans (hB4.mono HB.out.size); have hk4 := blk_below HK.out hB4; have s0 := blk_cell hk4 0; have s1 := blk_cell hk4 1; have s2 := blk_cell hk4 2; have HB4 := Lib.hid hb4; clear hB4 hb4 hk4)))
  go_loopw [7, 9] (fun x y wr => (x = .int .i64 r ∧ y = .int .i64 0 ∧ wr = w6) ∨ (x = .int .i64 k ∧ y = .int .i64 (-1) ∧ Below w6.heap.size w6 wr)) (fun _ y _ => (intOf y + 1).toNat)
  case atStart => exact .inl ⟨rfl, rfl, rfl⟩
  case round =>
    rcases hrel with ⟨rfl, rfl, rfl⟩ | ⟨rfl, rfl, hBw⟩
    · go_wp2_with (go_at_call 24; go_loud (refine (get_AO r _ HA6.out hr hrl).mono ?_; rintro e w8 ⟨v', k', rfl, hV5, hK5, hne, hB5⟩; obtain ⟨A1, c1, e1⟩ := Kd.R_slice hV5; subst e1; obtain ⟨_, inner, ho, hrk⟩ := id hK5; obtain ⟨g, c2, e2, hmc, _⟩ := own_some ho (by omega); subst e2; have HRK := Lib.hid hrk; have HO := Lib.hid ho; have HB5 := Lib.hid hB5; clear hV5 hK5 hne hrk ho hmc hB5))
      have hdr : Below w8.heap.size w8 (w8.alloc (.cells #[.int .u32 (f r).ow, .int .u32 (f r).a, .int .u32 (f r).b, .slice A1 (f r).vals.length c1, .slice (some ⟨g, 0, none⟩) (f r).kids.length c2] 43)).drew := below_drew1 (below_alloc (Below.refl _ _) _)
      have hbc := blk_drew (blk_new w8 (.cells #[.int .u32 (f r).ow, .int .u32 (f r).a, .int .u32 (f r).b, .slice A1 (f r).vals.length c1, .slice (some ⟨g, 0, none⟩) (f r).kids.length c2] 43))
      have p4 := blk_cell hbc 4
      have hod := own_fr HO.out (Fr.of_new (S := fun _ => False) hdr) (fun _ _ => id)
      have hval : inner[d]? = some (.int .i64 (k : Int)) := by
        have h3 : (inner.drop (d * 1)).take 1 = [.int .i64 (k : Int)] := HRK.out.2 d _ HKK.out
        have h4 := congrArg (fun l : List Value => l[0]?) h3
        simpa using h4
      have hdl := HDL.out
      have t0 : (w8.alloc (.cells #[.int .u32 (f r).ow, .int .u32 (f r).a, .int .u32 (f r).b, .slice A1 (f r).vals.length c1, .slice (some ⟨g, 0, none⟩) (f r).kids.length c2] 43)).drew.cell? ⟨g, d, none⟩ = some (.int .i64 (k : Int)) := (hod.cellAt d (by show d < (f r).kids.length * 1; omega)).trans hval
      have hz0 : (0 : Int) = wrap64 0 := by unfold wrap64; omega
      have hat : ∀ w, Calls Try.prog 61 #[.int .u64 d, .int .i64 0] w fun e w' => e = .returned (.int .i64 d) ∧ w' = w := fun w => at_zero d hd32 w
      have HAT := Lib.hid hat
      have HD := Lib.hid hdr
      clear hdl hod hval hbc hdr hat hz0
      refine start_ (n := 8) (S := fun w' => w'.cell? ⟨w8.heap.size, 4, none⟩ = some (.slice (some ⟨g, 0, none⟩) (f r).kids.length c2) ∧ w'.cell? ⟨g, d, none⟩ = some (.int .i64 (k : Int))) (ds := []) #[false, false, false, false, false, false, false, false] (by kernel_rfl) rfl rfl ⟨p4, t0⟩ (fun hHeld => ?_)
      refine pure_ (i := 0) (N := some 40) (v := ?_) (a' := ?_) #[true, false, false, false, false, false, false, false] rfl rfl (by kernel_rfl) (fun _ _ _ h => h) (Or.inl ⟨by rfl, ?_⟩) ?_ ?_
      rotate_left
      · intro w'
        go_simp
        with_reducible rfl
      rotate_left
      · simp only [Act.put, List.setIfInBounds_toArray, List.set_cons_zero, List.set_cons_succ, i64_w, i32_w]
        rfl
      refine pure_ (i := 2) (N := some 42) (v := ?_) (a' := ?_) #[true, false, true, false, false, false, false, false] rfl rfl (by kernel_rfl) (fun _ _ _ h => h) (Or.inl ⟨by rfl, ?_⟩) ?_ ?_
      rotate_left
      · intro w'
        go_simp
        with_reducible rfl
      rotate_left
      · simp only [Act.put, List.setIfInBounds_toArray, List.set_cons_zero, List.set_cons_succ, i64_w, i32_w]
        rfl
      refine pure_ (i := 3) (N := some 43) (v := ?_) (a' := ?_) #[true, false, true, true, false, false, false, false] rfl rfl (by kernel_rfl) (fun _ _ _ h => h) (Or.inl ⟨by rfl, ?_⟩) ?_ ?_
      rotate_left
      · intro w'
        go_simp
        with_reducible rfl
      rotate_left
      · simp only [Act.put, List.setIfInBounds_toArray, List.set_cons_zero, List.set_cons_succ, i64_w, i32_w]
        rfl
      refine take_ (i := 1) (N := some 41) (v := ?_) (a' := ?_) #[true, true, true, true, false, false, false, false] rfl rfl (by kernel_rfl) (fun _ _ _ h => h) (Or.inl ⟨by rfl, ?_⟩) hHeld ?_ ?_
      rotate_left
      · rintro w' ⟨s0, s1⟩
        go_simp
        with_reducible rfl
      rotate_left
      · simp only [Act.put, List.setIfInBounds_toArray, List.set_cons_zero, List.set_cons_succ, i64_w, i32_w]
        rfl
      refine one_ (i := 4) (N := some 44) #[true, true, true, true, true, false, false, false] rfl rfl (by kernel_rfl) (by decide) (fun K hK => ?_)
      refine goes_ Try.func61 (by kernel_rfl) rfl #[.int .u64 d, .int .i64 0] (by rfl) rfl rfl (by simp only [List.map_toArray, List.map_cons, List.map_nil]; rfl) ?_
      with_reducible refine (HAT.out _).mono ?_
      rintro e w9 ⟨rfl, hw9⟩
      refine ⟨_, rfl, ?_⟩
      subst hw9
      refine hK.out _ _ ⟨p4, t0⟩ (fun hHeld => ?_)
      clear hK K
      refine norm_ (a' := ?_) ?_ ?_
      rotate_left
      · show Act.put _ (some 44) _ = _
        simp only [Act.put, List.setIfInBounds_toArray, List.set_cons_zero, List.set_cons_succ, i64_w, i32_w]
        rfl
      refine pure_ (i := 5) (N := some 45) (v := ?_) (a' := ?_) #[true, true, true, true, true, true, false, false] rfl rfl (by kernel_rfl) (fun _ _ _ h => h) (Or.inl ⟨by rfl, ?_⟩) ?_ ?_
      rotate_left
      · intro w'
        go_simp
        with_reducible rfl
      rotate_left
      · simp only [Act.put, List.setIfInBounds_toArray, List.set_cons_zero, List.set_cons_succ, i64_w, i32_w]
        rfl
      refine take_ (i := 6) (N := some 46) (v := ?_) (a' := ?_) #[true, true, true, true, true, true, true, false] rfl rfl (by kernel_rfl) (fun _ _ _ h => h) (Or.inl ⟨by rfl, ?_⟩) hHeld ?_ ?_
      rotate_left
      · rintro w' ⟨s0, s1⟩
        go_simp
        with_reducible rfl
      rotate_left
      · simp only [Act.put, List.setIfInBounds_toArray, List.set_cons_zero, List.set_cons_succ, i64_w, i32_w]
        rfl
      refine pure_ (i := 7) (N := some 7) (v := ?_) (a' := ?_) #[true, true, true, true, true, true, true, true] rfl rfl (by kernel_rfl) (fun _ _ _ h => h) (Or.inl ⟨by rfl, ?_⟩) ?_ ?_
      rotate_left
      · intro w'
        go_simp
        with_reducible rfl
      rotate_left
      · simp only [Act.put, List.setIfInBounds_toArray, List.set_cons_zero, List.set_cons_succ, i64_w, i32_w]
        rfl
      refine done_ (by kernel_rfl) ?_

      go_wp2
      go_roundw
      case rel => exact .inr ⟨rfl, rfl, HB5.out.trans (HD.out.mono HB5.out.size)⟩
      case measure => simp [intOf]
    · have HA7 := Lib.hid (HA6.out.below hBw)
      have HBW := Lib.hid hBw
      clear hBw
      go_wp2_with (go_at_call 24; go_loud (refine (get_AO k _ HA7.out hk0 hkr).mono ?_; rintro e w8 ⟨v', k', rfl, hV5, hK5, hne, hB5⟩; obtain ⟨A1, c1, e1⟩ := Kd.R_slice hV5; subst e1; obtain ⟨A2, c2, e2⟩ := Kd.R_slice hK5; subst e2; have HV5 := Lib.hid hV5; have HB5 := Lib.hid hB5; clear hV5 hK5 hne))
      go_ret
      have hs9 := HB6.out.size
      have hs8 := HBW.out.size
      exact ⟨_, rfl, Kd.R_lower (Kd.R_mono (Kd.R_below HV5.out (below_alloc (Below.refl _ _) _)) (fun j hj => by omega)) (by omega), below_alloc ((HB6.out.trans (HBW.out.mono hs9)).trans (HB5.out.mono (by omega))) _⟩
end
end Go.Proofs.Ytnipbfhfaefieaa.Pv
/-! pvec: the value of a place. -/
namespace Go.Proofs.Ytnipbfhfaefieaa.Pv
open Go.RowKit Go Go.Proofs.YtnipbfhfaefieaaW.PrintWords Go.Proofs.YtnipbfhfaefieaaW.PrintMore Go.Proofs.YtnipbfhfaefieaaW.PrintLast Go.Proofs.Ytnipbfhfaefieaa.Bts Go.Proofs.Ytnipbfhfaefieaa.Fra Go.Proofs.Ytnipbfhfaefieaa.ArnP Go.Proofs.Ytnipbfhfaefieaa.Arn Go.Proofs.Ytnipbfhfaefieaa.Ao
theorem ret3 {w : World} {b : Nat} {T : TypeId} {x0 y0 z0 : Value} (h : w.heap[b]? = some (.cells #[x0, y0, z0] T (0, 0))) (x y z : Value) : (((w.setCell ⟨b, 0, none⟩ x).setCell ⟨b, 1, none⟩ y).setCell ⟨b, 2, none⟩ z).heap[b]? = some (.cells #[x, y, z] T (0, 0)) := blk_put (blk_put (blk_put h 0 x rfl) 1 y rfl) 2 z rfl
theorem VR.get {w : World} {lo : Nat} {v : Value} {xs : List V3} (h : VR w lo v xs) (i : Nat) {q m : Int} {s : ByteArray} (hx : xs[i]? = some (q, m, s)) : ∃ g c, v = .slice (some ⟨g, 0, none⟩) xs.length c ∧ lo ≤ g ∧ g < w.heap.size ∧ w.cell? ⟨g, i * 3, none⟩ = some (.int .u8 q) ∧ w.cell? ⟨g, i * 3 + 1, none⟩ = some (.int .i64 m) ∧ w.cell? ⟨g, i * 3 + 2, none⟩ = some (.string s) := by
  obtain ⟨h0, inner, ho, hr⟩ := h
  have hi := (List.getElem?_eq_some_iff.1 hx).1
  obtain ⟨g, c, e, _, _⟩ := own_some ho (by omega)
  subst e
  have h3 := hr.2 i _ hx
  obtain ⟨a1, a2, e1, e2, a3, a4, e3, e4, e5⟩ := h3
  have e2 : a1 = [.int .u8 q] := e2
  have e4 : a3 = [.int .i64 m] := e4
  have e5 : a4 = [.string s] := e5
  have h4 : (inner.drop (i * 3)).take 3 = [.int .u8 q, .int .i64 m, .string s] := by rw [e3, e2, e4, e5] at e1; exact e1
  have hin : ∀ j, j < 3 → inner[i * 3 + j]? = ([.int .u8 q, .int .i64 m, .string s] : List Value)[j]? := fun j hj => by
    rw [← h4, List.getElem?_take_of_lt hj, List.getElem?_drop]
  exact ⟨g, c, rfl, own_base ho g rfl, own_lt ho g rfl, (ho.cellAt (i * 3) (by show i * 3 < xs.length * 3; omega)).trans (hin 0 (by omega)), (ho.cellAt (i * 3 + 1) (by show i * 3 + 1 < xs.length * 3; omega)).trans (hin 1 (by omega)), (ho.cellAt (i * 3 + 2) (by show i * 3 + 2 < xs.length * 3; omega)).trans (hin 2 (by omega))⟩
theorem leafs_get (l : List V3) (i : Nat) : (leafs l (i / 32))[i % 32]? = l[i]? := by
  unfold leafs
  rw [List.getElem?_take_of_lt (by omega), List.getElem?_drop]
  congr 1
  omega
theorem leafs_len (l : List V3) (j : Nat) : (leafs l j).length ≤ 32 := by
  unfold leafs
  rw [List.length_take]
  omega
theorem tail_leafs {l : List V3} {n : Nat} (hn : n = l.length) : l.drop (32 * lvs n) = leafs l (lvs n) := by
  unfold leafs
  rw [List.take_of_length_le]
  rw [List.length_drop]
  unfold lvs
  omega
section
variable {O : Nat → Prop} {a : Nat} {f : Nat → Cell} {live most : Int} {ext rest : Nat → Nat}
set_option maxRecDepth 100000 in
/-- The leaf of a place. -/
theorem leaf_calls (n r t i : Nat) (l : List V3) (w : World) (h : AO w O a f live most ext nop) (hv : VRep f n r t l) (he : ∀ x, vx r t x ≤ ext x) (hi : i < n) :
    Calls Try.prog 84 #[.pointer (some ⟨a, 0, none⟩), vecV n r t, .int .i64 i] w fun e w' => ∃ v', e = .returned v' ∧ VR w' w.heap.size v' (leafs l (i / 32)) ∧ Below w.heap.size w w' := by
  obtain ⟨hl, hn, hv⟩ := hv
  rcases hv with ⟨q, _⟩ | ⟨h0, hT, hR⟩
  · omega
  have htl : 0 < (f t).r := h.ext_lv hT.1 (Nat.lt_of_lt_of_le (vx_t hT.1) (he t))
  by_cases hd : lvs n ≤ i / 32
  · have e1 : i / 32 = lvs n := by unfold lvs at hd ⊢; omega
    have := leafA_calls n r t i (i / 32) w h hn rfl (by omega) hd hT.1 htl
    rw [hT.2.1, tail_leafs hl, ← e1] at this
    exact this
  · rcases hR with ⟨q, _⟩ | ⟨hm, hL⟩ | ⟨h2, hr, _, hkl, hk⟩
    · omega
    · have hrl : 0 < (f r).r := h.ext_lv hL.1 (Nat.lt_of_lt_of_le (vx_r hL.1) (he r))
      have := leafB_calls n r t i w h hn (by omega) hm hL.1 hrl
      rw [hL.2.1] at this
      rw [show i / 32 = 0 by omega]
      exact this
    · have hrl : 0 < (f r).r := h.ext_lv hr (Nat.lt_of_lt_of_le (vx_r hr) (he r))
      have hkk := List.getElem?_eq_getElem (l := (f r).kids) (i := i / 32) (by omega)
      obtain ⟨k, e1, hL⟩ := hk (i / 32) _ hkk
      rw [e1] at hkk
      have hkr := (h.lv_kid ⟨hr, hrl, rfl⟩ (kid_mem hkk hL.1)).1.2.1
      have := leafC_calls n r t i (i / 32) k (lvs n) w h hn rfl rfl h2 (by omega) hr hrl (AO.kl h hrl).1 hkk hL.1 hkr
      rw [hL.2.1] at this
      exact this
set_option maxHeartbeats 2000000 in
set_option maxRecDepth 100000 in
theorem get_calls (n r t i : Nat) (l : List V3) (q m : Int) (s : ByteArray) (w : World) (h : AO w O a f live most ext nop) (hv : VRep f n r t l) (he : ∀ x, vx r t x ≤ ext x) (hx : l[i]? = some (q, m, s)) :
    Calls Try.prog 36 #[.pointer (some ⟨a, 0, none⟩), vecV n r t, .int .i64 i] w fun e w' => e = .returned (.tuple #[valV q m s, .int .i64 0]) ∧ Below w.heap.size w w' := by
  have hi : i < n := by rw [hv.1]; exact (List.getElem?_eq_some_iff.1 hx).1
  have hn : n ≤ 1024 := hv.2.1
  have hxx : (leafs l (i / 32))[i % 32]? = some (q, m, s) := by rw [leafs_get]; exact hx
  have hll := leafs_len l (i / 32)
  have hil := (List.getElem?_eq_some_iff.1 hxx).1
  obtain ⟨k, hk⟩ : ∃ k, i % 32 = k := ⟨_, rfl⟩
  rw [hk] at hxx hil
  have hmd : (i : Int).tmod 32 = (k : Int) := by rw [Int.tmod_eq_emod_of_nonneg (by omega)]; omega
  have hmd2 : (i : Int) % 32 = (k : Int) := by omega
  have hge : ¬ (n : Int) ≤ (i : Int) := by omega
  have hneg : ¬ (i : Int) < 0 := by omega
  have hkl : (k : Int) < ((leafs l (i / 32)).length : Int) := by omega
  obtain ⟨xs, hxs⟩ : ∃ xs, leafs l (i / 32) = xs := ⟨_, rfl⟩
  have hb0 := below_alloc (below_alloc (Below.refl w.heap.size w) (.cells #[.int .i64 n, .int .i64 r, .int .i64 t] 61)) (.cells #[.int .u8 0, .int .i64 0, .string ⟨#[]⟩] 66)
  have hL := leaf_calls n r t i l _ (h.below hb0) hv he hi
  rw [hxs] at hL hxx hil hll hkl
  have hbk := new1 w (.cells #[.int .i64 n, .int .i64 r, .int .i64 t] 61) (.cells #[.int .u8 0, .int .i64 0, .string ⟨#[]⟩] 66)
  have HL := Lib.hid hL
  have HB := Lib.hid hb0
  have HK := Lib.hid hbk
  have HX := Lib.hid hxx
  clear h hb0 hbk hL hv he hx hxx hxs hk
  go_enter Try.func36, Try.ntmps36
  go_wp2_with (go_at_call 84; go_loud (refine HL.out.mono ?_; rintro e w5 ⟨v', rfl, hV5, hB5⟩; obtain ⟨g, c, rfl, hg1, hg2, t0, t1, t2⟩ := VR.get hV5 k HX.out; have hk5 := blk_below HK.out hB5; have g0 := blk_cell hk5 0; have g1 := blk_cell hk5 1; have g2 := blk_cell hk5 2; have z0 := blk_frozen hk5 0; have z1 := blk_frozen hk5 1; have z2 := blk_frozen hk5 2; have HK5 := Lib.hid hk5; have HB5 := Lib.hid (HB.out.trans (hB5.mono HB.out.size)); clear hB5 hk5 hV5))
  refine bodyPost_ret (results_ct rfl _ _ (w.heap.size + 1) 66 #[.int .u8 q, .int .i64 m, .string s] (0, 0) _ rfl (ret3 HK5.out _ _ _) Try.underlying66 rfl (by kernel_rfl)) rfl ?_
  exact ⟨rfl, Below.setCell (Below.setCell (Below.setCell HB5.out (show w.heap.size ≤ w.heap.size + 1 by omega) _) (show w.heap.size ≤ w.heap.size + 1 by omega) _) (show w.heap.size ≤ w.heap.size + 1 by omega) _⟩
end
end Go.Proofs.Ytnipbfhfaefieaa.Pv
/-! pvec: a trunk gets a leaf more, as a whole; a literal row of one value. -/
namespace Go.Proofs.Ytnipbfhfaefieaa.Pv
open Go.RowKit Go Go.Proofs.YtnipbfhfaefieaaW.PrintWords Go.Proofs.YtnipbfhfaefieaaW.PrintMore Go.Proofs.YtnipbfhfaefieaaW.PrintLast Go.Proofs.Ytnipbfhfaefieaa.Bts Go.Proofs.Ytnipbfhfaefieaa.Fra Go.Proofs.Ytnipbfhfaefieaa.ArnP Go.Proofs.Ytnipbfhfaefieaa.Arn Go.Proofs.Ytnipbfhfaefieaa.Ao
theorem row_val1 (w : World) (q m : Int) (s : ByteArray) : VR (w.alloc (.cells #[.int .u8 q, .int .i64 m, .string s] 66)) w.heap.size (.slice (some ⟨w.heap.size, 0, none⟩) 1 1) [(q, m, s)] := by
  have h := World.ownsRow_lit (base := w.heap.size) (e := 66) (size := 3) w #[.int .u8 q, .int .i64 m, .string s] 1 (Nat.le_refl _) (by unfold maxLen; omega) rfl
  refine ⟨fun j hj => ?_, _, h, ⟨rfl, fun i x hx => ?_⟩⟩
  · have : w.heap.size = j := Option.some.inj hj
    omega
  · have hi : i = 0 := by have := (List.getElem?_eq_some_iff.1 hx).1; simp at this; omega
    subst hi
    have hx : (q, m, s) = x := Option.some.inj hx
    subst hx
    exact ⟨_, _, rfl, rfl, _, _, rfl, rfl, rfl⟩
section
variable {O : Nat → Prop} {a : Nat} {f : Nat → Cell} {live most : Int} {ext rest : Nat → Nat}
theorem growT (o : Int) (m r t : Nat) (g : Nat → List V3) (v : List V3) (w : World) (h : AO w O a f live most (fun z => rest z + hold r z + one t z) nop) (hT : Trunk f m r g) (hL : Leaf f t v) (hb : ∀ x, rest x ≤ 60000000000) (hm : m < 32) (hlm : live < most) :
    Calls Try.prog 80 #[workV a o, .int .i64 r, .int .i64 m, .int .i64 t] w fun e w' => ∃ (r' : Nat) (O' : Nat → Prop) (f' : Nat → Cell) (live' : Int), e = .returned (.int .i64 r') ∧ AO w' O' a f' live' most (fun z => rest z + one r' z) nop ∧ live' ≤ live + 1 ∧ 0 < r' ∧ Trunk f' (m + 1) r' (fun j => if j = m then v else g j) ∧ KeepR rest nop f f' ∧ (∀ j, O' j → O j ∨ w.heap.size ≤ j) ∧ Fr O w w' := by
  rcases hT with ⟨rfl, rfl⟩ | ⟨rfl, hR⟩ | ⟨h2, hr, hv, hkl, hk⟩
  · refine (grow0_calls a o 0 t w).mono ?_
    rintro e w' ⟨rfl, hB⟩
    exact ⟨t, O, f, live, rfl, h.below hB, by omega, hL.1, .inr (.inl ⟨rfl, hL⟩), KeepR.refl _ _ _, fun j hj => .inl hj, Fr.of_new hB⟩
  · have e1 : (fun z => rest z + hold r z + one t z) = fun z => rest z + one t z + one r z := by
      funext z
      rw [hold_pos hR.1]
      omega
    rw [e1] at h
    have hrl : 0 < (f r).r := h.ext_lv hR.1 (by show 0 < rest r + one t r + one r r; have : one r r = 1 := if_pos rfl; omega)
    have htl : 0 < (f t).r := h.ext_lv hL.1 (by show 0 < rest t + one t t + one r t; have : one t t = 1 := if_pos rfl; omega)
    refine (grow1_calls o r t w h hR.1 (fun z hz => by cases hz) hL.1 hlm).mono ?_
    rintro e w' ⟨i, O', rfl, hA, h0, ho, hK, hO, hF⟩
    have s1 := (hK r hR.1 (by show 0 < rest r + one t r + one r r; have : one r r = 1 := if_pos rfl; omega)).2 rfl
    have s2 := (hK t hL.1 (by show 0 < rest t + one t t + one r t; have : one t t = 1 := if_pos rfl; omega)).2 rfl
    refine ⟨i, O', _, _, rfl, hA, by omega, h0, .inr (.inr ⟨by omega, h0, ?_, ?_, fun j z hz => ?_⟩), hK.mono (fun j hj => by show 0 < rest j + one t j + one r j; omega), hO, hF⟩
    · rw [upd_eq]
    · rw [upd_eq]
      rfl
    · rw [upd_eq] at hz
      rcases j with _ | _ | j
      · have : (r : Int) = z := Option.some.inj hz
        subst this
        exact ⟨r, rfl, hR.same s1⟩
      · have : (t : Int) = z := Option.some.inj hz
        subst this
        exact ⟨t, rfl, hL.same s2⟩
      · cases hz
  · have e1 : (fun z => rest z + hold r z + one t z) = fun z => rest z + one t z + one r z := by
      funext z
      rw [hold_pos hr]
      omega
    rw [e1] at h
    refine (grow2_calls o r m t w h hr rfl hb (fun z hz => by cases hz) hkl h2 hm hL.1 hlm).mono ?_
    rintro e w' ⟨k', O', f', live', rfl, hA, hll, hR, hS, hk0, ho, hK, hO, hF⟩
    refine ⟨k', O', f', live', rfl, hA, hll, hk0, .inr (.inr ⟨by omega, hk0, ?_, ?_, fun j z hz => ?_⟩), hK, hO, hF⟩
    · rw [hR]; exact hv
    · rw [hR]
      show ((f r).kids ++ [(t : Int)]).length = m + 1
      simp [hkl]
    · rw [hR] at hz
      have hz : ((f r).kids ++ [(t : Int)])[j]? = some z := hz
      by_cases e : j < m
      · have hz2 := hz
        rw [List.getElem?_append_left (by omega)] at hz2
        obtain ⟨k, rfl, hLk⟩ := hk j z hz2
        refine ⟨k, rfl, ?_⟩
        show Leaf f' k (if j = m then v else g j)
        rw [if_neg (by omega)]
        exact hLk.same (hS k (kid_mem hz hLk.1))
      · have hj := (List.getElem?_eq_some_iff.1 hz).1
        simp [hkl] at hj
        obtain rfl : j = m := by omega
        have hz2 := hz
        rw [List.getElem?_append_right (by omega), hkl, Nat.sub_self] at hz2
        have : (t : Int) = z := Option.some.inj hz2
        subst this
        refine ⟨t, rfl, ?_⟩
        show Leaf f' t (if j = j then v else g j)
        rw [if_pos rfl]
        exact hL.same (hS t (kid_mem hz hL.1))
end
/-- One value more in the tail. -/
theorem VRep.tail {f f' : Nat → Cell} {n r t t' : Nat} {l : List V3} {x : V3} (h : VRep f n r t l) (hn : n % 32 ≠ 0) (hn2 : n < 1024) (hs : 0 < r → Same f f' r) (hL : Leaf f' t' (l.drop (32 * lvs n) ++ [x])) : VRep f' (n + 1) r t' (l ++ [x]) := by
  obtain ⟨h1, h2, h3⟩ := h
  rcases h3 with ⟨q, _⟩ | ⟨h0, hT, hR⟩
  · omega
  have e1 : lvs (n + 1) = lvs n := by unfold lvs; omega
  have e2 : 32 * lvs n < n := by unfold lvs; omega
  refine ⟨by simp [h1], by omega, .inr ⟨by omega, ?_, ?_⟩⟩
  · rw [e1, List.drop_append_of_le_length (by omega)]
    exact hL
  · rw [e1]
    refine (hR.same hs).congr (fun j hj => ?_)
    unfold leafs
    rw [List.drop_append_of_le_length (by omega), List.take_append_of_le_length]
    rw [List.length_drop]
    omega
/-- The first value. -/
theorem VRep.first {f' : Nat → Cell} {t' : Nat} {x : V3} (hL : Leaf f' t' [x]) : VRep f' 1 0 t' [x] :=
  ⟨rfl, by omega, .inr ⟨by omega, hL, .inl ⟨rfl, rfl⟩⟩⟩
/-- The tail becomes a leaf; a new tail. -/
theorem VRep.leaf {f f' : Nat → Cell} {n r t r' t' : Nat} {l : List V3} {x : V3} (h : VRep f n r t l) (h0 : 0 < n) (hn : n % 32 = 0) (hn2 : n < 1024) (hR : Trunk f' (lvs n + 1) r' (fun j => if j = lvs n then l.drop (32 * lvs n) else leafs l j)) (hL : Leaf f' t' [x]) : VRep f' (n + 1) r' t' (l ++ [x]) := by
  obtain ⟨h1, h2, h3⟩ := h
  have e1 : lvs (n + 1) = lvs n + 1 := by unfold lvs; omega
  have e2 : 32 * (lvs n + 1) = n := by unfold lvs; omega
  refine ⟨by simp [h1], by omega, .inr ⟨by omega, ?_, ?_⟩⟩
  · rw [e1, e2, List.drop_append_of_le_length (by omega), h1, List.drop_length]
    exact hL
  · rw [e1]
    refine hR.congr (fun j hj => ?_)
    show (if j = lvs n then l.drop (32 * lvs n) else leafs l j) = leafs (l ++ [x]) j
    have e3 : leafs (l ++ [x]) j = leafs l j := by
      unfold leafs
      rw [List.drop_append_of_le_length (by omega), List.take_append_of_le_length]
      rw [List.length_drop]
      omega
    rw [e3]
    by_cases q : j = lvs n
    · rw [if_pos q, q]
      exact tail_leafs h1
    · rw [if_neg q]
end Go.Proofs.Ytnipbfhfaefieaa.Pv
