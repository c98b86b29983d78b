/- arena: Edit, done. -/
import Derived.Test.YtnipbfhfaefieaaArnI
namespace Go.Proofs.Ytnipbfhfaefieaa.Arn
open Go.RowKit Go Go.Proofs.YtnipbfhfaefieaaW.PrintWords Go.Proofs.YtnipbfhfaefieaaW.PrintMore Go.Proofs.YtnipbfhfaefieaaW.PrintLast Go.Proofs.Ytnipbfhfaefieaa.Bts Go.Proofs.Ytnipbfhfaefieaa.Fra
theorem frq5 (w : World) (g o : Nat) (x y z u v : Value) : Fr (· = g) w (((((w.setCell ⟨g, o, none⟩ x).setCell ⟨g, o + 1, none⟩ y).setCell ⟨g, o + 2, none⟩ z).setCell ⟨g, o + 3, none⟩ u).setCell ⟨g, o + 4, none⟩ v) :=
  Fr.put (S := fun k => k = g) (Fr.put (S := fun k => k = g) (Fr.put (S := fun k => k = g) (Fr.put (S := fun k => k = g) (Fr.put (S := fun k => k = g) (Fr.refl (fun k => k = g) w) (p := ⟨g, o, none⟩) (.inl rfl) x) (p := ⟨g, o + 1, none⟩) (.inl rfl) y) (p := ⟨g, o + 2, none⟩) (.inl rfl) z) (p := ⟨g, o + 3, none⟩) (.inl rfl) u) (p := ⟨g, o + 4, none⟩) (.inl rfl) v
section
variable {base a gs cs : Nat} {vf : Value} {sl : List Slot} {fr : List Int} {live most : Int} {O : Nat → Prop}
/-- A slot's cell is laid anew, but for how many hold it. -/
theorem lay5 {W : World} (h : RawA W base a gs cs vf sl fr live most) (i : Nat) (s s' : Slot) (hs : sl[i]? = some s) (hr : s'.r = s.r) :
    RawA (((((W.setCell ⟨gs, i * 6 + 0, none⟩ (.int .u32 s'.ow)).setCell ⟨gs, i * 6 + 1, none⟩ (.int .u32 s'.a)).setCell ⟨gs, i * 6 + 2, none⟩ (.int .u32 s'.b)).setCell ⟨gs, i * 6 + 3, none⟩ s'.v).setCell ⟨gs, i * 6 + 4, none⟩ s'.k) base a gs cs vf (sl.set i s') fr live most := by
  have hi : i < sl.length := (List.getElem?_eq_some_iff.1 hs).1
  have at_ : ∀ (l : List Slot) (x : Slot), l.length = sl.length → (l.set i x)[i]? = some x := fun l x hl => by rw [List.getElem?_set_self (by omega)]
  have h0 := h.put i 0 (.int .u32 s'.ow) s ⟨s'.ow, s.a, s.b, s.v, s.k, s.r⟩ hs (by decide) rfl
  have h1 := h0.put i 1 (.int .u32 s'.a) _ ⟨s'.ow, s'.a, s.b, s.v, s.k, s.r⟩ (at_ _ _ rfl) (by decide) rfl
  have h2 := h1.put i 2 (.int .u32 s'.b) _ ⟨s'.ow, s'.a, s'.b, s.v, s.k, s.r⟩ (at_ _ _ (by simp)) (by decide) rfl
  have h3 := h2.put i 3 s'.v _ ⟨s'.ow, s'.a, s'.b, s'.v, s.k, s.r⟩ (at_ _ _ (by simp)) (by decide) rfl
  have h4 := h3.put i 4 s'.k _ s' (at_ _ _ (by simp)) (by decide) (by
    obtain ⟨a1, a2, a3, a4, a5, a6⟩ := s'
    replace hr : a6 = s.r := hr
    subst hr
    rfl)
  simpa only [List.set_set] using h4
set_option maxHeartbeats 4000000 in
set_option maxRecDepth 100000 in
theorem edit_ok (i : Nat) (o ow x y : Int) (v k : Value) (vals : List (Int × Int × ByteArray)) (kids : List Int) (s : Slot) (w : World) (h : RawA w base a gs cs vf sl fr live most) (hs : sl.length ≤ 1000000000) (hi : sl[i]? = some s) (hi0 : 0 < i) (hr : s.r = 1)
    (hv : RowIn kVal w O v vals) (hk : RowIn (Kd.int .i64) w O k kids) (hvl : vals.length * 32 ≤ 140737488355328) (hl : kids.length ≤ 1000000000) (hb : badAt sl kids = false)
    (ho : o ≠ 0) (hso : s.ow = o) :
    Calls Try.prog 28 #[.pointer (some ⟨a, 0, none⟩), .int .i64 i, .int .u32 o, cellV ow x y v k] w fun e w' => e = .returned (.int .i64 0) ∧ ∃ v' k', RawA w' base a gs cs vf (sl.set i ⟨o, x, y, v', k', 1⟩) fr live most ∧
      RowIn kVal w' (fun j => w.heap.size ≤ j) v' vals ∧ RowIn (Kd.int .i64) w' (fun j => w.heap.size ≤ j) k' kids ∧ Fr (fun j => j = gs) w w' := by
  have HVR := Lib.hid hv
  have HKR := Lib.hid hk
  obtain ⟨A1, c1, rfl, _⟩ := hv
  obtain ⟨A, c, rfl, _⟩ := hk
  have hil : i < sl.length := (List.getElem?_eq_some_iff.1 hi).1
  have HI := Lib.hid (is_raw (i : Int) (w.alloc (.cells #[.int .u32 ow, .int .u32 x, .int .u32 y, .slice A1 vals.length c1, .slice A kids.length c] 43)) (Raw.below h (below_alloc (Below.refl _ _) _)) hs)
  rw [isB_at hi hi0 (by omega)] at HI
  have hg : gs < w.heap.size := own_lt h.row gs rfl
  have HR := Lib.hid h
  have HIS := Lib.hid hi
  have HBB := Lib.hid hb
  have hs' : (sl.length : Int) ≤ 1000000000 := by omega
  have hil' : (i : Int) < (sl.length : Int) := by omega
  have b0' : (o == 0) = false := by simpa using ho
  have b1' : (s.ow != o) = false := by simpa using hso
  have b2 : ¬ 1 < s.r := by omega
  clear h hi hb
  go_enter Try.func28, Try.ntmps28
  go_wp2_with (first
    | (go_at_call 64; go_loud (refine (right_calls ow x y (.slice A1 vals.length c1) (.slice A kids.length c) kids _ (Raw.below HR.out HB.out) hs (HKR.out.below HB.out) hl).mono ?_; rw [HBB.out]; rintro e w2 ⟨rfl, hB2⟩; have HB2 := Lib.hid (below_step HB.out hB2); have HBX2 := Lib.hid (blk_below HBX.out hB2); clear hB2))
    | (go_at_call 68; go_loud (refine HI.out.mono ?_; rintro e w1 ⟨rfl, hB⟩; have hb1 := below_step (below_alloc (Below.refl w.heap.size w) (.cells #[.int .u32 ow, .int .u32 x, .int .u32 y, .slice A1 vals.length c1, .slice A kids.length c] 43)) hB; have hr1 := Raw.below HR.out hb1; have p0 := blk_cell hr1.obj 0; obtain ⟨t0, t1, t2, t3, t4, t5, _⟩ := six hr1 i _ HIS.out; have hbx := blk_below (blk_new w (.cells #[.int .u32 ow, .int .u32 x, .int .u32 y, .slice A1 vals.length c1, .slice A kids.length c] 43)) hB; have g0 := blk_cell hbx 0; have g1 := blk_cell hbx 1; have g2 := blk_cell hbx 2; have g3 := blk_cell hbx 3; have g4 := blk_cell hbx 4; have HB := Lib.hid hb1; have HBX := Lib.hid hbx; clear hr1 hb1 hB hbx)))
  have hd : Below w2.heap.size w2 w2.drew := below_drew1 (Below.refl _ _)
  have hb2 := below_step HB2.out hd
  have hr2 := Raw.below HR.out hb2
  have hbx2 := blk_below HBX2.out hd
  have ps0 := blk_cell hr2.obj 0
  have d0 := blk_cell hbx2 0
  have d1 := blk_cell hbx2 1
  have d2 := blk_cell hbx2 2
  have d3 := blk_cell hbx2 3
  have d4 := blk_cell hbx2 4
  have HR2 := Lib.hid hr2
  have HBX3 := Lib.hid hbx2
  have HB3 := Lib.hid hb2
  have HX := Lib.hid (HVR.out.below hb2)
  have HY := Lib.hid (HKR.out.below hb2)
  have hsz := hb2.size
  clear hd hb2 hr2 hbx2 p0 t0 t1 t2 t3 t4 t5 g0 g1 g2 g3 g4 HI
  refine start_ (n := 10) (S := fun w' => w'.cell? ⟨a, 0, none⟩ = some (.slice (some ⟨gs, 0, none⟩) sl.length cs) ∧ w'.cell? ⟨w.heap.size, 0, none⟩ = some (.int .u32 ow) ∧ w'.cell? ⟨w.heap.size, 1, none⟩ = some (.int .u32 x) ∧ w'.cell? ⟨w.heap.size, 2, none⟩ = some (.int .u32 y) ∧ w'.cell? ⟨w.heap.size, 3, none⟩ = some (.slice A1 vals.length c1) ∧ w'.cell? ⟨w.heap.size, 4, none⟩ = some (.slice A kids.length c)) (ds := [9]) #[false, false, false, false, false, false, false, false, false, false] (by kernel_rfl) rfl rfl ⟨ps0, d0, d1, d2, d3, d4⟩ (fun hHeld => ?_)
  refine pure_ (i := 0) (N := some 46) (v := ?_) (a' := ?_) #[true, false, false, false, false, false, false, false, false, false] rfl rfl (by kernel_rfl) (fun _ _ _ h => h) (Or.inl ⟨by rfl, ?_⟩) ?_ ?_
  rotate_left
  · intro w'
    go_simp
    with_reducible rfl
  rotate_left
  · simp only [Act.put, List.setIfInBounds_toArray, List.set_cons_zero, List.set_cons_succ, i64_w, i32_w]
    rfl
  refine pure_ (i := 1) (N := some 47) (v := ?_) (a' := ?_) #[true, true, false, false, false, false, false, false, false, false] rfl rfl (by kernel_rfl) (fun _ _ _ h => h) (Or.inl ⟨by rfl, ?_⟩) ?_ ?_
  rotate_left
  · intro w'
    go_simp
    with_reducible rfl
  rotate_left
  · simp only [Act.put, List.setIfInBounds_toArray, List.set_cons_zero, List.set_cons_succ, i64_w, i32_w]
    rfl
  refine pure_ (i := 2) (N := some 48) (v := ?_) (a' := ?_) #[true, true, true, false, false, false, false, false, false, false] rfl rfl (by kernel_rfl) (fun _ _ _ h => h) (Or.inl ⟨by rfl, ?_⟩) ?_ ?_
  rotate_left
  · intro w'
    go_simp
    with_reducible rfl
  rotate_left
  · simp only [Act.put, List.setIfInBounds_toArray, List.set_cons_zero, List.set_cons_succ, i64_w, i32_w]
    rfl
  refine pure_ (i := 4) (N := some 50) (v := ?_) (a' := ?_) #[true, true, true, false, true, false, false, false, false, false] rfl rfl (by kernel_rfl) (fun _ _ _ h => h) (Or.inl ⟨by rfl, ?_⟩) ?_ ?_
  rotate_left
  · intro w'
    go_simp
    with_reducible rfl
  rotate_left
  · simp only [Act.put, List.setIfInBounds_toArray, List.set_cons_zero, List.set_cons_succ, i64_w, i32_w]
    rfl
  refine take_ (i := 3) (N := some 49) (v := ?_) (a' := ?_) #[true, true, true, true, true, false, false, false, false, false] rfl rfl (by kernel_rfl) (fun _ _ _ h => h) (Or.inl ⟨by rfl, ?_⟩) hHeld ?_ ?_
  rotate_left
  · rintro w' ⟨s0, s1, s2, s3, s4, s5⟩
    go_simp
    with_reducible rfl
  rotate_left
  · simp only [Act.put, List.setIfInBounds_toArray, List.set_cons_zero, List.set_cons_succ, i64_w, i32_w]
    rfl
  refine take_ (i := 5) (N := some 51) (v := ?_) (a' := ?_) #[true, true, true, true, true, true, false, false, false, false] rfl rfl (by kernel_rfl) (fun _ _ _ h => h) (Or.inl ⟨by rfl, ?_⟩) hHeld ?_ ?_
  rotate_left
  · rintro w' ⟨s0, s1, s2, s3, s4, s5⟩
    go_simp
    with_reducible rfl
  rotate_left
  · simp only [Act.put, List.setIfInBounds_toArray, List.set_cons_zero, List.set_cons_succ, i64_w, i32_w]
    rfl
  refine one_ (i := 6) (N := some 52) #[true, true, true, true, true, true, true, false, false, false] rfl rfl (by kernel_rfl) (by decide) (fun K hK => ?_)
  refine goes_ Try.func65 (by kernel_rfl) rfl #[cellV ow x y (.slice A1 vals.length c1) (.slice A kids.length c)] (by rfl) rfl rfl (by simp only [List.map_toArray, List.map_cons, List.map_nil]; rfl) ?_
  with_reducible refine (own_calls ow x y _ _ vals kids _ HX.out HY.out hvl (by omega)).mono ?_
  rintro e w9 ⟨v', k', rfl, hv5, hk5, hB5⟩
  refine ⟨_, rfl, ?_⟩
  obtain ⟨A3, c3, e3, _⟩ := id hv5
  subst e3
  obtain ⟨A4, c5, e4, _⟩ := id hk5
  subst e4
  have hr5 := Raw.below HR2.out hB5
  have hb5 := blk_below HBX3.out hB5
  obtain ⟨t0, t1, t2, t3, t4, t5, u0, u1, u2, u3, u4, u5⟩ := six hr5 i _ HIS.out
  refine hK.out _ _ ⟨(blk_cell hr5.obj 0), (blk_cell hb5 0), (blk_cell hb5 1), (blk_cell hb5 2), (blk_cell hb5 3), (blk_cell hb5 4)⟩ (fun hHeld => ?_)
  clear hK K
  refine norm_ (a' := ?_) ?_ ?_
  rotate_left
  · show Act.put _ (some 52) _ = _
    simp only [Act.put, List.setIfInBounds_toArray, List.set_cons_zero, List.set_cons_succ, i64_w, i32_w]
    rfl
  refine pure_ (i := 7) (N := some 53) (v := ?_) (a' := ?_) #[true, true, true, true, true, true, true, true, false, false] rfl rfl (by kernel_rfl) (fun _ _ _ h => h) (Or.inl ⟨by rfl, ?_⟩) ?_ ?_
  rotate_left
  · intro w'
    go_simp
    with_reducible rfl
  rotate_left
  · simp only [Act.put, List.setIfInBounds_toArray, List.set_cons_zero, List.set_cons_succ, i64_w, i32_w]
    rfl
  refine pure_ (i := 8) (N := some 54) (v := ?_) (a' := ?_) #[true, true, true, true, true, true, true, true, true, false] rfl rfl (by kernel_rfl) (fun _ _ _ h => h) (Or.inl ⟨by rfl, ?_⟩) ?_ ?_
  rotate_left
  · intro w'
    go_simp
    with_reducible rfl
  rotate_left
  · simp only [Act.put, List.setIfInBounds_toArray, List.set_cons_zero, List.set_cons_succ, i64_w, i32_w]
    rfl
  refine last_ (i := 9) (N := none) #[true, true, true, true, true, true, true, true, true, true] rfl rfl (by kernel_rfl) (by decide) (fun K hK => ?_)
  refine skip_ (w1 := ?_) (by rfl) rfl ?_ ?_
  rotate_left
  · go_simp
    rfl
  refine hK.out _ _ ?_
  clear hK K
  refine done_ (by kernel_rfl) ?_

  have hr6 := lay5 hr5 i s ⟨ow, x, y, .slice A3 vals.length c3, .slice A4 kids.length c5, s.r⟩ HIS.out rfl
  have hF6 := frq5 w9 gs (i * 6) (.int .u32 ow) (.int .u32 x) (.int .u32 y) (.slice A3 vals.length c3) (.slice A4 kids.length c5)
  obtain ⟨W6, hW6⟩ : ∃ W6, (((((w9.setCell ⟨gs, i * 6, none⟩ (.int .u32 ow)).setCell ⟨gs, i * 6 + 1, none⟩ (.int .u32 x)).setCell ⟨gs, i * 6 + 2, none⟩ (.int .u32 y)).setCell ⟨gs, i * 6 + 3, none⟩ (.slice A3 vals.length c3)).setCell ⟨gs, i * 6 + 4, none⟩ (.slice A4 kids.length c5)) = W6 := ⟨_, rfl⟩
  rw [hW6] at hF6 ⊢
  replace hr6 : RawA W6 base a gs cs vf (sl.set i ⟨ow, x, y, .slice A3 vals.length c3, .slice A4 kids.length c5, s.r⟩) fr live most := by rw [← hW6]; exact hr6
  have hls : (sl.set i ⟨ow, x, y, .slice A3 vals.length c3, .slice A4 kids.length c5, s.r⟩)[i]? = some ⟨ow, x, y, .slice A3 vals.length c3, .slice A4 kids.length c5, s.r⟩ := List.getElem?_set_self hil
  obtain ⟨m0, _, _, _, _, _, n0, _⟩ := six hr6 i _ hls
  have mp0 := blk_cell hr6.obj 0
  rw [List.length_set] at mp0
  have hv6 := hv5.fr kVal_K hF6 (fun j hj e => by omega)
  have hk6 := hk5.fr kInt_K hF6 (fun j hj e => by omega)
  have HLS := Lib.hid hls
  have HR6 := Lib.hid hr6
  have HV6 := Lib.hid hv6
  have HK6 := Lib.hid hk6
  have HF6 := Lib.hid (Fr.then_ ((Fr.of_new HB3.out).more hB5) hF6 (fun j hj => .inl hj))
  have hz5 : w2.drew.heap.size ≤ w9.heap.size := hB5.size
  clear hHeld t0 t1 t2 t3 t4 t5 u0 u1 u2 u3 u4 u5 hr5 hb5 hr6 hv6 hk6 hv5 hk5 hF6 hB5 hls
  go_wp2
  go_ret
  have hF7 : Fr (· = gs) W6 (W6.setCell ⟨gs, i * 6, none⟩ (.int .u32 o)) := Fr.set gs _ _
  have hr7 := HR6.out.put i 0 (.int .u32 o) _ ⟨o, x, y, .slice A3 vals.length c3, .slice A4 kids.length c5, s.r⟩ HLS.out (by decide) rfl
  rw [List.set_set] at hr7
  rw [hr] at hr7
  refine ⟨rfl, _, _, hr7, (HV6.out.fr kVal_K hF7 (fun j hj e => by omega)).mono (fun j hj => by omega), (HK6.out.fr kInt_K hF7 (fun j hj e => by omega)).mono (fun j hj => by omega), HF6.out.then_ hF7 (fun j hj => .inl hj)⟩
end
end Go.Proofs.Ytnipbfhfaefieaa.Arn
