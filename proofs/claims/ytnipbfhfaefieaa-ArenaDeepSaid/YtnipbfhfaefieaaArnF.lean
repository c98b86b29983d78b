/- arena: Make, where a number is free. -/
import Derived.Test.YtnipbfhfaefieaaArnE
namespace Go.Proofs.Ytnipbfhfaefieaa.Arn
open Go.RowKit Go Go.Proofs.YtnipbfhfaefieaaW.PrintWords Go.Proofs.YtnipbfhfaefieaaW.PrintMore Go.Proofs.YtnipbfhfaefieaaW.PrintLast Go.Proofs.Ytnipbfhfaefieaa.Bts Go.Proofs.Ytnipbfhfaefieaa.Fra
theorem own_some {w : World} {base n : Nat} {e : TypeId} {size : Nat} {v : Value} {xs : List Value} (h : w.ownsRow base e size v n xs) (hn : 0 < n) : ∃ g c, v = .slice (some ⟨g, 0, none⟩) n c ∧ n ≤ c ∧ c ≤ maxLen := by
  rcases h.2 with ⟨rfl, rfl⟩ | ⟨g, cap, cur, rfl, _, _, h1, h2, _⟩
  · omega
  · exact ⟨g, cap, rfl, h1, h2⟩
section
variable {base a gs cs : Nat} {vf : Value} {sl : List Slot} {fr : List Int} {live most : Int}
theorem fr6 (w : World) (g o : Nat) (x y z u v r : Value) : Fr (· = g) w ((((((w.setCell ⟨g, o, none⟩ x).setCell ⟨g, o + 1, none⟩ y).setCell ⟨g, o + 2, none⟩ z).setCell ⟨g, o + 3, none⟩ u).setCell ⟨g, o + 4, none⟩ v).setCell ⟨g, o + 5, none⟩ r) :=
  Fr.put (S := fun k => k = g) (Fr.put (S := fun k => k = g) (Fr.put (S := fun k => k = g) (Fr.put (S := fun k => k = g) (Fr.put (S := fun k => k = g) (Fr.put (S := fun k => k = g) (Fr.refl (fun k => k = g) w) (p := ⟨g, o, none⟩) (.inl rfl) x) (p := ⟨g, o + 1, none⟩) (.inl rfl) y) (p := ⟨g, o + 2, none⟩) (.inl rfl) z) (p := ⟨g, o + 3, none⟩) (.inl rfl) u) (p := ⟨g, o + 4, none⟩) (.inl rfl) v) (p := ⟨g, o + 5, none⟩) (.inl rfl) r
/-- A slot's six cells. -/
theorem six {w : World} (h : RawA w base a gs cs vf sl fr live most) (i : Nat) (s : Slot) (hs : sl[i]? = some s) :
    w.cell? ⟨gs, i * 6, none⟩ = some (.int .u32 s.ow) ∧ w.cell? ⟨gs, i * 6 + 1, none⟩ = some (.int .u32 s.a) ∧ w.cell? ⟨gs, i * 6 + 2, none⟩ = some (.int .u32 s.b) ∧ w.cell? ⟨gs, i * 6 + 3, none⟩ = some s.v ∧ w.cell? ⟨gs, i * 6 + 4, none⟩ = some s.k ∧ w.cell? ⟨gs, i * 6 + 5, none⟩ = some (.int .i64 s.r) ∧
    w.frozen? ⟨gs, i * 6, none⟩ = false ∧ w.frozen? ⟨gs, i * 6 + 1, none⟩ = false ∧ w.frozen? ⟨gs, i * 6 + 2, none⟩ = false ∧ w.frozen? ⟨gs, i * 6 + 3, none⟩ = false ∧ w.frozen? ⟨gs, i * 6 + 4, none⟩ = false ∧ w.frozen? ⟨gs, i * 6 + 5, none⟩ = false :=
  ⟨h.cell i s hs 0 (by decide), h.cell i s hs 1 (by decide), h.cell i s hs 2 (by decide), h.cell i s hs 3 (by decide), h.cell i s hs 4 (by decide), h.cell i s hs 5 (by decide), h.frozen _, h.frozen _, h.frozen _, h.frozen _, h.frozen _, h.frozen _⟩
end
section
variable {base a gs cs : Nat} {vf : Value} {sl : List Slot} {fr : List Int} {live most : Int} {O : Nat → Prop}
set_option maxHeartbeats 4000000 in
set_option maxRecDepth 100000 in
theorem make_at (ow x y : Int) (v k : Value) (vals : List (Int × Int × ByteArray)) (kids : List Int) (fr' : List Int) (i : Nat) (s0 : Slot) (w : World) (h : RawA w base a gs cs vf sl (fr' ++ [(i : Int)]) live most) (hs : sl.length ≤ 1000000000) (hi : sl[i]? = some s0)
    (hv : RowIn kVal w O v vals) (hk : RowIn (Kd.int .i64) w O k kids) (hvl : vals.length * 32 ≤ 140737488355328) (hkl : kids.length ≤ 1000000000) (hb : badAt sl kids = false) (hl0 : 0 ≤ live) (hlm : live < most) (hm : most ≤ 1048576) (hfl : fr'.length ≤ 1000000000) (hO : ∀ j, O j → j ≠ a) :
    Calls Try.prog 21 #[.pointer (some ⟨a, 0, none⟩), cellV ow x y v k] w fun e w' => ∃ v' k' vf', e = .returned (.tuple #[.int .i64 i, .int .i64 0]) ∧ RawA w' base a gs cs vf' (sl.set i ⟨ow, x, y, v', k', 1⟩) fr' (live + 1) most ∧ vf'.ownBlock = vf.ownBlock ∧
      RowIn kVal w' (fun j => w.heap.size ≤ j) v' vals ∧ RowIn (Kd.int .i64) w' (fun j => w.heap.size ≤ j) k' kids ∧ Fr (fun j => j = a ∨ j = gs) w w' := by
  have HVR := Lib.hid hv
  have HKR := Lib.hid hk
  obtain ⟨A1, c1, rfl, _⟩ := hv
  obtain ⟨A2, c2, rfl, _⟩ := hk
  obtain ⟨m, hmf⟩ : ∃ m, fr'.length = m := ⟨_, rfl⟩
  have hlen : (fr' ++ [(i : Int)]).length = m + 1 := by simp [hmf]
  have hfree := h.free
  rw [hlen] at hfree
  obtain ⟨fg, fc, rfl, hfc, hfm⟩ := own_some hfree (by omega)
  have hbx : Below w.heap.size w (w.alloc (.cells #[.int .u32 ow, .int .u32 x, .int .u32 y, .slice A1 vals.length c1, .slice A2 kids.length c2] 43)) := below_alloc (Below.refl _ _) _
  have HI := Lib.hid (right_calls ow x y (.slice A1 vals.length c1) (.slice A2 kids.length c2) kids _ (Raw.below h hbx) hs (HKR.out.below hbx) hkl)
  rw [hb] at HI
  have hq : ∀ W, RawA W base a gs cs (.slice (some ⟨fg, 0, none⟩) (m + 1) fc) sl (fr' ++ [(i : Int)]) live most → W.cell? ⟨fg, m, none⟩ = some (.int .i64 i) := by
    intro W hW
    have hf := hW.free
    rw [hlen] at hf
    rw [hf.cellAt m (by omega)]
    simp [nums, hmf]
  have HQ := Lib.hid hq
  have HR := Lib.hid h
  have HMF := Lib.hid hmf
  have hml : m ≤ 1000000000 := by omega
  have hil : i < sl.length := (List.getElem?_eq_some_iff.1 hi).1
  have HIS := Lib.hid hi
  have hsi : (sl.length : Int) ≤ 1000000000 := by omega
  have hil' : (i : Int) < (sl.length : Int) := by omega
  clear hq h hb hbx hfree hlen hmf hi
  go_enter Try.func21, Try.ntmps21
  go_wp2_with (first
    | (go_at_call 25; go_loud (refine (room_calls _ (Raw.below HR.out HB.out)).mono ?_; rintro e w2 ⟨rfl, hB2⟩; have hb2 := below_step HB.out hB2; have hr2 := Raw.below HR.out hb2; have hroom : ¬ wrap64 (most - live) < 1 := (by unfold wrap64; omega); have p0 := blk_cell hr2.obj 0; have p1 := blk_cell hr2.obj 1; have z1 := blk_frozen hr2.obj 1; have q0 : w2.cell? ⟨fg, m, none⟩ = some (.int .i64 i) := HQ.out _ hr2; have HR2 := Lib.hid hr2; have HB2 := Lib.hid hb2; have HBX := Lib.hid (blk_below (blk_below (blk_new w _) HBA.out) hB2); clear hB2 hb2 hr2))
    | (go_at_call 64; go_loud (refine HI.out.mono ?_; rintro e w1 ⟨rfl, hB⟩; have HBA := Lib.hid hB; have HB := Lib.hid (below_step (below_alloc (Below.refl w.heap.size w) _) hB); clear hB)))
  have hho : w2.ownsRow base 3 1 (.slice (some ⟨fg, 0, none⟩) m fc) m (nums .i64 fr') := by
    have hf := HR2.out.free
    have e1 : (fr' ++ [(i : Int)]).length = m + 1 := by simp [HMF.out]
    have e2 : nums .i64 (fr' ++ [(i : Int)]) = nums .i64 fr' ++ [.int .i64 i] := by simp [nums]
    rw [e1, e2] at hf
    exact ownsRow_pop (by rw [nums_length, HMF.out]; omega) hf
  have hr3 := HR2.out.frees (vf' := .slice (some ⟨fg, 0, none⟩) m fc) (fr' := fr') (Fr.refl _ w2) (by rw [HMF.out]; exact hho) (fun k hk => .inl (by cases hk; rfl))
  have ha : a < w.heap.size := blk_lt HR.out.obj
  have hg : gs < w.heap.size := own_lt HR.out.row gs rfl
  have hbx3 := blk_far HBX.out (p := ⟨a, 1, none⟩) (show ¬ w.heap.size = a by omega) (.slice (some ⟨fg, 0, none⟩) m fc)
  have hF3 : Fr (fun j => j = a ∨ j = gs) w (w2.setCell ⟨a, 1, none⟩ (.slice (some ⟨fg, 0, none⟩) m fc)) := (Fr.of_new HB2.out).then_ (Fr.set a 1 _) (fun k hk => .inl (.inl hk))
  have hFa : Fr (· = a) w (w2.setCell ⟨a, 1, none⟩ (.slice (some ⟨fg, 0, none⟩) m fc)) := (Fr.of_new HB2.out).then_ (Fr.set a 1 _) (fun k hk => .inl hk)
  have hx := HVR.out.fr kVal_K hFa hO
  have hy := HKR.out.fr kInt_K hFa hO
  obtain ⟨W3, hW3⟩ : ∃ W3, w2.setCell ⟨a, 1, none⟩ (.slice (some ⟨fg, 0, none⟩) m fc) = W3 := ⟨_, rfl⟩
  rw [hW3] at hr3 hbx3 hF3 hFa hx hy ⊢
  have hd : Below W3.heap.size W3 W3.drew := below_drew1 (Below.refl _ _)
  have hr3d := Raw.below hr3 hd
  have hbx3d := blk_below hbx3 hd
  have ps0 := blk_cell hr3d.obj 0
  have b0 := blk_cell hbx3d 0
  have b1 := blk_cell hbx3d 1
  have b2 := blk_cell hbx3d 2
  have b3 := blk_cell hbx3d 3
  have b4 := blk_cell hbx3d 4
  have HR3 := Lib.hid hr3d
  have HB3 := Lib.hid hbx3d
  have HF3 := Lib.hid (hF3.more hd)
  have hsz : w.heap.size ≤ W3.drew.heap.size := (hF3.more hd).size
  have HX := Lib.hid (hx.below hd)
  have HY := Lib.hid (hy.below hd)
  clear hho hr3 hbx3 hF3 hFa hr3d hbx3d hd hx hy p0 p1 z1 q0 HI
  refine start_ (n := 10) (S := fun w' => w'.cell? ⟨a, 0, none⟩ = some (.slice (some ⟨gs, 0, none⟩) sl.length cs) ∧ w'.cell? ⟨w.heap.size, 0, none⟩ = some (.int .u32 ow) ∧ w'.cell? ⟨w.heap.size, 1, none⟩ = some (.int .u32 x) ∧ w'.cell? ⟨w.heap.size, 2, none⟩ = some (.int .u32 y) ∧ w'.cell? ⟨w.heap.size, 3, none⟩ = some (.slice A1 vals.length c1) ∧ w'.cell? ⟨w.heap.size, 4, none⟩ = some (.slice A2 kids.length c2)) (ds := [9]) #[false, false, false, false, false, false, false, false, false, false] (by kernel_rfl) rfl rfl ⟨ps0, b0, b1, b2, b3, b4⟩ (fun hHeld => ?_)
  refine pure_ (i := 0) (N := some 69) (v := ?_) (a' := ?_) #[true, false, false, false, false, false, false, false, false, false] rfl rfl (by kernel_rfl) (fun _ _ _ h => h) (Or.inl ⟨by rfl, ?_⟩) ?_ ?_
  rotate_left
  · intro w'
    go_simp
    with_reducible rfl
  rotate_left
  · simp only [Act.put, List.setIfInBounds_toArray, List.set_cons_zero, List.set_cons_succ, i64_w, i32_w]
    rfl
  refine pure_ (i := 1) (N := some 70) (v := ?_) (a' := ?_) #[true, true, false, false, false, false, false, false, false, false] rfl rfl (by kernel_rfl) (fun _ _ _ h => h) (Or.inl ⟨by rfl, ?_⟩) ?_ ?_
  rotate_left
  · intro w'
    go_simp
    with_reducible rfl
  rotate_left
  · simp only [Act.put, List.setIfInBounds_toArray, List.set_cons_zero, List.set_cons_succ, i64_w, i32_w]
    rfl
  refine pure_ (i := 2) (N := some 71) (v := ?_) (a' := ?_) #[true, true, true, false, false, false, false, false, false, false] rfl rfl (by kernel_rfl) (fun _ _ _ h => h) (Or.inl ⟨by rfl, ?_⟩) ?_ ?_
  rotate_left
  · intro w'
    go_simp
    with_reducible rfl
  rotate_left
  · simp only [Act.put, List.setIfInBounds_toArray, List.set_cons_zero, List.set_cons_succ, i64_w, i32_w]
    rfl
  refine pure_ (i := 4) (N := some 73) (v := ?_) (a' := ?_) #[true, true, true, false, true, false, false, false, false, false] rfl rfl (by kernel_rfl) (fun _ _ _ h => h) (Or.inl ⟨by rfl, ?_⟩) ?_ ?_
  rotate_left
  · intro w'
    go_simp
    with_reducible rfl
  rotate_left
  · simp only [Act.put, List.setIfInBounds_toArray, List.set_cons_zero, List.set_cons_succ, i64_w, i32_w]
    rfl
  refine take_ (i := 3) (N := some 72) (v := ?_) (a' := ?_) #[true, true, true, true, true, false, false, false, false, false] rfl rfl (by kernel_rfl) (fun _ _ _ h => h) (Or.inl ⟨by rfl, ?_⟩) hHeld ?_ ?_
  rotate_left
  · rintro w' ⟨s0, s1, s2, s3, s4, s5⟩
    go_simp
    with_reducible rfl
  rotate_left
  · simp only [Act.put, List.setIfInBounds_toArray, List.set_cons_zero, List.set_cons_succ, i64_w, i32_w]
    rfl
  refine take_ (i := 5) (N := some 74) (v := ?_) (a' := ?_) #[true, true, true, true, true, true, false, false, false, false] rfl rfl (by kernel_rfl) (fun _ _ _ h => h) (Or.inl ⟨by rfl, ?_⟩) hHeld ?_ ?_
  rotate_left
  · rintro w' ⟨s0, s1, s2, s3, s4, s5⟩
    go_simp
    with_reducible rfl
  rotate_left
  · simp only [Act.put, List.setIfInBounds_toArray, List.set_cons_zero, List.set_cons_succ, i64_w, i32_w]
    rfl
  refine one_ (i := 6) (N := some 75) #[true, true, true, true, true, true, true, false, false, false] rfl rfl (by kernel_rfl) (by decide) (fun K hK => ?_)
  refine goes_ Try.func65 (by kernel_rfl) rfl #[cellV ow x y (.slice A1 vals.length c1) (.slice A2 kids.length c2)] (by rfl) rfl rfl (by simp only [List.map_toArray, List.map_cons, List.map_nil]; rfl) ?_
  with_reducible refine (own_calls ow x y _ _ vals kids _ HX.out HY.out hvl (by omega)).mono ?_
  rintro e w5 ⟨v', k', rfl, hv5, hk5, hB5⟩
  refine ⟨_, rfl, ?_⟩
  obtain ⟨A3, c3, e3, _⟩ := id hv5
  subst e3
  obtain ⟨A4, c4, e4, _⟩ := id hk5
  subst e4
  have hr5 := Raw.below HR3.out hB5
  have hb5 := blk_below HB3.out hB5
  obtain ⟨t0, t1, t2, t3, t4, t5, u0, u1, u2, u3, u4, u5⟩ := six hr5 i _ HIS.out
  refine hK.out _ _ ⟨(blk_cell hr5.obj 0), (blk_cell hb5 0), (blk_cell hb5 1), (blk_cell hb5 2), (blk_cell hb5 3), (blk_cell hb5 4)⟩ (fun hHeld => ?_)
  clear hK K
  refine norm_ (a' := ?_) ?_ ?_
  rotate_left
  · show Act.put _ (some 75) _ = _
    simp only [Act.put, List.setIfInBounds_toArray, List.set_cons_zero, List.set_cons_succ, i64_w, i32_w]
    rfl
  refine pure_ (i := 7) (N := some 76) (v := ?_) (a' := ?_) #[true, true, true, true, true, true, true, true, false, false] rfl rfl (by kernel_rfl) (fun _ _ _ h => h) (Or.inl ⟨by rfl, ?_⟩) ?_ ?_
  rotate_left
  · intro w'
    go_simp
    with_reducible rfl
  rotate_left
  · simp only [Act.put, List.setIfInBounds_toArray, List.set_cons_zero, List.set_cons_succ, i64_w, i32_w]
    rfl
  refine pure_ (i := 8) (N := some 77) (v := ?_) (a' := ?_) #[true, true, true, true, true, true, true, true, true, false] rfl rfl (by kernel_rfl) (fun _ _ _ h => h) (Or.inl ⟨by rfl, ?_⟩) ?_ ?_
  rotate_left
  · intro w'
    go_simp
    with_reducible rfl
  rotate_left
  · simp only [Act.put, List.setIfInBounds_toArray, List.set_cons_zero, List.set_cons_succ, i64_w, i32_w]
    rfl
  refine last_ (i := 9) (N := none) #[true, true, true, true, true, true, true, true, true, true] rfl rfl (by kernel_rfl) (by decide) (fun K hK => ?_)
  refine skip_ (w1 := ?_) (by rfl) rfl ?_ ?_
  rotate_left
  · go_simp
    rfl
  refine hK.out _ _ ?_
  clear hK K
  refine done_ (by kernel_rfl) ?_

  have hr6 := hr5.lay i s0 ⟨ow, x, y, .slice A3 vals.length c3, .slice A4 kids.length c4, 1⟩ HIS.out
  have hF6 := fr6 w5 gs (i * 6) (.int .u32 ow) (.int .u32 x) (.int .u32 y) (.slice A3 vals.length c3) (.slice A4 kids.length c4) (.int .i64 1)
  obtain ⟨W6, hW6⟩ : ∃ W6, ((((((w5.setCell ⟨gs, i * 6, none⟩ (.int .u32 ow)).setCell ⟨gs, i * 6 + 1, none⟩ (.int .u32 x)).setCell ⟨gs, i * 6 + 2, none⟩ (.int .u32 y)).setCell ⟨gs, i * 6 + 3, none⟩ (.slice A3 vals.length c3)).setCell ⟨gs, i * 6 + 4, none⟩ (.slice A4 kids.length c4)).setCell ⟨gs, i * 6 + 5, none⟩ (.int .i64 1)) = W6 := ⟨_, rfl⟩
  rw [hW6] at hF6 ⊢
  replace hr6 : RawA W6 base a gs cs (.slice (some ⟨fg, 0, none⟩) m fc) (sl.set i ⟨ow, x, y, .slice A3 vals.length c3, .slice A4 kids.length c4, 1⟩) fr' live most := by rw [← hW6]; exact hr6
  have hv6 := hv5.fr kVal_K hF6 (fun j hj e => by omega)
  have hk6 := hk5.fr kInt_K hF6 (fun j hj e => by omega)
  have l2 := blk_cell hr6.obj 2
  have l3 := blk_frozen hr6.obj 2
  have HR6 := Lib.hid hr6
  have HV6 := Lib.hid hv6
  have HK6 := Lib.hid hk6
  have HF6 := Lib.hid ((HF3.out.more hB5).then_ hF6 (fun j hj => .inl (.inr hj)))
  have hz5 : W3.drew.heap.size ≤ w5.heap.size := hB5.size
  clear hHeld t0 t1 t2 t3 t4 t5 u0 u1 u2 u3 u4 u5 hr5 hb5 hr6 hv6 hk6 hv5 hk5 hF6 hB5
  go_wp2_with (go_at_call 66; go_loud (refine (add_calls _ live 1 _ rfl l2 l3).mono ?_; rintro e w7 ⟨rfl, rfl⟩))
  go_ret2
  have e1 : wrap64 (live + 1) = live + 1 := by unfold wrap64; omega
  rw [e1]
  have hF7 : Fr (· = a) W6 (W6.setCell ⟨a, 2, none⟩ (.int .i64 (live + 1))) := Fr.set a 2 _
  refine ⟨_, _, _, rfl, HR6.out.live (live + 1), rfl, (HV6.out.fr kVal_K hF7 (fun j hj e => by omega)).mono (fun j hj => by omega), (HK6.out.fr kInt_K hF7 (fun j hj e => by omega)).mono (fun j hj => by omega), HF6.out.then_ hF7 (fun j hj => .inl (.inl hj))⟩
end
end Go.Proofs.Ytnipbfhfaefieaa.Arn
