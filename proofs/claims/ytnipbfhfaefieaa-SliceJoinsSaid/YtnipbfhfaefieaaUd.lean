/- Texts of this claim, laid together: ArnF, ArnH, ArnI, ArnJ. -/
import Derived.Test.YtnipbfhfaefieaaUc
/-! arena: Make, where a number is free. -/
namespace Go.Proofs.Ytnipbfhfaefieaa.Arn
open Go.RowKit Go Go.Proofs.YtnipbfhfaefieaaW.PrintWords Go.Proofs.YtnipbfhfaefieaaW.PrintMore Go.Proofs.YtnipbfhfaefieaaW.PrintLast Go.Proofs.Ytnipbfhfaefieaa.Bts Go.Proofs.Ytnipbfhfaefieaa.Fra
theorem own_some {w : World} {base n : Nat} {e : TypeId} {size : Nat} {v : Value} {xs : List Value} (h : w.ownsRow base e size v n xs) (hn : 0 < n) : ∃ g c, v = .slice (some ⟨g, 0, none⟩) n c ∧ n ≤ c ∧ c ≤ maxLen := by
  rcases h.2 with ⟨rfl, rfl⟩ | ⟨g, cap, cur, rfl, _, _, h1, h2, _⟩
  · omega
  · exact ⟨g, cap, rfl, h1, h2⟩
section
variable {base a gs cs : Nat} {vf : Value} {sl : List Slot} {fr : List Int} {live most : Int}
theorem fr6 (w : World) (g o : Nat) (x y z u v r : Value) : Fr (· = g) w ((((((w.setCell ⟨g, o, none⟩ x).setCell ⟨g, o + 1, none⟩ y).setCell ⟨g, o + 2, none⟩ z).setCell ⟨g, o + 3, none⟩ u).setCell ⟨g, o + 4, none⟩ v).setCell ⟨g, o + 5, none⟩ r) :=
  Fr.put (S := fun k => k = g) (Fr.put (S := fun k => k = g) (Fr.put (S := fun k => k = g) (Fr.put (S := fun k => k = g) (Fr.put (S := fun k => k = g) (Fr.put (S := fun k => k = g) (Fr.refl (fun k => k = g) w) (p := ⟨g, o, none⟩) (.inl rfl) x) (p := ⟨g, o + 1, none⟩) (.inl rfl) y) (p := ⟨g, o + 2, none⟩) (.inl rfl) z) (p := ⟨g, o + 3, none⟩) (.inl rfl) u) (p := ⟨g, o + 4, none⟩) (.inl rfl) v) (p := ⟨g, o + 5, none⟩) (.inl rfl) r
/-- A slot's six cells. -/
theorem six {w : World} (h : RawA w base a gs cs vf sl fr live most) (i : Nat) (s : Slot) (hs : sl[i]? = some s) :
    w.cell? ⟨gs, i * 6, none⟩ = some (.int .u32 s.ow) ∧ w.cell? ⟨gs, i * 6 + 1, none⟩ = some (.int .u32 s.a) ∧ w.cell? ⟨gs, i * 6 + 2, none⟩ = some (.int .u32 s.b) ∧ w.cell? ⟨gs, i * 6 + 3, none⟩ = some s.v ∧ w.cell? ⟨gs, i * 6 + 4, none⟩ = some s.k ∧ w.cell? ⟨gs, i * 6 + 5, none⟩ = some (.int .i64 s.r) ∧
    w.frozen? ⟨gs, i * 6, none⟩ = false ∧ w.frozen? ⟨gs, i * 6 + 1, none⟩ = false ∧ w.frozen? ⟨gs, i * 6 + 2, none⟩ = false ∧ w.frozen? ⟨gs, i * 6 + 3, none⟩ = false ∧ w.frozen? ⟨gs, i * 6 + 4, none⟩ = false ∧ w.frozen? ⟨gs, i * 6 + 5, none⟩ = false :=
  ⟨h.cell i s hs 0 (by decide), h.cell i s hs 1 (by decide), h.cell i s hs 2 (by decide), h.cell i s hs 3 (by decide), h.cell i s hs 4 (by decide), h.cell i s hs 5 (by decide), h.frozen _, h.frozen _, h.frozen _, h.frozen _, h.frozen _, h.frozen _⟩
end
section
variable {base a gs cs : Nat} {vf : Value} {sl : List Slot} {fr : List Int} {live most : Int} {O : Nat → Prop}
set_option maxHeartbeats 4000000 in
set_option maxRecDepth 100000 in
theorem make_at (ow x y : Int) (v k : Value) (vals : List (Int × Int × ByteArray)) (kids : List Int) (fr' : List Int) (i : Nat) (s0 : Slot) (w : World) (h : RawA w base a gs cs vf sl (fr' ++ [(i : Int)]) live most) (hs : sl.length ≤ 1000000000) (hi : sl[i]? = some s0)
    (hv : RowIn kVal w O v vals) (hk : RowIn (Kd.int .i64) w O k kids) (hvl : vals.length * 32 ≤ 140737488355328) (hkl : kids.length ≤ 1000000000) (hb : badAt sl kids = false) (hl0 : 0 ≤ live) (hlm : live < most) (hm : most ≤ 1048576) (hfl : fr'.length ≤ 1000000000) (hO : ∀ j, O j → j ≠ a) :
    Calls Try.prog 21 #[.pointer (some ⟨a, 0, none⟩), cellV ow x y v k] w fun e w' => ∃ v' k' vf', e = .returned (.tuple #[.int .i64 i, .int .i64 0]) ∧ RawA w' base a gs cs vf' (sl.set i ⟨ow, x, y, v', k', 1⟩) fr' (live + 1) most ∧ vf'.ownBlock = vf.ownBlock ∧
      RowIn kVal w' (fun j => w.heap.size ≤ j) v' vals ∧ RowIn (Kd.int .i64) w' (fun j => w.heap.size ≤ j) k' kids ∧ Fr (fun j => j = a ∨ j = gs) w w' := by
  have HVR := Lib.hid hv
  have HKR := Lib.hid hk
  obtain ⟨A1, c1, rfl, _⟩ := hv
  obtain ⟨A2, c2, rfl, _⟩ := hk
  obtain ⟨m, hmf⟩ : ∃ m, fr'.length = m := ⟨_, rfl⟩
  have hlen : (fr' ++ [(i : Int)]).length = m + 1 := by simp [hmf]
  have hfree := h.free
  rw [hlen] at hfree
  obtain ⟨fg, fc, rfl, hfc, hfm⟩ := own_some hfree (by omega)
  have hbx : Below w.heap.size w (w.alloc (.cells #[.int .u32 ow, .int .u32 x, .int .u32 y, .slice A1 vals.length c1, .slice A2 kids.length c2] 43)) := below_alloc (Below.refl _ _) _
  have HI := Lib.hid (right_calls ow x y (.slice A1 vals.length c1) (.slice A2 kids.length c2) kids _ (Raw.below h hbx) hs (HKR.out.below hbx) hkl)
  rw [hb] at HI
  have hq : ∀ W, RawA W base a gs cs (.slice (some ⟨fg, 0, none⟩) (m + 1) fc) sl (fr' ++ [(i : Int)]) live most → W.cell? ⟨fg, m, none⟩ = some (.int .i64 i) := by
    intro W hW
    have hf := hW.free
    rw [hlen] at hf
    rw [hf.cellAt m (by omega)]
    simp [nums, hmf]
  have HQ := Lib.hid hq
  have HR := Lib.hid h
  have HMF := Lib.hid hmf
  have hml : m ≤ 1000000000 := by omega
  have hil : i < sl.length := (List.getElem?_eq_some_iff.1 hi).1
  have HIS := Lib.hid hi
  have hsi : (sl.length : Int) ≤ 1000000000 := by omega
  have hil' : (i : Int) < (sl.length : Int) := by omega
  clear hq h hb hbx hfree hlen hmf hi
  go_enter Try.func21, Try.ntmps21
  go_wp2_with (first
    | (go_at_call 25; go_loud (refine (room_calls _ (Raw.below HR.out HB.out)).mono ?_; rintro e w2 ⟨rfl, hB2⟩; have hb2 := below_step HB.out hB2; have hr2 := Raw.below HR.out hb2; have hroom : ¬ wrap64 (most - live) < 1 := (by unfold wrap64; omega); have p0 := blk_cell hr2.obj 0; have p1 := blk_cell hr2.obj 1; have z1 := blk_frozen hr2.obj 1; have q0 : w2.cell? ⟨fg, m, none⟩ = some (.int .i64 i) := HQ.out _ hr2; have HR2 := Lib.hid hr2; have HB2 := Lib.hid hb2; have HBX := Lib.hid (blk_below (blk_below (blk_new w _) HBA.out) hB2); clear hB2 hb2 hr2))
    | (go_at_call 64; go_loud (refine HI.out.mono ?_; rintro e w1 ⟨rfl, hB⟩; have HBA := Lib.hid hB; have HB := Lib.hid (below_step (below_alloc (Below.refl w.heap.size w) _) hB); clear hB)))
  have hho : w2.ownsRow base 3 1 (.slice (some ⟨fg, 0, none⟩) m fc) m (nums .i64 fr') := by
    have hf := HR2.out.free
    have e1 : (fr' ++ [(i : Int)]).length = m + 1 := by simp [HMF.out]
    have e2 : nums .i64 (fr' ++ [(i : Int)]) = nums .i64 fr' ++ [.int .i64 i] := by simp [nums]
    rw [e1, e2] at hf
    exact ownsRow_pop (by rw [nums_length, HMF.out]; omega) hf
  have hr3 := HR2.out.frees (vf' := .slice (some ⟨fg, 0, none⟩) m fc) (fr' := fr') (Fr.refl _ w2) (by rw [HMF.out]; exact hho) (fun k hk => .inl (by cases hk; rfl))
  have ha : a < w.heap.size := blk_lt HR.out.obj
  have hg : gs < w.heap.size := own_lt HR.out.row gs rfl
  have hbx3 := blk_far HBX.out (p := ⟨a, 1, none⟩) (show ¬ w.heap.size = a by omega) (.slice (some ⟨fg, 0, none⟩) m fc)
  have hF3 : Fr (fun j => j = a ∨ j = gs) w (w2.setCell ⟨a, 1, none⟩ (.slice (some ⟨fg, 0, none⟩) m fc)) := (Fr.of_new HB2.out).then_ (Fr.set a 1 _) (fun k hk => .inl (.inl hk))
  have hFa : Fr (· = a) w (w2.setCell ⟨a, 1, none⟩ (.slice (some ⟨fg, 0, none⟩) m fc)) := (Fr.of_new HB2.out).then_ (Fr.set a 1 _) (fun k hk => .inl hk)
  have hx := HVR.out.fr kVal_K hFa hO
  have hy := HKR.out.fr kInt_K hFa hO
  obtain ⟨W3, hW3⟩ : ∃ W3, w2.setCell ⟨a, 1, none⟩ (.slice (some ⟨fg, 0, none⟩) m fc) = W3 := ⟨_, rfl⟩
  rw [hW3] at hr3 hbx3 hF3 hFa hx hy ⊢
  have hd : Below W3.heap.size W3 W3.drew := below_drew1 (Below.refl _ _)
  have hr3d := Raw.below hr3 hd
  have hbx3d := blk_below hbx3 hd
  have ps0 := blk_cell hr3d.obj 0
  have b0 := blk_cell hbx3d 0
  have b1 := blk_cell hbx3d 1
  have b2 := blk_cell hbx3d 2
  have b3 := blk_cell hbx3d 3
  have b4 := blk_cell hbx3d 4
  have HR3 := Lib.hid hr3d
  have HB3 := Lib.hid hbx3d
  have HF3 := Lib.hid (hF3.more hd)
  have hsz : w.heap.size ≤ W3.drew.heap.size := (hF3.more hd).size
  have HX := Lib.hid (hx.below hd)
  have HY := Lib.hid (hy.below hd)
  clear hho hr3 hbx3 hF3 hFa hr3d hbx3d hd hx hy p0 p1 z1 q0 HI
  refine start_ (n := 10) (S := fun w' => w'.cell? ⟨a, 0, none⟩ = some (.slice (some ⟨gs, 0, none⟩) sl.length cs) ∧ w'.cell? ⟨w.heap.size, 0, none⟩ = some (.int .u32 ow) ∧ w'.cell? ⟨w.heap.size, 1, none⟩ = some (.int .u32 x) ∧ w'.cell? ⟨w.heap.size, 2, none⟩ = some (.int .u32 y) ∧ w'.cell? ⟨w.heap.size, 3, none⟩ = some (.slice A1 vals.length c1) ∧ w'.cell? ⟨w.heap.size, 4, none⟩ = some (.slice A2 kids.length c2)) (ds := [9]) #[false, false, false, false, false, false, false, false, false, false] (by kernel_rfl) rfl rfl ⟨ps0, b0, b1, b2, b3, b4⟩ (fun hHeld => ?_)
  refine pure_ (i := 0) (N := some 69) (v := ?_) (a' := ?_) #[true, false, false, false, false, false, false, false, false, false] rfl rfl (by kernel_rfl) (fun _ _ _ h => h) (Or.inl ⟨by rfl, ?_⟩) ?_ ?_
  rotate_left
  · intro w'
    go_simp
    with_reducible rfl
  rotate_left
  · simp only [Act.put, List.setIfInBounds_toArray, List.set_cons_zero, List.set_cons_succ, i64_w, i32_w]
    rfl
  refine pure_ (i := 1) (N := some 70) (v := ?_) (a' := ?_) #[true, true, false, false, false, false, false, false, false, false] rfl rfl (by kernel_rfl) (fun _ _ _ h => h) (Or.inl ⟨by rfl, ?_⟩) ?_ ?_
  rotate_left
  · intro w'
    go_simp
    with_reducible rfl
  rotate_left
  · simp only [Act.put, List.setIfInBounds_toArray, List.set_cons_zero, List.set_cons_succ, i64_w, i32_w]
    rfl
  refine pure_ (i := 2) (N := some 71) (v := ?_) (a' := ?_) #[true, true, true, false, false, false, false, false, false, false] rfl rfl (by kernel_rfl) (fun _ _ _ h => h) (Or.inl ⟨by rfl, ?_⟩) ?_ ?_
  rotate_left
  · intro w'
    go_simp
    with_reducible rfl
  rotate_left
  · simp only [Act.put, List.setIfInBounds_toArray, List.set_cons_zero, List.set_cons_succ, i64_w, i32_w]
    rfl
  refine pure_ (i := 4) (N := some 73) (v := ?_) (a' := ?_) #[true, true, true, false, true, false, false, false, false, false] rfl rfl (by kernel_rfl) (fun _ _ _ h => h) (Or.inl ⟨by rfl, ?_⟩) ?_ ?_
  rotate_left
  · intro w'
    go_simp
    with_reducible rfl
  rotate_left
  · simp only [Act.put, List.setIfInBounds_toArray, List.set_cons_zero, List.set_cons_succ, i64_w, i32_w]
    rfl
  refine take_ (i := 3) (N := some 72) (v := ?_) (a' := ?_) #[true, true, true, true, true, false, false, false, false, false] rfl rfl (by kernel_rfl) (fun _ _ _ h => h) (Or.inl ⟨by rfl, ?_⟩) hHeld ?_ ?_
  rotate_left
  · rintro w' ⟨s0, s1, s2, s3, s4, s5⟩
    go_simp
    with_reducible rfl
  rotate_left
  · simp only [Act.put, List.setIfInBounds_toArray, List.set_cons_zero, List.set_cons_succ, i64_w, i32_w]
    rfl
  refine take_ (i := 5) (N := some 74) (v := ?_) (a' := ?_) #[true, true, true, true, true, true, false, false, false, false] rfl rfl (by kernel_rfl) (fun _ _ _ h => h) (Or.inl ⟨by rfl, ?_⟩) hHeld ?_ ?_
  rotate_left
  · rintro w' ⟨s0, s1, s2, s3, s4, s5⟩
    go_simp
    with_reducible rfl
  rotate_left
  · simp only [Act.put, List.setIfInBounds_toArray, List.set_cons_zero, List.set_cons_succ, i64_w, i32_w]
    rfl
  refine one_ (i := 6) (N := some 75) #[true, true, true, true, true, true, true, false, false, false] rfl rfl (by kernel_rfl) (by decide) (fun K hK => ?_)
  refine goes_ Try.func65 (by kernel_rfl) rfl #[cellV ow x y (.slice A1 vals.length c1) (.slice A2 kids.length c2)] (by rfl) rfl rfl (by simp only [List.map_toArray, List.map_cons, List.map_nil]; rfl) ?_
  with_reducible refine (own_calls ow x y _ _ vals kids _ HX.out HY.out hvl (by omega)).mono ?_
  rintro e w5 ⟨v', k', rfl, hv5, hk5, hB5⟩
  refine ⟨_, rfl, ?_⟩
  obtain ⟨A3, c3, e3, _⟩ := id hv5
  subst e3
  obtain ⟨A4, c4, e4, _⟩ := id hk5
  subst e4
  have hr5 := Raw.below HR3.out hB5
  have hb5 := blk_below HB3.out hB5
  obtain ⟨t0, t1, t2, t3, t4, t5, u0, u1, u2, u3, u4, u5⟩ := six hr5 i _ HIS.out
  refine hK.out _ _ ⟨(blk_cell hr5.obj 0), (blk_cell hb5 0), (blk_cell hb5 1), (blk_cell hb5 2), (blk_cell hb5 3), (blk_cell hb5 4)⟩ (fun hHeld => ?_)
  clear hK K
  refine norm_ (a' := ?_) ?_ ?_
  rotate_left
  · show Act.put _ (some 75) _ = _
    simp only [Act.put, List.setIfInBounds_toArray, List.set_cons_zero, List.set_cons_succ, i64_w, i32_w]
    rfl
  refine pure_ (i := 7) (N := some 76) (v := ?_) (a' := ?_) #[true, true, true, true, true, true, true, true, false, false] rfl rfl (by kernel_rfl) (fun _ _ _ h => h) (Or.inl ⟨by rfl, ?_⟩) ?_ ?_
  rotate_left
  · intro w'
    go_simp
    with_reducible rfl
  rotate_left
  · simp only [Act.put, List.setIfInBounds_toArray, List.set_cons_zero, List.set_cons_succ, i64_w, i32_w]
    rfl
  refine pure_ (i := 8) (N := some 77) (v := ?_) (a' := ?_) #[true, true, true, true, true, true, true, true, true, false] rfl rfl (by kernel_rfl) (fun _ _ _ h => h) (Or.inl ⟨by rfl, ?_⟩) ?_ ?_
  rotate_left
  · intro w'
    go_simp
    with_reducible rfl
  rotate_left
  · simp only [Act.put, List.setIfInBounds_toArray, List.set_cons_zero, List.set_cons_succ, i64_w, i32_w]
    rfl
  refine last_ (i := 9) (N := none) #[true, true, true, true, true, true, true, true, true, true] rfl rfl (by kernel_rfl) (by decide) (fun K hK => ?_)
  refine skip_ (w1 := ?_) (by rfl) rfl ?_ ?_
  rotate_left
  · go_simp
    rfl
  refine hK.out _ _ ?_
  clear hK K
  refine done_ (by kernel_rfl) ?_

  have hr6 := hr5.lay i s0 ⟨ow, x, y, .slice A3 vals.length c3, .slice A4 kids.length c4, 1⟩ HIS.out
  have hF6 := fr6 w5 gs (i * 6) (.int .u32 ow) (.int .u32 x) (.int .u32 y) (.slice A3 vals.length c3) (.slice A4 kids.length c4) (.int .i64 1)
  obtain ⟨W6, hW6⟩ : ∃ W6, ((((((w5.setCell ⟨gs, i * 6, none⟩ (.int .u32 ow)).setCell ⟨gs, i * 6 + 1, none⟩ (.int .u32 x)).setCell ⟨gs, i * 6 + 2, none⟩ (.int .u32 y)).setCell ⟨gs, i * 6 + 3, none⟩ (.slice A3 vals.length c3)).setCell ⟨gs, i * 6 + 4, none⟩ (.slice A4 kids.length c4)).setCell ⟨gs, i * 6 + 5, none⟩ (.int .i64 1)) = W6 := ⟨_, rfl⟩
  rw [hW6] at hF6 ⊢
  replace hr6 : RawA W6 base a gs cs (.slice (some ⟨fg, 0, none⟩) m fc) (sl.set i ⟨ow, x, y, .slice A3 vals.length c3, .slice A4 kids.length c4, 1⟩) fr' live most := by rw [← hW6]; exact hr6
  have hv6 := hv5.fr kVal_K hF6 (fun j hj e => by omega)
  have hk6 := hk5.fr kInt_K hF6 (fun j hj e => by omega)
  have l2 := blk_cell hr6.obj 2
  have l3 := blk_frozen hr6.obj 2
  have HR6 := Lib.hid hr6
  have HV6 := Lib.hid hv6
  have HK6 := Lib.hid hk6
  have HF6 := Lib.hid ((HF3.out.more hB5).then_ hF6 (fun j hj => .inl (.inr hj)))
  have hz5 : W3.drew.heap.size ≤ w5.heap.size := hB5.size
  clear hHeld t0 t1 t2 t3 t4 t5 u0 u1 u2 u3 u4 u5 hr5 hb5 hr6 hv6 hk6 hv5 hk5 hF6 hB5
  go_wp2_with (go_at_call 66; go_loud (refine (add_calls _ live 1 _ rfl l2 l3).mono ?_; rintro e w7 ⟨rfl, rfl⟩))
  go_ret2
  have e1 : wrap64 (live + 1) = live + 1 := by unfold wrap64; omega
  rw [e1]
  have hF7 : Fr (· = a) W6 (W6.setCell ⟨a, 2, none⟩ (.int .i64 (live + 1))) := Fr.set a 2 _
  refine ⟨_, _, _, rfl, HR6.out.live (live + 1), rfl, (HV6.out.fr kVal_K hF7 (fun j hj e => by omega)).mono (fun j hj => by omega), (HK6.out.fr kInt_K hF7 (fun j hj e => by omega)).mono (fun j hj => by omega), HF6.out.then_ hF7 (fun j hj => .inl (.inl hj))⟩
end
end Go.Proofs.Ytnipbfhfaefieaa.Arn
/-! arena: Make, where no number is free: one place more. -/
namespace Go.Proofs.Ytnipbfhfaefieaa.Arn
open Go.RowKit Go Go.Proofs.YtnipbfhfaefieaaW.PrintWords Go.Proofs.YtnipbfhfaefieaaW.PrintMore Go.Proofs.YtnipbfhfaefieaaW.PrintLast Go.Proofs.Ytnipbfhfaefieaa.Bts Go.Proofs.Ytnipbfhfaefieaa.Fra
theorem infoInt : (Try.prog.info? 3).map (fun i => (i.zero, i.size, i.bytes)) = some (some (.int .i64 0), 1, 8) := by kernel_rfl
theorem fr_grownBy {w w' : World} {row : Option Nat} (hg : w.grownBy w' row) : Fr (fun k => row = some k) w w' := ⟨hg.os, hg.tape, hg.output, hg.size, fun i hi hne => hg.block i hi (fun e => hne e.symm)⟩
section
variable {base a gs cs : Nat} {vf : Value} {sl : List Slot} {fr : List Int} {live most : Int} {O : Nat → Prop}
set_option maxHeartbeats 4000000 in
set_option maxRecDepth 100000 in
theorem make_grow (ow x y : Int) (v k : Value) (vals : List (Int × Int × ByteArray)) (kids : List Int) (w : World) (h : RawA w base a gs cs vf sl [] live most) (hs : sl.length ≤ 100000000) (hs0 : 0 < sl.length)
    (hv : RowIn kVal w O v vals) (hk : RowIn (Kd.int .i64) w O k kids) (hvl : vals.length * 32 ≤ 140737488355328) (hkl : kids.length ≤ 1000000000) (hb : badAt sl kids = false) (hl0 : 0 ≤ live) (hlm : live < most) (hm : most ≤ 1048576) (hO : ∀ j, O j → j ≠ a ∧ j ≠ gs ∧ vf.ownBlock ≠ some j) :
    Calls Try.prog 21 #[.pointer (some ⟨a, 0, none⟩), cellV ow x y v k] w fun e w' => ∃ v' k' vf' gs' cs', e = .returned (.tuple #[.int .i64 sl.length, .int .i64 0]) ∧ RawA w' base a gs' cs' vf' ((sl ++ [nob]).set sl.length ⟨ow, x, y, v', k', 1⟩) [] (live + 1) most ∧ (∀ j, vf'.ownBlock = some j → vf.ownBlock = some j ∨ w.heap.size ≤ j) ∧ (gs' = gs ∨ w.heap.size ≤ gs') ∧
      RowIn kVal w' (fun j => w.heap.size ≤ j ∧ j ≠ gs' ∧ vf'.ownBlock ≠ some j) v' vals ∧ RowIn (Kd.int .i64) w' (fun j => w.heap.size ≤ j ∧ j ≠ gs' ∧ vf'.ownBlock ≠ some j) k' kids ∧ Fr (fun j => j = a ∨ j = gs ∨ vf.ownBlock = some j) w w' := by
  have HVR := Lib.hid hv
  have HKR := Lib.hid hk
  obtain ⟨A1, c1, rfl, _⟩ := hv
  obtain ⟨A2, c2, rfl, _⟩ := hk
  obtain ⟨fA, fc, hvf⟩ := own_slice h.free
  replace hvf : vf = .slice fA 0 fc := hvf
  subst hvf
  have hbx : Below w.heap.size w (w.alloc (.cells #[.int .u32 ow, .int .u32 x, .int .u32 y, .slice A1 vals.length c1, .slice A2 kids.length c2] 43)) := below_alloc (Below.refl _ _) _
  have HI := Lib.hid (right_calls ow x y (.slice A1 vals.length c1) (.slice A2 kids.length c2) kids _ (Raw.below h hbx) (by omega) (HKR.out.below hbx) hkl)
  rw [hb] at HI
  have HR := Lib.hid h
  have ha : a < w.heap.size := blk_lt h.obj
  have hg : gs < w.heap.size := own_lt h.row gs rfl
  have hbs := h.bs
  have hba := h.ba
  have hfa := h.fa
  clear h hb hbx
  go_enter Try.func21, Try.ntmps21
  go_wp2_with (first
    | (go_at_call 25; go_loud (refine (room_calls _ (Raw.below HR.out HB.out)).mono ?_; rintro e w2 ⟨rfl, hB2⟩; have hb2 := below_step HB.out hB2; have hr2 := Raw.below HR.out hb2; have hroom : ¬ wrap64 (most - live) < 1 := (by unfold wrap64; omega); have p0 := blk_cell hr2.obj 0; have p1 := blk_cell hr2.obj 1; have HR2 := Lib.hid hr2; have HB2 := Lib.hid hb2; have HBX := Lib.hid (blk_below (blk_below (blk_new w _) HBA.out) hB2); clear hB2 hb2 hr2))
    | (go_at_call 64; go_loud (refine HI.out.mono ?_; rintro e w1 ⟨rfl, hB⟩; have HBA := Lib.hid hB; have HB := Lib.hid (below_step (below_alloc (Below.refl w.heap.size w) _) hB); clear hB)))
  have hd : Below w2.heap.size w2 w2.drew := below_drew1 (Below.refl _ _)
  have hr2 := Raw.below HR2.out hd
  have hbx2 := blk_below HBX.out hd
  have ps0 := blk_cell hr2.obj 0
  have ps1 := blk_cell hr2.obj 1
  have HR2d := Lib.hid hr2
  have HB2d := Lib.hid (below_step HB2.out hd)
  have HBXd := Lib.hid hbx2
  clear hr2 hbx2 hd p0 p1 HR2 HB2 HBX HI
  obtain ⟨V, hV⟩ : ∃ V, w2.drew = V := ⟨_, rfl⟩
  rw [hV] at HR2d HB2d HBXd ps0 ps1
  have hVs : w.heap.size ≤ V.heap.size := HB2d.out.size
  refine start_ (n := 15) (S := fun w' => w'.cell? ⟨a, 0, none⟩ = some (.slice (some ⟨gs, 0, none⟩) sl.length cs) ∧ w'.cell? ⟨a, 1, none⟩ = some (.slice fA 0 fc)) (ds := [14]) #[false, false, false, false, false, false, false, false, false, false, false, false, false, false, false] (by kernel_rfl) rfl rfl ⟨(by rw [hV]; exact ps0), (by rw [hV]; exact ps1)⟩ (fun hHeld => ?_)
  refine pure_ (i := 0) (N := some 23) (v := ?_) (a' := ?_) #[true, false, false, false, false, false, false, false, false, false, false, false, false, false, false] rfl rfl (by kernel_rfl) (fun _ _ _ h => h) (Or.inl ⟨by rfl, ?_⟩) ?_ ?_
  rotate_left
  · intro w'
    go_simp
    with_reducible rfl
  rotate_left
  · simp only [Act.put, List.setIfInBounds_toArray, List.set_cons_zero, List.set_cons_succ, i64_w, i32_w]
    rfl
  refine pure_ (i := 1) (N := some 24) (v := ?_) (a' := ?_) #[true, true, false, false, false, false, false, false, false, false, false, false, false, false, false] rfl rfl (by kernel_rfl) (fun _ _ _ h => h) (Or.inl ⟨by rfl, ?_⟩) ?_ ?_
  rotate_left
  · intro w'
    go_simp
    with_reducible rfl
  rotate_left
  · simp only [Act.put, List.setIfInBounds_toArray, List.set_cons_zero, List.set_cons_succ, i64_w, i32_w]
    rfl
  refine pure_ (i := 2) (N := some 25) (v := ?_) (a' := ?_) #[true, true, true, false, false, false, false, false, false, false, false, false, false, false, false] rfl rfl (by kernel_rfl) (fun _ _ _ h => h) (Or.inl ⟨by rfl, ?_⟩) ?_ ?_
  rotate_left
  · intro w'
    go_simp
    with_reducible rfl
  rotate_left
  · simp only [Act.put, List.setIfInBounds_toArray, List.set_cons_zero, List.set_cons_succ, i64_w, i32_w]
    rfl
  refine pure_ (i := 3) (N := some 26) (v := ?_) (a' := ?_) #[true, true, true, true, false, false, false, false, false, false, false, false, false, false, false] rfl rfl (by kernel_rfl) (fun _ _ _ h => h) (Or.inl ⟨by rfl, ?_⟩) ?_ ?_
  rotate_left
  · intro w'
    go_simp
    with_reducible rfl
  rotate_left
  · simp only [Act.put, List.setIfInBounds_toArray, List.set_cons_zero, List.set_cons_succ, i64_w, i32_w]
    rfl
  refine pure_ (i := 5) (N := some 28) (v := ?_) (a' := ?_) #[true, true, true, true, false, true, false, false, false, false, false, false, false, false, false] rfl rfl (by kernel_rfl) (fun _ _ _ h => h) (Or.inl ⟨by rfl, ?_⟩) ?_ ?_
  rotate_left
  · intro w'
    go_simp
    with_reducible rfl
  rotate_left
  · simp only [Act.put, List.setIfInBounds_toArray, List.set_cons_zero, List.set_cons_succ, i64_w, i32_w]
    rfl
  refine pure_ (i := 6) (N := some 29) (v := ?_) (a' := ?_) #[true, true, true, true, false, true, true, false, false, false, false, false, false, false, false] rfl rfl (by kernel_rfl) (fun _ _ _ h => h) (Or.inl ⟨by rfl, ?_⟩) ?_ ?_
  rotate_left
  · intro w'
    go_simp
    with_reducible rfl
  rotate_left
  · simp only [Act.put, List.setIfInBounds_toArray, List.set_cons_zero, List.set_cons_succ, i64_w, i32_w]
    rfl
  refine pure_ (i := 7) (N := some 30) (v := ?_) (a' := ?_) #[true, true, true, true, false, true, true, true, false, false, false, false, false, false, false] rfl rfl (by kernel_rfl) (fun _ _ _ h => h) (Or.inl ⟨by rfl, ?_⟩) ?_ ?_
  rotate_left
  · intro w'
    go_simp
    with_reducible rfl
  rotate_left
  · simp only [Act.put, List.setIfInBounds_toArray, List.set_cons_zero, List.set_cons_succ, i64_w, i32_w]
    rfl
  refine take_ (i := 4) (N := some 27) (v := ?_) (a' := ?_) #[true, true, true, true, true, true, true, true, false, false, false, false, false, false, false] rfl rfl (by kernel_rfl) (fun _ _ _ h => h) (Or.inl ⟨by rfl, ?_⟩) hHeld ?_ ?_
  rotate_left
  · rintro w' ⟨s0, s1⟩
    go_simp
    with_reducible rfl
  rotate_left
  · simp only [Act.put, List.setIfInBounds_toArray, List.set_cons_zero, List.set_cons_succ, i64_w, i32_w]
    rfl
  refine take_ (i := 8) (N := some 31) (v := ?_) (a' := ?_) #[true, true, true, true, true, true, true, true, true, false, false, false, false, false, false] rfl rfl (by kernel_rfl) (fun _ _ _ h => h) (Or.inl ⟨by rfl, ?_⟩) hHeld ?_ ?_
  rotate_left
  · rintro w' ⟨s0, s1⟩
    go_simp
    with_reducible rfl
  rotate_left
  · simp only [Act.put, List.setIfInBounds_toArray, List.set_cons_zero, List.set_cons_succ, i64_w, i32_w]
    rfl
  refine pure_ (i := 9) (N := some 32) (v := ?_) (a' := ?_) #[true, true, true, true, true, true, true, true, true, true, false, false, false, false, false] rfl rfl (by kernel_rfl) (fun _ _ _ h => h) (Or.inl ⟨by rfl, ?_⟩) ?_ ?_
  rotate_left
  · intro w'
    go_simp
    with_reducible rfl
  rotate_left
  · simp only [Act.put, List.setIfInBounds_toArray, List.set_cons_zero, List.set_cons_succ, i64_w, i32_w]
    rfl
  refine one_ (i := 10) (N := some 33) #[true, true, true, true, true, true, true, true, true, true, true, false, false, false, false] rfl rfl (by kernel_rfl) (by decide) (fun K hK => ?_)
  refine value_ (w1 := ?_) (v := ?_) (by rfl) rfl ?_ ?_
  rotate_left 2
  · go_simp
    constructor
    · rfl
    · rfl
  refine hK.out _ _ ⟨(pw_cell_below (below_alloc (Below.refl V.heap.size V) _) ps0), (pw_cell_below (below_alloc (Below.refl V.heap.size V) _) ps1)⟩ (fun hHeld => ?_)
  clear hK K
  refine norm_ (a' := ?_) ?_ ?_
  rotate_left
  · show Act.put _ (some 33) _ = _
    simp only [Act.put, List.setIfInBounds_toArray, List.set_cons_zero, List.set_cons_succ, i64_w, i32_w]
    rfl
  refine one_ (i := 11) (N := some 34) #[true, true, true, true, true, true, true, true, true, true, true, true, false, false, false] rfl rfl (by kernel_rfl) (by decide) (fun K hK => ?_)
  refine step_append_cells (w0 := V) (W := V) base (by rfl) (.tmp 27) (.tmp 33) 27 3 (.int .i64 0) 1 8 rfl Try.underlying27 infoInt rfl (by decide) (by decide) (.slice fA 0 fc) 0 [] [.int .i64 (sl.length : Int)] rfl rfl rfl (fun u hu => by rw [List.mem_singleton.1 hu]; rfl) HR2d.out.free (Below.refl _ _) (by omega) (by omega) ?_
  intro v4 w4 ho4 hB4 hg4 hat4
  have ho4b := (fr_grownBy hg4).blk HR2d.out.obj (fun e => (hfa _ e).1 rfl)
  obtain ⟨A4, c4, rfl⟩ := own_slice ho4
  have k1 := blk_cell ho4b 1
  have k2 := blk_frozen ho4b 1
  refine hK.out _ _ ⟨(blk_cell ho4b 0), k1⟩ (fun hHeld => ?_)
  clear hK K
  refine norm_ (a' := ?_) ?_ ?_
  rotate_left
  · show Act.put _ (some 34) _ = _
    simp only [Act.put, List.setIfInBounds_toArray, List.set_cons_zero, List.set_cons_succ, i64_w, i32_w]
    rfl
  refine pure_ (i := 12) (N := some 35) (v := ?_) (a' := ?_) #[true, true, true, true, true, true, true, true, true, true, true, true, true, false, false] rfl rfl (by kernel_rfl) (fun _ _ _ h => h) (Or.inl ⟨by rfl, ?_⟩) ?_ ?_
  rotate_left
  · intro w'
    go_simp
    with_reducible rfl
  rotate_left
  · simp only [Act.put, List.setIfInBounds_toArray, List.set_cons_zero, List.set_cons_succ, i64_w, i32_w]
    rfl
  refine pure_ (i := 13) (N := some 36) (v := ?_) (a' := ?_) #[true, true, true, true, true, true, true, true, true, true, true, true, true, true, false] rfl rfl (by kernel_rfl) (fun _ _ _ h => h) (Or.inl ⟨by rfl, ?_⟩) ?_ ?_
  rotate_left
  · intro w'
    go_simp
    with_reducible rfl
  rotate_left
  · simp only [Act.put, List.setIfInBounds_toArray, List.set_cons_zero, List.set_cons_succ, i64_w, i32_w]
    rfl
  refine last_ (i := 14) (N := none) #[true, true, true, true, true, true, true, true, true, true, true, true, true, true, true] rfl rfl (by kernel_rfl) (by decide) (fun K hK => ?_)
  refine skip_ (w1 := ?_) (by rfl) rfl ?_ ?_
  rotate_left
  · go_simp
    rfl
  refine hK.out _ _ ?_
  clear hK K
  refine done_ (by kernel_rfl) ?_

  obtain ⟨fg, fc4, hA4, hfc4, hfm4⟩ := own_some ho4 (by omega)
  injection hA4 with hA4 _ hc4
  subst hA4
  subst hc4
  have hr5 := HR2d.out.frees (vf' := .slice (some ⟨fg, 0, none⟩) 1 c4) (fr' := [(sl.length : Int)]) (fr_grownBy hg4) ho4 (fun k hk => by
    rcases hat4 with e | ⟨b, e, hb⟩
    · exact .inl (e ▸ hk)
    · rw [e] at hk; cases hk; exact .inr hb)
  have hvo : ∀ j, (Value.slice (some ⟨fg, 0, none⟩) 1 c4).ownBlock = some j → (Value.slice fA 0 fc).ownBlock = some j ∨ w.heap.size ≤ j := by
    intro j hj
    rcases hat4 with e | ⟨b, e, hb⟩
    · exact .inl (e ▸ hj)
    · rw [e] at hj; cases hj; exact .inr (by omega)
  have hF5 : Fr (fun j => j = a ∨ j = gs ∨ (Value.slice fA 0 fc).ownBlock = some j) w (w4.setCell ⟨a, 1, none⟩ (.slice (some ⟨fg, 0, none⟩) 1 c4)) := ((Fr.of_new HB2d.out).then_ (fr_grownBy hg4) (fun k hk => .inl (.inr (.inr hk)))).then_ (Fr.set a 1 _) (fun k hk => .inl (.inl hk))
  have hbx5 : (w4.setCell ⟨a, 1, none⟩ (.slice (some ⟨fg, 0, none⟩) 1 c4)).heap[w.heap.size]? = _ := blk_far ((fr_grownBy hg4).blk HBXd.out (fun e => by have := own_lt HR.out.free _ e; omega)) (p := ⟨a, 1, none⟩) (show ¬ w.heap.size = a by omega) _
  obtain ⟨W5, hW5⟩ : ∃ W5, w4.setCell ⟨a, 1, none⟩ (.slice (some ⟨fg, 0, none⟩) 1 c4) = W5 := ⟨_, rfl⟩
  rw [hW5] at hr5 hF5 hbx5 ⊢
  have p0 := blk_cell hr5.obj 0
  have hba5 := hr5.obj
  have hrow5 := hr5.row
  have hq5 : W5.cell? ⟨fg, 0, none⟩ = some (.int .i64 (sl.length : Int)) := hr5.free.cellAt 0 (by decide)
  have HQ5 := Lib.hid hq5
  have HR5 := Lib.hid hr5
  have HF5 := Lib.hid hF5
  have HBX5 := Lib.hid hbx5
  have HVO := Lib.hid hvo
  have HBA5 := Lib.hid hba5
  have HROW5 := Lib.hid hrow5
  have hsz5 : w.heap.size ≤ W5.heap.size := hF5.size
  clear hq5 hHeld hr5 hF5 hbx5 hvo hba5 hrow5 ho4b k1 k2 hat4 hg4 hB4 ho4 ps0 ps1 HR2d HB2d HBXd
  have pn0 : (W5.alloc (.cells #[.int .u32 0, .int .u32 0, .int .u32 0, .slice none 0 0, .slice none 0 0, .int .i64 0] 115)).cell? ⟨a, 0, none⟩ = some (.slice (some ⟨gs, 0, none⟩) sl.length cs) := pw_cell_below (below_alloc (Below.refl W5.heap.size W5) _) p0
  go_wp2_with (at_builtin; go_loud (refine print_append_cells (w0 := W5) (W := W5) base rfl (.tmp 41) (.tmp 43) 105 115 (.agg #[.int .u32 0, .int .u32 0, .int .u32 0, .slice none 0 0, .slice none 0 0, .int .i64 0]) 6 72 rfl Try.underlying105 infoSlot rfl (by decide) (by decide) (.slice (some ⟨gs, 0, none⟩) sl.length cs) sl.length (flat sl) nob.cells rfl rfl rfl (fun u hu => by revert u; decide) HROW5.out (Below.refl _ _) (by omega) (by omega) ?_; intro v6 w6 ho6 hB6 hg6 hat6; obtain ⟨gs', cs', hv6, hcs6, hcm6⟩ := own_some ho6 (by omega); subst hv6; have hob6 := (fr_grownBy hg6).blk HBA5.out (fun e => HR5.out.ga (by cases e; rfl)); have r0 := blk_cell hob6 0; have r1 := blk_cell hob6 1; have y0 := blk_frozen hob6 0; have y1 := blk_frozen hob6 1; have q6 := (fr_grownBy hg6).cell HQ5.out (fun e => (HR5.out.fa fg rfl).2 (by cases e; rfl)); have q0 : ∀ u, (w6.setCell ⟨a, 0, none⟩ u).cell? ⟨fg, 0, none⟩ = some (.int .i64 (sl.length : Int)) := fun u => (Fr.set a 0 u).cell q6 (HR5.out.fa fg rfl).1; have HO6 := Lib.hid ho6; have HG6 := Lib.hid hg6; have HAT6 := Lib.hid hat6; clear ho6 hg6 hat6 hB6 hob6))
  have hr7 := HR5.out.grow ((fr_grownBy HG6.out).mono (S' := fun j => j = gs) (fun j e => .inl (by cases e; rfl))) (by rw [flat_app]; exact HO6.out) (by
    rcases HAT6.out with e | ⟨b, e, hb⟩
    · left; injection e
    · injection e with e; subst e; exact .inr hb)
  have hg7 : gs' = gs ∨ w.heap.size ≤ gs' := by
    rcases HAT6.out with e | ⟨b, e, hb⟩
    · left; injection e
    · injection e with e; subst e; exact .inr (Nat.le_trans hsz5 hb)
  have hF7 : Fr (fun j => j = a ∨ j = gs ∨ (Value.slice fA 0 fc).ownBlock = some j) w (w6.setCell ⟨a, 0, none⟩ (.slice (some ⟨gs', 0, none⟩) (sl.length + 1) cs')) := (HF5.out.then_ (fr_grownBy HG6.out) (fun k hk => .inl (.inr (.inl (by cases hk; rfl))))).then_ (Fr.set a 0 _) (fun k hk => .inl (.inl hk))
  have hbx7 := blk_far ((fr_grownBy HG6.out).blk HBX5.out (fun e => absurd (Option.some.inj e) (Nat.ne_of_lt hg))) (p := ⟨a, 0, none⟩) (show ¬ w.heap.size = a by omega) (.slice (some ⟨gs', 0, none⟩) (sl.length + 1) cs')
  have hho : (w6.setCell ⟨a, 0, none⟩ (.slice (some ⟨gs', 0, none⟩) (sl.length + 1) cs')).ownsRow base 3 1 (.slice (some ⟨fg, 0, none⟩) 0 c4) 0 [] := ownsRow_pop (last := [.int .i64 (sl.length : Int)]) rfl hr7.free
  have hr8 := hr7.frees (vf' := .slice (some ⟨fg, 0, none⟩) 0 c4) (fr' := []) (Fr.refl _ _) hho (fun k hk => .inl (by cases hk; rfl))
  have hbx8 := blk_far hbx7 (p := ⟨a, 1, none⟩) (show ¬ w.heap.size = a by omega) (.slice (some ⟨fg, 0, none⟩) 0 c4)
  have hF8 := hF7.then_ (Fr.set a 1 (.slice (some ⟨fg, 0, none⟩) 0 c4)) (fun k hk => .inl (.inl hk))
  obtain ⟨W8, hW8⟩ : ∃ W8, (w6.setCell ⟨a, 0, none⟩ (.slice (some ⟨gs', 0, none⟩) (sl.length + 1) cs')).setCell ⟨a, 1, none⟩ (.slice (some ⟨fg, 0, none⟩) 0 c4) = W8 := ⟨_, rfl⟩
  rw [hW8] at hr8 hbx8 hF8 ⊢
  have hO8 : ∀ j, O j → ¬ (j = a ∨ j = gs ∨ (Value.slice fA 0 fc).ownBlock = some j) := fun j hj e => by
    obtain ⟨o1, o2, o3⟩ := hO j hj
    rcases e with e | e | e
    · exact o1 e
    · exact o2 e
    · exact o3 e
  have hd : Below W8.heap.size W8 W8.drew := below_drew1 (Below.refl _ _)
  have hr3d := Raw.below hr8 hd
  have hbx3d := blk_below hbx8 hd
  have hl8 : (sl ++ [nob]).length = sl.length + 1 := by simp
  have ps0 := blk_cell hr3d.obj 0
  rw [hl8] at ps0
  have b0 := blk_cell hbx3d 0
  have b1 := blk_cell hbx3d 1
  have b2 := blk_cell hbx3d 2
  have b3 := blk_cell hbx3d 3
  have b4 := blk_cell hbx3d 4
  have hix : (sl.length : Int) < (sl.length : Int) + 1 := by omega
  have HIS := Lib.hid (show (sl ++ [nob])[sl.length]? = some nob by simp)
  have HR3 := Lib.hid hr3d
  have HB3 := Lib.hid hbx3d
  have HF3 := Lib.hid (hF8.more hd)
  have hsz : w.heap.size ≤ W8.drew.heap.size := (hF8.more hd).size
  have HX := Lib.hid ((HVR.out.fr kVal_K hF8 hO8).below hd)
  have HY := Lib.hid ((HKR.out.fr kInt_K hF8 hO8).below hd)
  have HG7 := Lib.hid hg7
  have HVO8 := Lib.hid (fun j hj => HVO.out j (show (Value.slice (some ⟨fg, 0, none⟩) 1 c4).ownBlock = some j from hj))
  have hsi : (sl.length : Int) ≤ 100000000 := by omega
  clear hho hr7 hr8 hbx8 hbx7 hF7 hF8 hO8 hr3d hbx3d hd pn0 p0 r0 r1 y0 y1 q6 q0 hg7
  refine start_ (n := 10) (S := fun w' => w'.cell? ⟨a, 0, none⟩ = some (.slice (some ⟨gs', 0, none⟩) (sl.length + 1) cs') ∧ w'.cell? ⟨w.heap.size, 0, none⟩ = some (.int .u32 ow) ∧ w'.cell? ⟨w.heap.size, 1, none⟩ = some (.int .u32 x) ∧ w'.cell? ⟨w.heap.size, 2, none⟩ = some (.int .u32 y) ∧ w'.cell? ⟨w.heap.size, 3, none⟩ = some (.slice A1 vals.length c1) ∧ w'.cell? ⟨w.heap.size, 4, none⟩ = some (.slice A2 kids.length c2)) (ds := [9]) #[false, false, false, false, false, false, false, false, false, false] (by kernel_rfl) rfl rfl ⟨ps0, b0, b1, b2, b3, b4⟩ (fun hHeld => ?_)
  refine pure_ (i := 0) (N := some 69) (v := ?_) (a' := ?_) #[true, false, false, false, false, false, false, false, false, false] rfl rfl (by kernel_rfl) (fun _ _ _ h => h) (Or.inl ⟨by rfl, ?_⟩) ?_ ?_
  rotate_left
  · intro w'
    go_simp
    with_reducible rfl
  rotate_left
  · simp only [Act.put, List.setIfInBounds_toArray, List.set_cons_zero, List.set_cons_succ, i64_w, i32_w]
    rfl
  refine pure_ (i := 1) (N := some 70) (v := ?_) (a' := ?_) #[true, true, false, false, false, false, false, false, false, false] rfl rfl (by kernel_rfl) (fun _ _ _ h => h) (Or.inl ⟨by rfl, ?_⟩) ?_ ?_
  rotate_left
  · intro w'
    go_simp
    with_reducible rfl
  rotate_left
  · simp only [Act.put, List.setIfInBounds_toArray, List.set_cons_zero, List.set_cons_succ, i64_w, i32_w]
    rfl
  refine pure_ (i := 2) (N := some 71) (v := ?_) (a' := ?_) #[true, true, true, false, false, false, false, false, false, false] rfl rfl (by kernel_rfl) (fun _ _ _ h => h) (Or.inl ⟨by rfl, ?_⟩) ?_ ?_
  rotate_left
  · intro w'
    go_simp
    with_reducible rfl
  rotate_left
  · simp only [Act.put, List.setIfInBounds_toArray, List.set_cons_zero, List.set_cons_succ, i64_w, i32_w]
    rfl
  refine pure_ (i := 4) (N := some 73) (v := ?_) (a' := ?_) #[true, true, true, false, true, false, false, false, false, false] rfl rfl (by kernel_rfl) (fun _ _ _ h => h) (Or.inl ⟨by rfl, ?_⟩) ?_ ?_
  rotate_left
  · intro w'
    go_simp
    with_reducible rfl
  rotate_left
  · simp only [Act.put, List.setIfInBounds_toArray, List.set_cons_zero, List.set_cons_succ, i64_w, i32_w]
    rfl
  refine take_ (i := 3) (N := some 72) (v := ?_) (a' := ?_) #[true, true, true, true, true, false, false, false, false, false] rfl rfl (by kernel_rfl) (fun _ _ _ h => h) (Or.inl ⟨by rfl, ?_⟩) hHeld ?_ ?_
  rotate_left
  · rintro w' ⟨s0, s1, s2, s3, s4, s5⟩
    go_simp
    with_reducible rfl
  rotate_left
  · simp only [Act.put, List.setIfInBounds_toArray, List.set_cons_zero, List.set_cons_succ, i64_w, i32_w]
    rfl
  refine take_ (i := 5) (N := some 74) (v := ?_) (a' := ?_) #[true, true, true, true, true, true, false, false, false, false] rfl rfl (by kernel_rfl) (fun _ _ _ h => h) (Or.inl ⟨by rfl, ?_⟩) hHeld ?_ ?_
  rotate_left
  · rintro w' ⟨s0, s1, s2, s3, s4, s5⟩
    go_simp
    with_reducible rfl
  rotate_left
  · simp only [Act.put, List.setIfInBounds_toArray, List.set_cons_zero, List.set_cons_succ, i64_w, i32_w]
    rfl
  refine one_ (i := 6) (N := some 75) #[true, true, true, true, true, true, true, false, false, false] rfl rfl (by kernel_rfl) (by decide) (fun K hK => ?_)
  refine goes_ Try.func65 (by kernel_rfl) rfl #[cellV ow x y (.slice A1 vals.length c1) (.slice A2 kids.length c2)] (by rfl) rfl rfl (by simp only [List.map_toArray, List.map_cons, List.map_nil]; rfl) ?_
  with_reducible refine (own_calls ow x y _ _ vals kids _ HX.out HY.out hvl (by omega)).mono ?_
  rintro e w9 ⟨v', k', rfl, hv5, hk5, hB5⟩
  refine ⟨_, rfl, ?_⟩
  obtain ⟨A3, c3, e3, _⟩ := id hv5
  subst e3
  obtain ⟨A4, c5, e4, _⟩ := id hk5
  subst e4
  have hr5 := Raw.below HR3.out hB5
  have hb5 := blk_below HB3.out hB5
  obtain ⟨t0, t1, t2, t3, t4, t5, u0, u1, u2, u3, u4, u5⟩ := six hr5 sl.length _ HIS.out
  have q0 := blk_cell hr5.obj 0
  rw [hl8] at q0
  refine hK.out _ _ ⟨q0, (blk_cell hb5 0), (blk_cell hb5 1), (blk_cell hb5 2), (blk_cell hb5 3), (blk_cell hb5 4)⟩ (fun hHeld => ?_)
  clear hK K
  refine norm_ (a' := ?_) ?_ ?_
  rotate_left
  · show Act.put _ (some 75) _ = _
    simp only [Act.put, List.setIfInBounds_toArray, List.set_cons_zero, List.set_cons_succ, i64_w, i32_w]
    rfl
  refine pure_ (i := 7) (N := some 76) (v := ?_) (a' := ?_) #[true, true, true, true, true, true, true, true, false, false] rfl rfl (by kernel_rfl) (fun _ _ _ h => h) (Or.inl ⟨by rfl, ?_⟩) ?_ ?_
  rotate_left
  · intro w'
    go_simp
    with_reducible rfl
  rotate_left
  · simp only [Act.put, List.setIfInBounds_toArray, List.set_cons_zero, List.set_cons_succ, i64_w, i32_w]
    rfl
  refine pure_ (i := 8) (N := some 77) (v := ?_) (a' := ?_) #[true, true, true, true, true, true, true, true, true, false] rfl rfl (by kernel_rfl) (fun _ _ _ h => h) (Or.inl ⟨by rfl, ?_⟩) ?_ ?_
  rotate_left
  · intro w'
    go_simp
    with_reducible rfl
  rotate_left
  · simp only [Act.put, List.setIfInBounds_toArray, List.set_cons_zero, List.set_cons_succ, i64_w, i32_w]
    rfl
  refine last_ (i := 9) (N := none) #[true, true, true, true, true, true, true, true, true, true] rfl rfl (by kernel_rfl) (by decide) (fun K hK => ?_)
  refine skip_ (w1 := ?_) (by rfl) rfl ?_ ?_
  rotate_left
  · go_simp
    rfl
  refine hK.out _ _ ?_
  clear hK K
  refine done_ (by kernel_rfl) ?_

  have hr6 := hr5.lay sl.length nob ⟨ow, x, y, .slice A3 vals.length c3, .slice A4 kids.length c5, 1⟩ HIS.out
  have hF6 := fr6 w9 gs' (sl.length * 6) (.int .u32 ow) (.int .u32 x) (.int .u32 y) (.slice A3 vals.length c3) (.slice A4 kids.length c5) (.int .i64 1)
  obtain ⟨W6, hW6⟩ : ∃ W6, ((((((w9.setCell ⟨gs', sl.length * 6, none⟩ (.int .u32 ow)).setCell ⟨gs', sl.length * 6 + 1, none⟩ (.int .u32 x)).setCell ⟨gs', sl.length * 6 + 2, none⟩ (.int .u32 y)).setCell ⟨gs', sl.length * 6 + 3, none⟩ (.slice A3 vals.length c3)).setCell ⟨gs', sl.length * 6 + 4, none⟩ (.slice A4 kids.length c5)).setCell ⟨gs', sl.length * 6 + 5, none⟩ (.int .i64 1)) = W6 := ⟨_, rfl⟩
  rw [hW6] at hF6 ⊢
  replace hr6 : RawA W6 base a gs' cs' (.slice (some ⟨fg, 0, none⟩) 0 c4) ((sl ++ [nob]).set sl.length ⟨ow, x, y, .slice A3 vals.length c3, .slice A4 kids.length c5, 1⟩) [] live most := by rw [← hW6]; exact hr6
  have hgl : gs' < W8.drew.heap.size := own_lt HR3.out.row gs' rfl
  have hv6 := hv5.fr kVal_K hF6 (fun j hj e => by omega)
  have hk6 := hk5.fr kInt_K hF6 (fun j hj e => by omega)
  have l2 := blk_cell hr6.obj 2
  have l3 := blk_frozen hr6.obj 2
  have HR6 := Lib.hid hr6
  have HV6 := Lib.hid hv6
  have HK6 := Lib.hid hk6
  have HF6 := Lib.hid ((HF3.out.more hB5).then_ hF6 (fun j hj => HG7.out.elim (fun e => .inl (.inr (.inl (hj.trans e)))) (fun e => .inr (by omega))))
  have hz5 : W8.drew.heap.size ≤ w9.heap.size := hB5.size
  clear hHeld t0 t1 t2 t3 t4 t5 u0 u1 u2 u3 u4 u5 q0 hr5 hb5 hr6 hv6 hk6 hv5 hk5 hF6 hB5
  go_wp2_with (go_at_call 66; go_loud (refine (add_calls _ live 1 _ rfl l2 l3).mono ?_; rintro e w7 ⟨rfl, rfl⟩))
  go_ret2
  have e1 : wrap64 (live + 1) = live + 1 := by unfold wrap64; omega
  rw [e1]
  have hF7 : Fr (· = a) W6 (W6.setCell ⟨a, 2, none⟩ (.int .i64 (live + 1))) := Fr.set a 2 _
  have hnew : ∀ j, W8.drew.heap.size ≤ j → w.heap.size ≤ j ∧ j ≠ gs' ∧ (Value.slice (some ⟨fg, 0, none⟩) 0 c4).ownBlock ≠ some j := fun j hj => ⟨by omega, by omega, fun e => by have := own_lt HR3.out.free j e; omega⟩
  exact ⟨_, _, _, _, _, rfl, HR6.out.live (live + 1), HVO8.out, HG7.out, (HV6.out.fr kVal_K hF7 (fun j hj e => by omega)).mono hnew, (HK6.out.fr kInt_K hF7 (fun j hj e => by omega)).mono hnew, HF6.out.then_ hF7 (fun j hj => .inl (.inl hj))⟩
end
end Go.Proofs.Ytnipbfhfaefieaa.Arn
/-! arena: Edit. -/
namespace Go.Proofs.Ytnipbfhfaefieaa.Arn
open Go.RowKit Go Go.Proofs.YtnipbfhfaefieaaW.PrintWords Go.Proofs.YtnipbfhfaefieaaW.PrintMore Go.Proofs.YtnipbfhfaefieaaW.PrintLast Go.Proofs.Ytnipbfhfaefieaa.Bts Go.Proofs.Ytnipbfhfaefieaa.Fra
theorem edit_nil (i o ow x y : Int) (v k : Value) (w : World) (hv : ∃ A n c, v = .slice A n c) (hk : ∃ A n c, k = .slice A n c) :
    Calls Try.prog 28 #[.pointer none, .int .i64 i, .int .u32 o, cellV ow x y v k] w fun e w' => e = .returned (.int .i64 4) ∧ Below w.heap.size w w' := by
  obtain ⟨A1, n1, c1, rfl⟩ := hv
  obtain ⟨A2, n2, c2, rfl⟩ := hk
  go_enter Try.func28, Try.ntmps28
  go_wp2_with (go_at_call 68; go_loud (refine (is_nil _ _).mono ?_; rintro e w1 ⟨rfl, hB⟩))
  go_ret
  exact ⟨rfl, below_step (below_alloc (Below.refl _ _) _) hB⟩
section
variable {base a gs cs : Nat} {vf : Value} {sl : List Slot} {fr : List Int} {live most : Int} {O : Nat → Prop}
end
end Go.Proofs.Ytnipbfhfaefieaa.Arn
/-! arena: Edit, done. -/
namespace Go.Proofs.Ytnipbfhfaefieaa.Arn
open Go.RowKit Go Go.Proofs.YtnipbfhfaefieaaW.PrintWords Go.Proofs.YtnipbfhfaefieaaW.PrintMore Go.Proofs.YtnipbfhfaefieaaW.PrintLast Go.Proofs.Ytnipbfhfaefieaa.Bts Go.Proofs.Ytnipbfhfaefieaa.Fra
theorem frq5 (w : World) (g o : Nat) (x y z u v : Value) : Fr (· = g) w (((((w.setCell ⟨g, o, none⟩ x).setCell ⟨g, o + 1, none⟩ y).setCell ⟨g, o + 2, none⟩ z).setCell ⟨g, o + 3, none⟩ u).setCell ⟨g, o + 4, none⟩ v) :=
  Fr.put (S := fun k => k = g) (Fr.put (S := fun k => k = g) (Fr.put (S := fun k => k = g) (Fr.put (S := fun k => k = g) (Fr.put (S := fun k => k = g) (Fr.refl (fun k => k = g) w) (p := ⟨g, o, none⟩) (.inl rfl) x) (p := ⟨g, o + 1, none⟩) (.inl rfl) y) (p := ⟨g, o + 2, none⟩) (.inl rfl) z) (p := ⟨g, o + 3, none⟩) (.inl rfl) u) (p := ⟨g, o + 4, none⟩) (.inl rfl) v
section
variable {base a gs cs : Nat} {vf : Value} {sl : List Slot} {fr : List Int} {live most : Int} {O : Nat → Prop}
/-- A slot's cell is laid anew, but for how many hold it. -/
theorem lay5 {W : World} (h : RawA W base a gs cs vf sl fr live most) (i : Nat) (s s' : Slot) (hs : sl[i]? = some s) (hr : s'.r = s.r) :
    RawA (((((W.setCell ⟨gs, i * 6 + 0, none⟩ (.int .u32 s'.ow)).setCell ⟨gs, i * 6 + 1, none⟩ (.int .u32 s'.a)).setCell ⟨gs, i * 6 + 2, none⟩ (.int .u32 s'.b)).setCell ⟨gs, i * 6 + 3, none⟩ s'.v).setCell ⟨gs, i * 6 + 4, none⟩ s'.k) base a gs cs vf (sl.set i s') fr live most := by
  have hi : i < sl.length := (List.getElem?_eq_some_iff.1 hs).1
  have at_ : ∀ (l : List Slot) (x : Slot), l.length = sl.length → (l.set i x)[i]? = some x := fun l x hl => by rw [List.getElem?_set_self (by omega)]
  have h0 := h.put i 0 (.int .u32 s'.ow) s ⟨s'.ow, s.a, s.b, s.v, s.k, s.r⟩ hs (by decide) rfl
  have h1 := h0.put i 1 (.int .u32 s'.a) _ ⟨s'.ow, s'.a, s.b, s.v, s.k, s.r⟩ (at_ _ _ rfl) (by decide) rfl
  have h2 := h1.put i 2 (.int .u32 s'.b) _ ⟨s'.ow, s'.a, s'.b, s.v, s.k, s.r⟩ (at_ _ _ (by simp)) (by decide) rfl
  have h3 := h2.put i 3 s'.v _ ⟨s'.ow, s'.a, s'.b, s'.v, s.k, s.r⟩ (at_ _ _ (by simp)) (by decide) rfl
  have h4 := h3.put i 4 s'.k _ s' (at_ _ _ (by simp)) (by decide) (by
    obtain ⟨a1, a2, a3, a4, a5, a6⟩ := s'
    replace hr : a6 = s.r := hr
    subst hr
    rfl)
  simpa only [List.set_set] using h4
set_option maxHeartbeats 4000000 in
set_option maxRecDepth 100000 in
theorem edit_ok (i : Nat) (o ow x y : Int) (v k : Value) (vals : List (Int × Int × ByteArray)) (kids : List Int) (s : Slot) (w : World) (h : RawA w base a gs cs vf sl fr live most) (hs : sl.length ≤ 1000000000) (hi : sl[i]? = some s) (hi0 : 0 < i) (hr : s.r = 1)
    (hv : RowIn kVal w O v vals) (hk : RowIn (Kd.int .i64) w O k kids) (hvl : vals.length * 32 ≤ 140737488355328) (hl : kids.length ≤ 1000000000) (hb : badAt sl kids = false)
    (ho : o ≠ 0) (hso : s.ow = o) :
    Calls Try.prog 28 #[.pointer (some ⟨a, 0, none⟩), .int .i64 i, .int .u32 o, cellV ow x y v k] w fun e w' => e = .returned (.int .i64 0) ∧ ∃ v' k', RawA w' base a gs cs vf (sl.set i ⟨o, x, y, v', k', 1⟩) fr live most ∧
      RowIn kVal w' (fun j => w.heap.size ≤ j) v' vals ∧ RowIn (Kd.int .i64) w' (fun j => w.heap.size ≤ j) k' kids ∧ Fr (fun j => j = gs) w w' := by
  have HVR := Lib.hid hv
  have HKR := Lib.hid hk
  obtain ⟨A1, c1, rfl, _⟩ := hv
  obtain ⟨A, c, rfl, _⟩ := hk
  have hil : i < sl.length := (List.getElem?_eq_some_iff.1 hi).1
  have HI := Lib.hid (is_raw (i : Int) (w.alloc (.cells #[.int .u32 ow, .int .u32 x, .int .u32 y, .slice A1 vals.length c1, .slice A kids.length c] 43)) (Raw.below h (below_alloc (Below.refl _ _) _)) hs)
  rw [isB_at hi hi0 (by omega)] at HI
  have hg : gs < w.heap.size := own_lt h.row gs rfl
  have HR := Lib.hid h
  have HIS := Lib.hid hi
  have HBB := Lib.hid hb
  have hs' : (sl.length : Int) ≤ 1000000000 := by omega
  have hil' : (i : Int) < (sl.length : Int) := by omega
  have b0' : (o == 0) = false := by simpa using ho
  have b1' : (s.ow != o) = false := by simpa using hso
  have b2 : ¬ 1 < s.r := by omega
  clear h hi hb
  go_enter Try.func28, Try.ntmps28
  go_wp2_with (first
    | (go_at_call 64; go_loud (refine (right_calls ow x y (.slice A1 vals.length c1) (.slice A kids.length c) kids _ (Raw.below HR.out HB.out) hs (HKR.out.below HB.out) hl).mono ?_; rw [HBB.out]; rintro e w2 ⟨rfl, hB2⟩; have HB2 := Lib.hid (below_step HB.out hB2); have HBX2 := Lib.hid (blk_below HBX.out hB2); clear hB2))
    | (go_at_call 68; go_loud (refine HI.out.mono ?_; rintro e w1 ⟨rfl, hB⟩; have hb1 := below_step (below_alloc (Below.refl w.heap.size w) (.cells #[.int .u32 ow, .int .u32 x, .int .u32 y, .slice A1 vals.length c1, .slice A kids.length c] 43)) hB; have hr1 := Raw.below HR.out hb1; have p0 := blk_cell hr1.obj 0; obtain ⟨t0, t1, t2, t3, t4, t5, _⟩ := six hr1 i _ HIS.out; have hbx := blk_below (blk_new w (.cells #[.int .u32 ow, .int .u32 x, .int .u32 y, .slice A1 vals.length c1, .slice A kids.length c] 43)) hB; have g0 := blk_cell hbx 0; have g1 := blk_cell hbx 1; have g2 := blk_cell hbx 2; have g3 := blk_cell hbx 3; have g4 := blk_cell hbx 4; have HB := Lib.hid hb1; have HBX := Lib.hid hbx; clear hr1 hb1 hB hbx)))
  have hd : Below w2.heap.size w2 w2.drew := below_drew1 (Below.refl _ _)
  have hb2 := below_step HB2.out hd
  have hr2 := Raw.below HR.out hb2
  have hbx2 := blk_below HBX2.out hd
  have ps0 := blk_cell hr2.obj 0
  have d0 := blk_cell hbx2 0
  have d1 := blk_cell hbx2 1
  have d2 := blk_cell hbx2 2
  have d3 := blk_cell hbx2 3
  have d4 := blk_cell hbx2 4
  have HR2 := Lib.hid hr2
  have HBX3 := Lib.hid hbx2
  have HB3 := Lib.hid hb2
  have HX := Lib.hid (HVR.out.below hb2)
  have HY := Lib.hid (HKR.out.below hb2)
  have hsz := hb2.size
  clear hd hb2 hr2 hbx2 p0 t0 t1 t2 t3 t4 t5 g0 g1 g2 g3 g4 HI
  refine start_ (n := 10) (S := fun w' => w'.cell? ⟨a, 0, none⟩ = some (.slice (some ⟨gs, 0, none⟩) sl.length cs) ∧ w'.cell? ⟨w.heap.size, 0, none⟩ = some (.int .u32 ow) ∧ w'.cell? ⟨w.heap.size, 1, none⟩ = some (.int .u32 x) ∧ w'.cell? ⟨w.heap.size, 2, none⟩ = some (.int .u32 y) ∧ w'.cell? ⟨w.heap.size, 3, none⟩ = some (.slice A1 vals.length c1) ∧ w'.cell? ⟨w.heap.size, 4, none⟩ = some (.slice A kids.length c)) (ds := [9]) #[false, false, false, false, false, false, false, false, false, false] (by kernel_rfl) rfl rfl ⟨ps0, d0, d1, d2, d3, d4⟩ (fun hHeld => ?_)
  refine pure_ (i := 0) (N := some 46) (v := ?_) (a' := ?_) #[true, false, false, false, false, false, false, false, false, false] rfl rfl (by kernel_rfl) (fun _ _ _ h => h) (Or.inl ⟨by rfl, ?_⟩) ?_ ?_
  rotate_left
  · intro w'
    go_simp
    with_reducible rfl
  rotate_left
  · simp only [Act.put, List.setIfInBounds_toArray, List.set_cons_zero, List.set_cons_succ, i64_w, i32_w]
    rfl
  refine pure_ (i := 1) (N := some 47) (v := ?_) (a' := ?_) #[true, true, false, false, false, false, false, false, false, false] rfl rfl (by kernel_rfl) (fun _ _ _ h => h) (Or.inl ⟨by rfl, ?_⟩) ?_ ?_
  rotate_left
  · intro w'
    go_simp
    with_reducible rfl
  rotate_left
  · simp only [Act.put, List.setIfInBounds_toArray, List.set_cons_zero, List.set_cons_succ, i64_w, i32_w]
    rfl
  refine pure_ (i := 2) (N := some 48) (v := ?_) (a' := ?_) #[true, true, true, false, false, false, false, false, false, false] rfl rfl (by kernel_rfl) (fun _ _ _ h => h) (Or.inl ⟨by rfl, ?_⟩) ?_ ?_
  rotate_left
  · intro w'
    go_simp
    with_reducible rfl
  rotate_left
  · simp only [Act.put, List.setIfInBounds_toArray, List.set_cons_zero, List.set_cons_succ, i64_w, i32_w]
    rfl
  refine pure_ (i := 4) (N := some 50) (v := ?_) (a' := ?_) #[true, true, true, false, true, false, false, false, false, false] rfl rfl (by kernel_rfl) (fun _ _ _ h => h) (Or.inl ⟨by rfl, ?_⟩) ?_ ?_
  rotate_left
  · intro w'
    go_simp
    with_reducible rfl
  rotate_left
  · simp only [Act.put, List.setIfInBounds_toArray, List.set_cons_zero, List.set_cons_succ, i64_w, i32_w]
    rfl
  refine take_ (i := 3) (N := some 49) (v := ?_) (a' := ?_) #[true, true, true, true, true, false, false, false, false, false] rfl rfl (by kernel_rfl) (fun _ _ _ h => h) (Or.inl ⟨by rfl, ?_⟩) hHeld ?_ ?_
  rotate_left
  · rintro w' ⟨s0, s1, s2, s3, s4, s5⟩
    go_simp
    with_reducible rfl
  rotate_left
  · simp only [Act.put, List.setIfInBounds_toArray, List.set_cons_zero, List.set_cons_succ, i64_w, i32_w]
    rfl
  refine take_ (i := 5) (N := some 51) (v := ?_) (a' := ?_) #[true, true, true, true, true, true, false, false, false, false] rfl rfl (by kernel_rfl) (fun _ _ _ h => h) (Or.inl ⟨by rfl, ?_⟩) hHeld ?_ ?_
  rotate_left
  · rintro w' ⟨s0, s1, s2, s3, s4, s5⟩
    go_simp
    with_reducible rfl
  rotate_left
  · simp only [Act.put, List.setIfInBounds_toArray, List.set_cons_zero, List.set_cons_succ, i64_w, i32_w]
    rfl
  refine one_ (i := 6) (N := some 52) #[true, true, true, true, true, true, true, false, false, false] rfl rfl (by kernel_rfl) (by decide) (fun K hK => ?_)
  refine goes_ Try.func65 (by kernel_rfl) rfl #[cellV ow x y (.slice A1 vals.length c1) (.slice A kids.length c)] (by rfl) rfl rfl (by simp only [List.map_toArray, List.map_cons, List.map_nil]; rfl) ?_
  with_reducible refine (own_calls ow x y _ _ vals kids _ HX.out HY.out hvl (by omega)).mono ?_
  rintro e w9 ⟨v', k', rfl, hv5, hk5, hB5⟩
  refine ⟨_, rfl, ?_⟩
  obtain ⟨A3, c3, e3, _⟩ := id hv5
  subst e3
  obtain ⟨A4, c5, e4, _⟩ := id hk5
  subst e4
  have hr5 := Raw.below HR2.out hB5
  have hb5 := blk_below HBX3.out hB5
  obtain ⟨t0, t1, t2, t3, t4, t5, u0, u1, u2, u3, u4, u5⟩ := six hr5 i _ HIS.out
  refine hK.out _ _ ⟨(blk_cell hr5.obj 0), (blk_cell hb5 0), (blk_cell hb5 1), (blk_cell hb5 2), (blk_cell hb5 3), (blk_cell hb5 4)⟩ (fun hHeld => ?_)
  clear hK K
  refine norm_ (a' := ?_) ?_ ?_
  rotate_left
  · show Act.put _ (some 52) _ = _
    simp only [Act.put, List.setIfInBounds_toArray, List.set_cons_zero, List.set_cons_succ, i64_w, i32_w]
    rfl
  refine pure_ (i := 7) (N := some 53) (v := ?_) (a' := ?_) #[true, true, true, true, true, true, true, true, false, false] rfl rfl (by kernel_rfl) (fun _ _ _ h => h) (Or.inl ⟨by rfl, ?_⟩) ?_ ?_
  rotate_left
  · intro w'
    go_simp
    with_reducible rfl
  rotate_left
  · simp only [Act.put, List.setIfInBounds_toArray, List.set_cons_zero, List.set_cons_succ, i64_w, i32_w]
    rfl
  refine pure_ (i := 8) (N := some 54) (v := ?_) (a' := ?_) #[true, true, true, true, true, true, true, true, true, false] rfl rfl (by kernel_rfl) (fun _ _ _ h => h) (Or.inl ⟨by rfl, ?_⟩) ?_ ?_
  rotate_left
  · intro w'
    go_simp
    with_reducible rfl
  rotate_left
  · simp only [Act.put, List.setIfInBounds_toArray, List.set_cons_zero, List.set_cons_succ, i64_w, i32_w]
    rfl
  refine last_ (i := 9) (N := none) #[true, true, true, true, true, true, true, true, true, true] rfl rfl (by kernel_rfl) (by decide) (fun K hK => ?_)
  refine skip_ (w1 := ?_) (by rfl) rfl ?_ ?_
  rotate_left
  · go_simp
    rfl
  refine hK.out _ _ ?_
  clear hK K
  refine done_ (by kernel_rfl) ?_

  have hr6 := lay5 hr5 i s ⟨ow, x, y, .slice A3 vals.length c3, .slice A4 kids.length c5, s.r⟩ HIS.out rfl
  have hF6 := frq5 w9 gs (i * 6) (.int .u32 ow) (.int .u32 x) (.int .u32 y) (.slice A3 vals.length c3) (.slice A4 kids.length c5)
  obtain ⟨W6, hW6⟩ : ∃ W6, (((((w9.setCell ⟨gs, i * 6, none⟩ (.int .u32 ow)).setCell ⟨gs, i * 6 + 1, none⟩ (.int .u32 x)).setCell ⟨gs, i * 6 + 2, none⟩ (.int .u32 y)).setCell ⟨gs, i * 6 + 3, none⟩ (.slice A3 vals.length c3)).setCell ⟨gs, i * 6 + 4, none⟩ (.slice A4 kids.length c5)) = W6 := ⟨_, rfl⟩
  rw [hW6] at hF6 ⊢
  replace hr6 : RawA W6 base a gs cs vf (sl.set i ⟨ow, x, y, .slice A3 vals.length c3, .slice A4 kids.length c5, s.r⟩) fr live most := by rw [← hW6]; exact hr6
  have hls : (sl.set i ⟨ow, x, y, .slice A3 vals.length c3, .slice A4 kids.length c5, s.r⟩)[i]? = some ⟨ow, x, y, .slice A3 vals.length c3, .slice A4 kids.length c5, s.r⟩ := List.getElem?_set_self hil
  obtain ⟨m0, _, _, _, _, _, n0, _⟩ := six hr6 i _ hls
  have mp0 := blk_cell hr6.obj 0
  rw [List.length_set] at mp0
  have hv6 := hv5.fr kVal_K hF6 (fun j hj e => by omega)
  have hk6 := hk5.fr kInt_K hF6 (fun j hj e => by omega)
  have HLS := Lib.hid hls
  have HR6 := Lib.hid hr6
  have HV6 := Lib.hid hv6
  have HK6 := Lib.hid hk6
  have HF6 := Lib.hid (Fr.then_ ((Fr.of_new HB3.out).more hB5) hF6 (fun j hj => .inl hj))
  have hz5 : w2.drew.heap.size ≤ w9.heap.size := hB5.size
  clear hHeld t0 t1 t2 t3 t4 t5 u0 u1 u2 u3 u4 u5 hr5 hb5 hr6 hv6 hk6 hv5 hk5 hF6 hB5 hls
  go_wp2
  go_ret
  have hF7 : Fr (· = gs) W6 (W6.setCell ⟨gs, i * 6, none⟩ (.int .u32 o)) := Fr.set gs _ _
  have hr7 := HR6.out.put i 0 (.int .u32 o) _ ⟨o, x, y, .slice A3 vals.length c3, .slice A4 kids.length c5, s.r⟩ HLS.out (by decide) rfl
  rw [List.set_set] at hr7
  rw [hr] at hr7
  refine ⟨rfl, _, _, hr7, (HV6.out.fr kVal_K hF7 (fun j hj e => by omega)).mono (fun j hj => by omega), (HK6.out.fr kInt_K hF7 (fun j hj e => by omega)).mono (fun j hj => by omega), HF6.out.then_ hF7 (fun j hj => .inl hj)⟩
end
end Go.Proofs.Ytnipbfhfaefieaa.Arn
