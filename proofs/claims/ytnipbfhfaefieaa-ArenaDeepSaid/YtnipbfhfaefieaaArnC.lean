/- arena: a cell of its own; Get; New. -/
import Derived.Test.YtnipbfhfaefieaaArnB
import Derived.Test.YtnipbfhfaefieaaCloneI
import Derived.Test.YtnipbfhfaefieaaCloneV
namespace Go.Proofs.Ytnipbfhfaefieaa.Arn
open Go.RowKit Go Go.Proofs.YtnipbfhfaefieaaW.PrintWords Go.Proofs.YtnipbfhfaefieaaW.PrintMore Go.Proofs.YtnipbfhfaefieaaW.PrintLast Go.Proofs.Ytnipbfhfaefieaa.Bts Go.Proofs.Ytnipbfhfaefieaa.Fra
/-- A cell as a value. -/
abbrev cellV (ow a b : Int) (v k : Value) : Value := .agg #[.int .u32 ow, .int .u32 a, .int .u32 b, v, k]
/-- A row that a call has laid. -/
theorem RowIn.of_R {α : Type} {d : Kd α} {W : World} {e base : Nat} {ok : Nat → Prop} {v : Value} {xs : List α} (h : d.R e W base ok v xs) : RowIn d W (fun k => base ≤ k) v xs := by
  obtain ⟨A, c, rfl, hl, hC⟩ := Kd.R_reads h
  obtain ⟨inner, ho⟩ := Kd.R_own h
  refine ⟨A, c, rfl, hl, fun hA => ?_, hC, fun ad hA => ⟨own_base ho ad.block (by rw [hA]; rfl), own_lt ho ad.block (by rw [hA]; rfl)⟩⟩
  rcases ho.2 with ⟨e, _⟩ | ⟨g, cap, cur, e, _⟩
  · injection e
  · injection e with e1
    rw [hA] at e1
    cases e1
theorem RowIn.below {α : Type} {d : Kd α} {W W' : World} {O : Nat → Prop} {v : Value} {xs : List α} (h : RowIn d W O v xs) (hb : Below W.heap.size W W') : RowIn d W' O v xs := by
  obtain ⟨A, c, e, h1, h2, h3, h4⟩ := h
  exact ⟨A, c, e, h1, h2, Kd.C_below h3 hb, fun ad ha => ⟨(h4 ad ha).1, Nat.lt_of_lt_of_le (h4 ad ha).2 hb.size⟩⟩
abbrev CellB (w : World) (b : Nat) (ow a c : Int) (v k : Value) : Prop := w.heap[b]? = some (.cells #[.int .u32 ow, .int .u32 a, .int .u32 c, v, k] 43 (0, 0))
theorem ret5 {g : Nat} {t : TypeId} {a b c d e : Value} {w : World} (h : w.heap[g]? = some (.cells #[a, b, c, d, e] t (0, 0))) (x y z u v : Value) :
    (((((w.setCell ⟨g, 0, none⟩ x).setCell ⟨g, 1, none⟩ y).setCell ⟨g, 2, none⟩ z).setCell ⟨g, 3, none⟩ u).setCell ⟨g, 4, none⟩ v).heap[g]? = some (.cells #[x, y, z, u, v] t (0, 0)) :=
  blk_put (blk_put (blk_put (blk_put (blk_put h 0 x rfl) 1 y rfl) 2 z rfl) 3 u rfl) 4 v rfl
theorem fr5 (w : World) (g : Nat) (x y z u v : Value) : Fr (· = g) w (((((w.setCell ⟨g, 0, none⟩ x).setCell ⟨g, 1, none⟩ y).setCell ⟨g, 2, none⟩ z).setCell ⟨g, 3, none⟩ u).setCell ⟨g, 4, none⟩ v) :=
  Fr.put (S := fun k => k = g) (Fr.put (S := fun k => k = g) (Fr.put (S := fun k => k = g) (Fr.put (S := fun k => k = g) (Fr.put (S := fun k => k = g) (Fr.refl (fun k => k = g) w) (p := ⟨g, 0, none⟩) (.inl rfl) x) (p := ⟨g, 1, none⟩) (.inl rfl) y) (p := ⟨g, 2, none⟩) (.inl rfl) z) (p := ⟨g, 3, none⟩) (.inl rfl) u) (p := ⟨g, 4, none⟩) (.inl rfl) v
theorem new1 (w : World) (o1 o2 : Obj) : ((w.alloc o1).alloc o2).heap[w.heap.size + 1]? = some o2 := by
  have h := blk_new (w.alloc o1) o2
  have e : (w.alloc o1).heap.size = w.heap.size + 1 := by simp
  rwa [e] at h
set_option maxHeartbeats 2000000 in
set_option maxRecDepth 100000 in
theorem own_calls {O : Nat → Prop} (ow a b : Int) (v k : Value) (vals : List (Int × Int × ByteArray)) (kids : List Int) (w : World) (hv : RowIn kVal w O v vals) (hk : RowIn (Kd.int .i64) w O k kids)
    (hvl : vals.length * 32 ≤ 140737488355328) (hkl : kids.length * 8 ≤ 140737488355328) :
    Calls Try.prog 65 #[cellV ow a b v k] w fun e w' => ∃ v' k', e = .returned (cellV ow a b v' k') ∧ RowIn kVal w' (fun j => w.heap.size ≤ j) v' vals ∧ RowIn (Kd.int .i64) w' (fun j => w.heap.size ≤ j) k' kids ∧ Below w.heap.size w w' := by
  obtain ⟨A1, c1, rfl, h1, n1, hC1, _⟩ := hv
  obtain ⟨A2, c2, rfl, h2, n2, hC2, _⟩ := hk
  have m1 : A1 = none → vals = [] ∧ c1 = 0 := fun e => by have := n1 e; subst this; exact ⟨List.length_eq_zero_iff.1 (by omega), rfl⟩
  have m2 : A2 = none → kids = [] ∧ c2 = 0 := fun e => by have := n2 e; subst this; exact ⟨List.length_eq_zero_iff.1 (by omega), rfl⟩
  have hB0 : Below w.heap.size w ((w.alloc (.cells #[.int .u32 ow, .int .u32 a, .int .u32 b, .slice A1 vals.length c1, .slice A2 kids.length c2] 43)).alloc (.cells #[.int .u32 0, .int .u32 0, .int .u32 0, .slice none 0 0, .slice none 0 0] 43)).drew := below_drew1 (below_alloc (below_alloc (Below.refl _ _) _) _)
  have hA := blk_drew (blk_alloc (blk_new w (.cells #[.int .u32 ow, .int .u32 a, .int .u32 b, .slice A1 vals.length c1, .slice A2 kids.length c2] 43)) (.cells #[.int .u32 0, .int .u32 0, .int .u32 0, .slice none 0 0, .slice none 0 0] 43))
  have hN := blk_drew (new1 w (.cells #[.int .u32 ow, .int .u32 a, .int .u32 b, .slice A1 vals.length c1, .slice A2 kids.length c2] 43) (.cells #[.int .u32 0, .int .u32 0, .int .u32 0, .slice none 0 0, .slice none 0 0] 43))
  have p3 := blk_cell hA 3
  have p4 := blk_cell hA 4
  have HB0 := Lib.hid hB0
  have HA := Lib.hid hA
  have HN := Lib.hid hN
  have HC1 := Lib.hid (Kd.C_below hC1 hB0)
  have HC2 := Lib.hid (Kd.C_below hC2 hB0)
  clear hC1 hC2 hA hB0 hN h1 h2 n1 n2
  go_enter Try.func65, Try.ntmps65
  go_wp2
  refine start_ (n := 10) (S := fun w' => w'.cell? ⟨w.heap.size, 3, none⟩ = some (.slice A1 vals.length c1) ∧ w'.cell? ⟨w.heap.size, 4, none⟩ = some (.slice A2 kids.length c2)) (ds := [7, 9]) #[false, false, false, false, false, false, false, false, false, false] (by kernel_rfl) rfl rfl ⟨p3, p4⟩ (fun hHeld => ?_)
  refine pure_ (i := 0) (N := some 3) (v := ?_) (a' := ?_) #[true, false, false, false, false, false, false, false, false, false] rfl rfl (by kernel_rfl) (fun _ _ _ h => h) (Or.inl ⟨by rfl, ?_⟩) ?_ ?_
  rotate_left
  · intro w'
    go_simp
    with_reducible rfl
  rotate_left
  · simp only [Act.put, List.setIfInBounds_toArray, List.set_cons_zero, List.set_cons_succ, i64_w, i32_w]
    rfl
  refine pure_ (i := 3) (N := some 6) (v := ?_) (a' := ?_) #[true, false, false, true, false, false, false, false, false, false] rfl rfl (by kernel_rfl) (fun _ _ _ h => h) (Or.inl ⟨by rfl, ?_⟩) ?_ ?_
  rotate_left
  · intro w'
    go_simp
    with_reducible rfl
  rotate_left
  · simp only [Act.put, List.setIfInBounds_toArray, List.set_cons_zero, List.set_cons_succ, i64_w, i32_w]
    rfl
  refine take_ (i := 1) (N := some 4) (v := ?_) (a' := ?_) #[true, true, false, true, false, false, false, false, false, false] rfl rfl (by kernel_rfl) (fun _ _ _ h => h) (Or.inl ⟨by rfl, ?_⟩) hHeld ?_ ?_
  rotate_left
  · rintro w' ⟨s0, s1⟩
    go_simp
    with_reducible rfl
  rotate_left
  · simp only [Act.put, List.setIfInBounds_toArray, List.set_cons_zero, List.set_cons_succ, i64_w, i32_w]
    rfl
  refine take_ (i := 4) (N := some 7) (v := ?_) (a' := ?_) #[true, true, false, true, true, false, false, false, false, false] rfl rfl (by kernel_rfl) (fun _ _ _ h => h) (Or.inl ⟨by rfl, ?_⟩) hHeld ?_ ?_
  rotate_left
  · rintro w' ⟨s0, s1⟩
    go_simp
    with_reducible rfl
  rotate_left
  · simp only [Act.put, List.setIfInBounds_toArray, List.set_cons_zero, List.set_cons_succ, i64_w, i32_w]
    rfl
  refine one_ (i := 2) (N := some 5) #[true, true, true, true, true, false, false, false, false, false] rfl rfl (by kernel_rfl) (by decide) (fun K hK => ?_)
  refine goes_ Try.func47 (by kernel_rfl) rfl #[.slice A1 vals.length c1] (by rfl) rfl rfl (by simp only [List.map_toArray, List.map_cons, List.map_nil]; rfl) ?_
  with_reducible refine (ClV.clone_vals A1 c1 vals _ HC1.out hvl m1).mono ?_
  rintro e w1 ⟨v1, rfl, hR1, hB1⟩
  refine ⟨_, rfl, ?_⟩
  obtain ⟨A3, c3, rfl⟩ := Kd.R_slice hR1
  refine hK.out _ _ ⟨(blk_cell (blk_below HA.out hB1) 3), (blk_cell (blk_below HA.out hB1) 4)⟩ (fun hHeld => ?_)
  clear hK K
  refine norm_ (a' := ?_) ?_ ?_
  rotate_left
  · show Act.put _ (some 5) _ = _
    simp only [Act.put, List.setIfInBounds_toArray, List.set_cons_zero, List.set_cons_succ, i64_w, i32_w]
    rfl
  refine pure_ (i := 6) (N := some 9) (v := ?_) (a' := ?_) #[true, true, true, true, true, false, true, false, false, false] rfl rfl (by kernel_rfl) (fun _ _ _ h => h) (Or.inl ⟨by rfl, ?_⟩) ?_ ?_
  rotate_left
  · intro w'
    go_simp
    with_reducible rfl
  rotate_left
  · simp only [Act.put, List.setIfInBounds_toArray, List.set_cons_zero, List.set_cons_succ, i64_w, i32_w]
    rfl
  refine one_ (i := 5) (N := some 8) #[true, true, true, true, true, true, true, false, false, false] rfl rfl (by kernel_rfl) (by decide) (fun K hK => ?_)
  refine goes_ Try.func75 (by kernel_rfl) rfl #[.slice A2 kids.length c2] (by rfl) rfl rfl (by simp only [List.map_toArray, List.map_cons, List.map_nil]; rfl) ?_
  with_reducible refine (ClI.clone_ints A2 c2 kids _ (Kd.C_below HC2.out hB1) hkl m2).mono ?_
  rintro e w2 ⟨v2, rfl, hR2, hB2⟩
  refine ⟨_, rfl, ?_⟩
  obtain ⟨A4, c4, rfl⟩ := Kd.R_slice hR2
  have hA2 := blk_below (blk_below HA.out hB1) hB2
  have f3 := blk_frozen hA2 3
  have f4 := blk_frozen hA2 4
  have g3 := blk_cell hA2 3
  have g4 := blk_cell hA2 4
  refine hK.out _ _ ⟨(blk_cell (blk_below (blk_below HA.out hB1) hB2) 3), (blk_cell (blk_below (blk_below HA.out hB1) hB2) 4)⟩ (fun hHeld => ?_)
  clear hK K
  refine norm_ (a' := ?_) ?_ ?_
  rotate_left
  · show Act.put _ (some 8) _ = _
    simp only [Act.put, List.setIfInBounds_toArray, List.set_cons_zero, List.set_cons_succ, i64_w, i32_w]
    rfl
  refine last_ (i := 7) (N := none) #[true, true, true, true, true, true, true, true, false, false] rfl rfl (by kernel_rfl) (by decide) (fun K hK => ?_)
  refine skip_ (w1 := ?_) (by rfl) rfl ?_ ?_
  rotate_left
  · go_simp
    rfl
  refine hK.out _ _ ?_
  clear hK K
  refine pure_ (i := 8) (N := some 10) (v := ?_) (a' := ?_) #[true, true, true, true, true, true, true, true, true, false] rfl rfl (by kernel_rfl) (fun _ _ _ h => h) (Or.inl ⟨by rfl, ?_⟩) ?_ ?_
  rotate_left
  · intro w'
    go_simp
    with_reducible rfl
  rotate_left
  · simp only [Act.put, List.setIfInBounds_toArray, List.set_cons_zero, List.set_cons_succ, i64_w, i32_w]
    rfl
  refine last_ (i := 9) (N := none) #[true, true, true, true, true, true, true, true, true, true] rfl rfl (by kernel_rfl) (by decide) (fun K hK => ?_)
  refine skip_ (w1 := ?_) (by rfl) rfl ?_ ?_
  rotate_left
  · go_simp
    rfl
  refine hK.out _ _ ?_
  clear hK K
  refine done_ (by kernel_rfl) ?_

  have hne : ¬ w.heap.size + 1 = w.heap.size := by omega
  have hA4 := blk_put (blk_put hA2 3 (.slice A3 vals.length c3) rfl) 4 (.slice A4 kids.length c4) rfl
  have hN4 := blk_far (blk_far (blk_below (blk_below HN.out hB1) hB2) (p := ⟨w.heap.size, 3, none⟩) hne (.slice A3 vals.length c3)) (p := ⟨w.heap.size, 4, none⟩) hne (.slice A4 kids.length c4)
  have q0 := blk_cell hA4 0
  have q1 := blk_cell hA4 1
  have q2 := blk_cell hA4 2
  have q3 := blk_cell hA4 3
  have q4 := blk_cell hA4 4
  have r0 := blk_cell hN4 0
  have r1 := blk_cell hN4 1
  have r2 := blk_cell hN4 2
  have r3 := blk_cell hN4 3
  have r4 := blk_cell hN4 4
  have z0 := blk_frozen hN4 0
  have z1 := blk_frozen hN4 1
  have z2 := blk_frozen hN4 2
  have z3 := blk_frozen hN4 3
  have z4 := blk_frozen hN4 4
  have HN4 := Lib.hid hN4
  have HB1 := Lib.hid hB1
  have HB2 := Lib.hid hB2
  have HR1 := Lib.hid hR1
  have HR2 := Lib.hid hR2
  clear hHeld hA2 hN4 hA4 f3 f4 g3 g4 p3 p4 hB1 hB2 hR1 hR2 hne
  go_wp2
  refine bodyPost_ret (results_cell_row rfl _ _ (w.heap.size + 1) 43 #[.int .u32 ow, .int .u32 a, .int .u32 b, .slice A3 vals.length c3, .slice A4 kids.length c4] (0, 0) _ rfl (ret5 HN4.out _ _ _ _ _) Try.underlying43 rfl (by kernel_rfl)) rfl ?_
  have hs : w.heap.size + 2 ≤ w2.heap.size := by
    have h1 := HB1.out.size
    have h2 := HB2.out.size
    simp at h1
    omega
  have hF : Fr (fun j => j = w.heap.size ∨ j = w.heap.size + 1) w2 _ := Fr.then_ (Fr.put (S := fun j => j = w.heap.size ∨ j = w.heap.size + 1) (Fr.put (S := fun j => j = w.heap.size ∨ j = w.heap.size + 1) (Fr.refl _ w2) (p := ⟨w.heap.size, 3, none⟩) (.inl (.inl rfl)) (.slice A3 vals.length c3)) (p := ⟨w.heap.size, 4, none⟩) (.inl (.inl rfl)) (.slice A4 kids.length c4)) (fr5 _ (w.heap.size + 1) (.int .u32 ow) (.int .u32 a) (.int .u32 b) (.slice A3 vals.length c3) (.slice A4 kids.length c4)) (fun j hj => .inl (.inr hj))
  have hsz : ((w.alloc (.cells #[.int .u32 ow, .int .u32 a, .int .u32 b, .slice A1 vals.length c1, .slice A2 kids.length c2] 43)).alloc (.cells #[.int .u32 0, .int .u32 0, .int .u32 0, .slice none 0 0, .slice none 0 0] 43)).drew.heap.size = w.heap.size + 2 := by simp
  have i1 := (RowIn.of_R HR1.out).below HB2.out
  have i2 := RowIn.of_R HR2.out
  have hs1 := HB1.out.size
  rw [hsz] at i1 hs1
  refine ⟨_, _, rfl, ?_, ?_, ?_⟩
  · exact (i1.fr kVal_K hF (fun j hj e => by omega)).mono (fun j hj => by omega)
  · exact (i2.fr kInt_K hF (fun j hj e => by omega)).mono (fun j hj => by omega)
  · exact Fr.below (S := fun j => j = w.heap.size ∨ j = w.heap.size + 1) (Fr.then_ (Fr.more (Fr.of_new HB0.out) HB1.out |>.more HB2.out) hF (fun j hj => .inl hj)) (fun j hj => by omega) (Nat.le_refl _)
abbrev zeroCell : Value := cellV 0 0 0 (.slice none 0 0) (.slice none 0 0)
abbrev zeroBlk : Obj := .cells #[.int .u32 0, .int .u32 0, .int .u32 0, .slice none 0 0, .slice none 0 0] 43
theorem get_nil (i : Int) (w : World) : Calls Try.prog 24 #[.pointer none, .int .i64 i] w fun e w' => e = .returned (.tuple #[zeroCell, .bool false]) ∧ Below w.heap.size w w' := by
  have HI := Lib.hid (is_nil i (w.alloc zeroBlk))
  go_enter Try.func24, Try.ntmps24
  go_wp2_with (go_at_call 68; go_loud (refine HI.out.mono ?_; rintro e w1 ⟨rfl, hB⟩; have hN := blk_below (blk_new w zeroBlk) hB; have r0 := blk_cell hN 0; have r1 := blk_cell hN 1; have r2 := blk_cell hN 2; have r3 := blk_cell hN 3; have r4 := blk_cell hN 4; have z0 := blk_frozen hN 0; have z1 := blk_frozen hN 1; have z2 := blk_frozen hN 2; have z3 := blk_frozen hN 3; have z4 := blk_frozen hN 4; have HN := Lib.hid hN; have HB := Lib.hid hB; clear hN hB))
  refine bodyPost_ret (results_ct rfl _ _ w.heap.size 43 #[.int .u32 0, .int .u32 0, .int .u32 0, .slice none 0 0, .slice none 0 0] (0, 0) _ rfl (ret5 HN.out _ _ _ _ _) Try.underlying43 rfl (by kernel_rfl)) rfl ?_
  exact ⟨rfl, Fr.below (S := fun j => j = w.heap.size) (Fr.then_ (Fr.more (Fr.of_new (below_alloc (Below.refl _ _) zeroBlk)) HB.out) (fr5 w1 w.heap.size _ _ _ _ _) (fun j hj => .inl hj)) (fun j hj => by omega) (Nat.le_refl _)⟩
section
variable {base a gs cs : Nat} {vf : Value} {sl : List Slot} {fr : List Int} {live most : Int}
theorem Raw.below {w w' : World} (h : RawA w base a gs cs vf sl fr live most) (hb : Below w.heap.size w w') : RawA w' base a gs cs vf sl fr live most := h.kept (Fr.of_new (S := fun _ => False) hb) id id (fun _ _ => id)
theorem get_none (i : Int) (w : World) (h : RawA w base a gs cs vf sl fr live most) (hs : sl.length ≤ 1000000000) (hi : isB sl i = false) :
    Calls Try.prog 24 #[.pointer (some ⟨a, 0, none⟩), .int .i64 i] w fun e w' => e = .returned (.tuple #[zeroCell, .bool false]) ∧ Below w.heap.size w w' := by
  have HI := Lib.hid (is_raw i (w.alloc zeroBlk) (Raw.below h (below_alloc (Below.refl _ _) _)) hs)
  rw [hi] at HI
  go_enter Try.func24, Try.ntmps24
  go_wp2_with (go_at_call 68; go_loud (refine HI.out.mono ?_; rintro e w1 ⟨rfl, hB⟩; have hN := blk_below (blk_new w zeroBlk) hB; have r0 := blk_cell hN 0; have r1 := blk_cell hN 1; have r2 := blk_cell hN 2; have r3 := blk_cell hN 3; have r4 := blk_cell hN 4; have z0 := blk_frozen hN 0; have z1 := blk_frozen hN 1; have z2 := blk_frozen hN 2; have z3 := blk_frozen hN 3; have z4 := blk_frozen hN 4; have HN := Lib.hid hN; have HB := Lib.hid hB; clear hN hB))
  refine bodyPost_ret (results_ct rfl _ _ w.heap.size 43 #[.int .u32 0, .int .u32 0, .int .u32 0, .slice none 0 0, .slice none 0 0] (0, 0) _ rfl (ret5 HN.out _ _ _ _ _) Try.underlying43 rfl (by kernel_rfl)) rfl ?_
  exact ⟨rfl, Fr.below (S := fun j => j = w.heap.size) (Fr.then_ (Fr.more (Fr.of_new (below_alloc (Below.refl _ _) zeroBlk)) HB.out) (fr5 w1 w.heap.size _ _ _ _ _) (fun j hj => .inl hj)) (fun j hj => by omega) (Nat.le_refl _)⟩
set_option maxHeartbeats 2000000 in
theorem get_raw {V : Nat → Prop} (k : Nat) (s : Slot) (vals : List (Int × Int × ByteArray)) (kids : List Int) (w : World) (h : RawA w base a gs cs vf sl fr live most) (hs : sl.length ≤ 1000000000) (hk : sl[k]? = some s) (h0 : 0 < k) (hr : 0 < s.r)
    (hv : RowIn kVal w V s.v vals) (hkk : RowIn (Kd.int .i64) w V s.k kids) (hvl : vals.length * 32 ≤ 140737488355328) (hkl : kids.length * 8 ≤ 140737488355328) :
    Calls Try.prog 24 #[.pointer (some ⟨a, 0, none⟩), .int .i64 k] w fun e w' => ∃ v' k', e = .returned (.tuple #[cellV s.ow s.a s.b v' k', .bool true]) ∧ RowIn kVal w' (fun j => w.heap.size ≤ j) v' vals ∧ RowIn (Kd.int .i64) w' (fun j => w.heap.size ≤ j) k' kids ∧ Below w.heap.size w w' := by
  have hl : k < sl.length := (List.getElem?_eq_some_iff.1 hk).1
  have hi := is_raw (k : Int) (w.alloc zeroBlk) (Raw.below h (below_alloc (Below.refl _ _) _)) hs
  rw [isB_at hk h0 hr] at hi
  have HI := Lib.hid hi
  have HR := Lib.hid h
  have HK := Lib.hid hk
  have HV := Lib.hid hv
  have HKK := Lib.hid hkk
  have hs' : (sl.length : Int) ≤ 1000000000 := by omega
  clear h hi hk hv hkk
  obtain ⟨so, sa, sb, sv, sk, sr⟩ := s
  obtain ⟨A1, c1, e1, _⟩ := HV.out
  obtain ⟨A2, c2, e2, _⟩ := HKK.out
  have e1 : sv = .slice A1 vals.length c1 := e1
  have e2 : sk = .slice A2 kids.length c2 := e2
  subst e1 e2
  go_enter Try.func24, Try.ntmps24
  go_wp2_with (first
    | (go_at_call 65; go_loud (refine (own_calls (O := V) so sa sb (.slice A1 vals.length c1) (.slice A2 kids.length c2) vals kids _ (HV1.out) (HKK1.out) hvl hkl).mono ?_; rintro e w2 ⟨v', k', rfl, hv2, hk2, hB2⟩; obtain ⟨A3, c3, e3, _⟩ := id hv2; subst e3; obtain ⟨A4, c4, e4, _⟩ := id hk2; subst e4; have hN := blk_below HN1.out hB2; have r0 := blk_cell hN 0; have r1 := blk_cell hN 1; have r2 := blk_cell hN 2; have r3 := blk_cell hN 3; have r4 := blk_cell hN 4; have z0 := blk_frozen hN 0; have z1 := blk_frozen hN 1; have z2 := blk_frozen hN 2; have z3 := blk_frozen hN 3; have z4 := blk_frozen hN 4; have HN2 := Lib.hid hN; have HB2 := Lib.hid hB2; have HV2 := Lib.hid hv2; have HK2 := Lib.hid hk2; clear hN hB2 hv2 hk2))
    | (go_at_call 68; go_loud (refine HI.out.mono ?_; rintro e w1 ⟨rfl, hB⟩; have hb1 := below_step (below_alloc (Below.refl w.heap.size w) zeroBlk) hB; have hr1 := Raw.below HR.out hb1; have p0 := blk_cell hr1.obj 0; have q0 : w1.cell? ⟨gs, k * 6, none⟩ = some (.int .u32 so) := hr1.cell k _ HK.out 0 (by decide); have q1 : w1.cell? ⟨gs, k * 6 + 1, none⟩ = some (.int .u32 sa) := hr1.cell k _ HK.out 1 (by decide); have q2 : w1.cell? ⟨gs, k * 6 + 2, none⟩ = some (.int .u32 sb) := hr1.cell k _ HK.out 2 (by decide); have q3 : w1.cell? ⟨gs, k * 6 + 3, none⟩ = some (.slice A1 vals.length c1) := hr1.cell k _ HK.out 3 (by decide); have q4 : w1.cell? ⟨gs, k * 6 + 4, none⟩ = some (.slice A2 kids.length c2) := hr1.cell k _ HK.out 4 (by decide); have HN1 := Lib.hid (blk_below (blk_new w zeroBlk) hB); have HV1 := Lib.hid (HV.out.below hb1); have HKK1 := Lib.hid (HKK.out.below hb1); have HB := Lib.hid hb1; clear hr1 hB hb1)))
  refine bodyPost_ret (results_ct rfl _ _ w.heap.size 43 #[.int .u32 so, .int .u32 sa, .int .u32 sb, .slice A3 vals.length c3, .slice A4 kids.length c4] (0, 0) _ rfl (ret5 HN2.out _ _ _ _ _) Try.underlying43 rfl (by kernel_rfl)) rfl ?_
  have hf := fr5 w2 w.heap.size (.int .u32 so) (.int .u32 sa) (.int .u32 sb) (.slice A3 vals.length c3) (.slice A4 kids.length c4)
  have hz : w.heap.size < w1.heap.size := blk_lt HN1.out
  refine ⟨_, _, rfl, (HV2.out.fr kVal_K hf (fun j hj e => by omega)).mono (fun j hj => by omega), (HK2.out.fr kInt_K hf (fun j hj e => by omega)).mono (fun j hj => by omega), ?_⟩
  exact Fr.below (S := fun j => j = w.heap.size) (Fr.then_ (Fr.more (Fr.of_new HB.out) HB2.out) hf (fun j hj => .inl hj)) (fun j hj => by omega) (Nat.le_refl _)
end
end Go.Proofs.Ytnipbfhfaefieaa.Arn
