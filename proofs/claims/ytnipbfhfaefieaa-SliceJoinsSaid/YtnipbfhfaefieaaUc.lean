/- Texts of this claim, laid together: ArnC, ArnD, ArnE. -/
import Derived.Test.YtnipbfhfaefieaaUb
/-! arena: a cell of its own; Get; New. -/
namespace Go.Proofs.Ytnipbfhfaefieaa.Arn
open Go.RowKit Go Go.Proofs.YtnipbfhfaefieaaW.PrintWords Go.Proofs.YtnipbfhfaefieaaW.PrintMore Go.Proofs.YtnipbfhfaefieaaW.PrintLast Go.Proofs.Ytnipbfhfaefieaa.Bts Go.Proofs.Ytnipbfhfaefieaa.Fra
/-- A cell as a value. -/
abbrev cellV (ow a b : Int) (v k : Value) : Value := .agg #[.int .u32 ow, .int .u32 a, .int .u32 b, v, k]
/-- A row that a call has laid. -/
theorem RowIn.of_R {α : Type} {d : Kd α} {W : World} {e base : Nat} {ok : Nat → Prop} {v : Value} {xs : List α} (h : d.R e W base ok v xs) : RowIn d W (fun k => base ≤ k) v xs := by
  obtain ⟨A, c, rfl, hl, hC⟩ := Kd.R_reads h
  obtain ⟨inner, ho⟩ := Kd.R_own h
  refine ⟨A, c, rfl, hl, fun hA => ?_, hC, fun ad hA => ⟨own_base ho ad.block (by rw [hA]; rfl), own_lt ho ad.block (by rw [hA]; rfl)⟩⟩
  rcases ho.2 with ⟨e, _⟩ | ⟨g, cap, cur, e, _⟩
  · injection e
  · injection e with e1
    rw [hA] at e1
    cases e1
theorem RowIn.below {α : Type} {d : Kd α} {W W' : World} {O : Nat → Prop} {v : Value} {xs : List α} (h : RowIn d W O v xs) (hb : Below W.heap.size W W') : RowIn d W' O v xs := by
  obtain ⟨A, c, e, h1, h2, h3, h4⟩ := h
  exact ⟨A, c, e, h1, h2, Kd.C_below h3 hb, fun ad ha => ⟨(h4 ad ha).1, Nat.lt_of_lt_of_le (h4 ad ha).2 hb.size⟩⟩
theorem ret5 {g : Nat} {t : TypeId} {a b c d e : Value} {w : World} (h : w.heap[g]? = some (.cells #[a, b, c, d, e] t (0, 0))) (x y z u v : Value) :
    (((((w.setCell ⟨g, 0, none⟩ x).setCell ⟨g, 1, none⟩ y).setCell ⟨g, 2, none⟩ z).setCell ⟨g, 3, none⟩ u).setCell ⟨g, 4, none⟩ v).heap[g]? = some (.cells #[x, y, z, u, v] t (0, 0)) :=
  blk_put (blk_put (blk_put (blk_put (blk_put h 0 x rfl) 1 y rfl) 2 z rfl) 3 u rfl) 4 v rfl
theorem fr5 (w : World) (g : Nat) (x y z u v : Value) : Fr (· = g) w (((((w.setCell ⟨g, 0, none⟩ x).setCell ⟨g, 1, none⟩ y).setCell ⟨g, 2, none⟩ z).setCell ⟨g, 3, none⟩ u).setCell ⟨g, 4, none⟩ v) :=
  Fr.put (S := fun k => k = g) (Fr.put (S := fun k => k = g) (Fr.put (S := fun k => k = g) (Fr.put (S := fun k => k = g) (Fr.put (S := fun k => k = g) (Fr.refl (fun k => k = g) w) (p := ⟨g, 0, none⟩) (.inl rfl) x) (p := ⟨g, 1, none⟩) (.inl rfl) y) (p := ⟨g, 2, none⟩) (.inl rfl) z) (p := ⟨g, 3, none⟩) (.inl rfl) u) (p := ⟨g, 4, none⟩) (.inl rfl) v
/-- Values, and numbers, in a row that a call has laid. -/
abbrev VR (w : World) (base : Nat) (v : Value) (xs : List (Int × Int × ByteArray)) : Prop := kVal.R 66 w base (fun j => base ≤ j) v xs
abbrev KR (w : World) (base : Nat) (v : Value) (xs : List Int) : Prop := (Kd.int .i64).R 3 w base (fun j => base ≤ j) v xs
theorem new1 (w : World) (o1 o2 : Obj) : ((w.alloc o1).alloc o2).heap[w.heap.size + 1]? = some o2 := by
  have h := blk_new (w.alloc o1) o2
  have e : (w.alloc o1).heap.size = w.heap.size + 1 := by simp
  rwa [e] at h
set_option maxHeartbeats 2000000 in
set_option maxRecDepth 100000 in
theorem own_R {O : Nat → Prop} (ow a b : Int) (v k : Value) (vals : List (Int × Int × ByteArray)) (kids : List Int) (w : World) (hv : RowIn kVal w O v vals) (hk : RowIn (Kd.int .i64) w O k kids)
    (hvl : vals.length * 32 ≤ 140737488355328) (hkl : kids.length * 8 ≤ 140737488355328) :
    Calls Try.prog 65 #[cellV ow a b v k] w fun e w' => ∃ v' k', e = .returned (cellV ow a b v' k') ∧ VR w' w.heap.size v' vals ∧ KR w' w.heap.size k' kids ∧ (∀ j, v'.ownBlock = some j → k'.ownBlock ≠ some j) ∧ Below w.heap.size w w' := by
  obtain ⟨A1, c1, rfl, h1, n1, hC1, _⟩ := hv
  obtain ⟨A2, c2, rfl, h2, n2, hC2, _⟩ := hk
  have m1 : A1 = none → vals = [] ∧ c1 = 0 := fun e => by have := n1 e; subst this; exact ⟨List.length_eq_zero_iff.1 (by omega), rfl⟩
  have m2 : A2 = none → kids = [] ∧ c2 = 0 := fun e => by have := n2 e; subst this; exact ⟨List.length_eq_zero_iff.1 (by omega), rfl⟩
  have hB0 : Below w.heap.size w ((w.alloc (.cells #[.int .u32 ow, .int .u32 a, .int .u32 b, .slice A1 vals.length c1, .slice A2 kids.length c2] 43)).alloc (.cells #[.int .u32 0, .int .u32 0, .int .u32 0, .slice none 0 0, .slice none 0 0] 43)).drew := below_drew1 (below_alloc (below_alloc (Below.refl _ _) _) _)
  have hA := blk_drew (blk_alloc (blk_new w (.cells #[.int .u32 ow, .int .u32 a, .int .u32 b, .slice A1 vals.length c1, .slice A2 kids.length c2] 43)) (.cells #[.int .u32 0, .int .u32 0, .int .u32 0, .slice none 0 0, .slice none 0 0] 43))
  have hN := blk_drew (new1 w (.cells #[.int .u32 ow, .int .u32 a, .int .u32 b, .slice A1 vals.length c1, .slice A2 kids.length c2] 43) (.cells #[.int .u32 0, .int .u32 0, .int .u32 0, .slice none 0 0, .slice none 0 0] 43))
  have p3 := blk_cell hA 3
  have p4 := blk_cell hA 4
  have HB0 := Lib.hid hB0
  have HA := Lib.hid hA
  have HN := Lib.hid hN
  have HC1 := Lib.hid (Kd.C_below hC1 hB0)
  have HC2 := Lib.hid (Kd.C_below hC2 hB0)
  clear hC1 hC2 hA hB0 hN h1 h2 n1 n2
  go_enter Try.func65, Try.ntmps65
  go_wp2
  refine start_ (n := 10) (S := fun w' => w'.cell? ⟨w.heap.size, 3, none⟩ = some (.slice A1 vals.length c1) ∧ w'.cell? ⟨w.heap.size, 4, none⟩ = some (.slice A2 kids.length c2)) (ds := [7, 9]) #[false, false, false, false, false, false, false, false, false, false] (by kernel_rfl) rfl rfl ⟨p3, p4⟩ (fun hHeld => ?_)
  refine pure_ (i := 0) (N := some 3) (v := ?_) (a' := ?_) #[true, false, false, false, false, false, false, false, false, false] rfl rfl (by kernel_rfl) (fun _ _ _ h => h) (Or.inl ⟨by rfl, ?_⟩) ?_ ?_
  rotate_left
  · intro w'
    go_simp
    with_reducible rfl
  rotate_left
  · simp only [Act.put, List.setIfInBounds_toArray, List.set_cons_zero, List.set_cons_succ, i64_w, i32_w]
    rfl
  refine pure_ (i := 3) (N := some 6) (v := ?_) (a' := ?_) #[true, false, false, true, false, false, false, false, false, false] rfl rfl (by kernel_rfl) (fun _ _ _ h => h) (Or.inl ⟨by rfl, ?_⟩) ?_ ?_
  rotate_left
  · intro w'
    go_simp
    with_reducible rfl
  rotate_left
  · simp only [Act.put, List.setIfInBounds_toArray, List.set_cons_zero, List.set_cons_succ, i64_w, i32_w]
    rfl
  refine take_ (i := 1) (N := some 4) (v := ?_) (a' := ?_) #[true, true, false, true, false, false, false, false, false, false] rfl rfl (by kernel_rfl) (fun _ _ _ h => h) (Or.inl ⟨by rfl, ?_⟩) hHeld ?_ ?_
  rotate_left
  · rintro w' ⟨s0, s1⟩
    go_simp
    with_reducible rfl
  rotate_left
  · simp only [Act.put, List.setIfInBounds_toArray, List.set_cons_zero, List.set_cons_succ, i64_w, i32_w]
    rfl
  refine take_ (i := 4) (N := some 7) (v := ?_) (a' := ?_) #[true, true, false, true, true, false, false, false, false, false] rfl rfl (by kernel_rfl) (fun _ _ _ h => h) (Or.inl ⟨by rfl, ?_⟩) hHeld ?_ ?_
  rotate_left
  · rintro w' ⟨s0, s1⟩
    go_simp
    with_reducible rfl
  rotate_left
  · simp only [Act.put, List.setIfInBounds_toArray, List.set_cons_zero, List.set_cons_succ, i64_w, i32_w]
    rfl
  refine one_ (i := 2) (N := some 5) #[true, true, true, true, true, false, false, false, false, false] rfl rfl (by kernel_rfl) (by decide) (fun K hK => ?_)
  refine goes_ Try.func47 (by kernel_rfl) rfl #[.slice A1 vals.length c1] (by rfl) rfl rfl (by simp only [List.map_toArray, List.map_cons, List.map_nil]; rfl) ?_
  with_reducible refine (ClV.clone_vals A1 c1 vals _ HC1.out hvl m1).mono ?_
  rintro e w1 ⟨v1, rfl, hR1, hB1⟩
  refine ⟨_, rfl, ?_⟩
  obtain ⟨A3, c3, rfl⟩ := Kd.R_slice hR1
  refine hK.out _ _ ⟨(blk_cell (blk_below HA.out hB1) 3), (blk_cell (blk_below HA.out hB1) 4)⟩ (fun hHeld => ?_)
  clear hK K
  refine norm_ (a' := ?_) ?_ ?_
  rotate_left
  · show Act.put _ (some 5) _ = _
    simp only [Act.put, List.setIfInBounds_toArray, List.set_cons_zero, List.set_cons_succ, i64_w, i32_w]
    rfl
  refine pure_ (i := 6) (N := some 9) (v := ?_) (a' := ?_) #[true, true, true, true, true, false, true, false, false, false] rfl rfl (by kernel_rfl) (fun _ _ _ h => h) (Or.inl ⟨by rfl, ?_⟩) ?_ ?_
  rotate_left
  · intro w'
    go_simp
    with_reducible rfl
  rotate_left
  · simp only [Act.put, List.setIfInBounds_toArray, List.set_cons_zero, List.set_cons_succ, i64_w, i32_w]
    rfl
  refine one_ (i := 5) (N := some 8) #[true, true, true, true, true, true, true, false, false, false] rfl rfl (by kernel_rfl) (by decide) (fun K hK => ?_)
  refine goes_ Try.func75 (by kernel_rfl) rfl #[.slice A2 kids.length c2] (by rfl) rfl rfl (by simp only [List.map_toArray, List.map_cons, List.map_nil]; rfl) ?_
  with_reducible refine (ClI.clone_ints A2 c2 kids _ (Kd.C_below HC2.out hB1) hkl m2).mono ?_
  rintro e w2 ⟨v2, rfl, hR2, hB2⟩
  refine ⟨_, rfl, ?_⟩
  obtain ⟨A4, c4, rfl⟩ := Kd.R_slice hR2
  have hA2 := blk_below (blk_below HA.out hB1) hB2
  have f3 := blk_frozen hA2 3
  have f4 := blk_frozen hA2 4
  have g3 := blk_cell hA2 3
  have g4 := blk_cell hA2 4
  refine hK.out _ _ ⟨(blk_cell (blk_below (blk_below HA.out hB1) hB2) 3), (blk_cell (blk_below (blk_below HA.out hB1) hB2) 4)⟩ (fun hHeld => ?_)
  clear hK K
  refine norm_ (a' := ?_) ?_ ?_
  rotate_left
  · show Act.put _ (some 8) _ = _
    simp only [Act.put, List.setIfInBounds_toArray, List.set_cons_zero, List.set_cons_succ, i64_w, i32_w]
    rfl
  refine last_ (i := 7) (N := none) #[true, true, true, true, true, true, true, true, false, false] rfl rfl (by kernel_rfl) (by decide) (fun K hK => ?_)
  refine skip_ (w1 := ?_) (by rfl) rfl ?_ ?_
  rotate_left
  · go_simp
    rfl
  refine hK.out _ _ ?_
  clear hK K
  refine pure_ (i := 8) (N := some 10) (v := ?_) (a' := ?_) #[true, true, true, true, true, true, true, true, true, false] rfl rfl (by kernel_rfl) (fun _ _ _ h => h) (Or.inl ⟨by rfl, ?_⟩) ?_ ?_
  rotate_left
  · intro w'
    go_simp
    with_reducible rfl
  rotate_left
  · simp only [Act.put, List.setIfInBounds_toArray, List.set_cons_zero, List.set_cons_succ, i64_w, i32_w]
    rfl
  refine last_ (i := 9) (N := none) #[true, true, true, true, true, true, true, true, true, true] rfl rfl (by kernel_rfl) (by decide) (fun K hK => ?_)
  refine skip_ (w1 := ?_) (by rfl) rfl ?_ ?_
  rotate_left
  · go_simp
    rfl
  refine hK.out _ _ ?_
  clear hK K
  refine done_ (by kernel_rfl) ?_

  have hne : ¬ w.heap.size + 1 = w.heap.size := by omega
  have hA4 := blk_put (blk_put hA2 3 (.slice A3 vals.length c3) rfl) 4 (.slice A4 kids.length c4) rfl
  have hN4 := blk_far (blk_far (blk_below (blk_below HN.out hB1) hB2) (p := ⟨w.heap.size, 3, none⟩) hne (.slice A3 vals.length c3)) (p := ⟨w.heap.size, 4, none⟩) hne (.slice A4 kids.length c4)
  have q0 := blk_cell hA4 0
  have q1 := blk_cell hA4 1
  have q2 := blk_cell hA4 2
  have q3 := blk_cell hA4 3
  have q4 := blk_cell hA4 4
  have r0 := blk_cell hN4 0
  have r1 := blk_cell hN4 1
  have r2 := blk_cell hN4 2
  have r3 := blk_cell hN4 3
  have r4 := blk_cell hN4 4
  have z0 := blk_frozen hN4 0
  have z1 := blk_frozen hN4 1
  have z2 := blk_frozen hN4 2
  have z3 := blk_frozen hN4 3
  have z4 := blk_frozen hN4 4
  have HN4 := Lib.hid hN4
  have HB1 := Lib.hid hB1
  have HB2 := Lib.hid hB2
  have HR1 := Lib.hid hR1
  have HR2 := Lib.hid hR2
  clear hHeld hA2 hN4 hA4 f3 f4 g3 g4 p3 p4 hB1 hB2 hR1 hR2 hne
  go_wp2
  refine bodyPost_ret (results_cell_row rfl _ _ (w.heap.size + 1) 43 #[.int .u32 ow, .int .u32 a, .int .u32 b, .slice A3 vals.length c3, .slice A4 kids.length c4] (0, 0) _ rfl (ret5 HN4.out _ _ _ _ _) Try.underlying43 rfl (by kernel_rfl)) rfl ?_
  have hs : w.heap.size + 2 ≤ w2.heap.size := by
    have h1 := HB1.out.size
    have h2 := HB2.out.size
    simp at h1
    omega
  have hF : Fr (fun j => j = w.heap.size ∨ j = w.heap.size + 1) w2 _ := Fr.then_ (Fr.put (S := fun j => j = w.heap.size ∨ j = w.heap.size + 1) (Fr.put (S := fun j => j = w.heap.size ∨ j = w.heap.size + 1) (Fr.refl _ w2) (p := ⟨w.heap.size, 3, none⟩) (.inl (.inl rfl)) (.slice A3 vals.length c3)) (p := ⟨w.heap.size, 4, none⟩) (.inl (.inl rfl)) (.slice A4 kids.length c4)) (fr5 _ (w.heap.size + 1) (.int .u32 ow) (.int .u32 a) (.int .u32 b) (.slice A3 vals.length c3) (.slice A4 kids.length c4)) (fun j hj => .inl (.inr hj))
  have hsz : ((w.alloc (.cells #[.int .u32 ow, .int .u32 a, .int .u32 b, .slice A1 vals.length c1, .slice A2 kids.length c2] 43)).alloc (.cells #[.int .u32 0, .int .u32 0, .int .u32 0, .slice none 0 0, .slice none 0 0] 43)).drew.heap.size = w.heap.size + 2 := by simp
  have hs1 := HB1.out.size
  rw [hsz] at hs1
  have b1 : ∀ j, (Value.slice A3 vals.length c3).ownBlock = some j → w.heap.size + 2 ≤ j ∧ j < w1.heap.size := fun j hj => by
    obtain ⟨inner, ho⟩ := Kd.R_own HR1.out
    have := own_base ho j hj
    rw [hsz] at this
    exact ⟨this, own_lt ho j hj⟩
  have b2 : ∀ j, (Value.slice A4 kids.length c4).ownBlock = some j → w1.heap.size ≤ j := fun j hj => by
    obtain ⟨inner, ho⟩ := Kd.R_own HR2.out
    exact own_base ho j hj
  have i1 := Kd.R_reok (ok := fun j => w.heap.size + 2 ≤ j) rfl (Kd.R_below HR1.out HB2.out) (fun j hj => (b1 j hj).1)
  have i2 := Kd.R_reok (ok := fun j => w.heap.size + 2 ≤ j) rfl HR2.out (fun j hj => by have := b2 j hj; omega)
  refine ⟨_, _, rfl, ?_, ?_, fun j hj hj2 => by have := b1 j hj; have := b2 j hj2; omega, ?_⟩
  · exact Kd.R_lower (Kd.R_mono (Kd.R_kept i1 hF.kept (fun j hj e => by omega)) (fun j hj => by omega)) (by rw [hsz]; omega)
  · exact Kd.R_lower (Kd.R_mono (Kd.R_kept i2 hF.kept (fun j hj e => by omega)) (fun j hj => by omega)) (by omega)
  · exact Fr.below (S := fun j => j = w.heap.size ∨ j = w.heap.size + 1) (Fr.then_ (Fr.more (Fr.of_new HB0.out) HB1.out |>.more HB2.out) hF (fun j hj => .inl hj)) (fun j hj => by omega) (Nat.le_refl _)
theorem own_calls {O : Nat → Prop} (ow a b : Int) (v k : Value) (vals : List (Int × Int × ByteArray)) (kids : List Int) (w : World) (hv : RowIn kVal w O v vals) (hk : RowIn (Kd.int .i64) w O k kids)
    (hvl : vals.length * 32 ≤ 140737488355328) (hkl : kids.length * 8 ≤ 140737488355328) :
    Calls Try.prog 65 #[cellV ow a b v k] w fun e w' => ∃ v' k', e = .returned (cellV ow a b v' k') ∧ RowIn kVal w' (fun j => w.heap.size ≤ j) v' vals ∧ RowIn (Kd.int .i64) w' (fun j => w.heap.size ≤ j) k' kids ∧ Below w.heap.size w w' :=
  (own_R ow a b v k vals kids w hv hk hvl hkl).mono fun _ _ ⟨v', k', h1, h2, h3, _, h5⟩ => ⟨v', k', h1, RowIn.of_R h2, RowIn.of_R h3, h5⟩
abbrev zeroCell : Value := cellV 0 0 0 (.slice none 0 0) (.slice none 0 0)
abbrev zeroBlk : Obj := .cells #[.int .u32 0, .int .u32 0, .int .u32 0, .slice none 0 0, .slice none 0 0] 43
theorem get_nil (i : Int) (w : World) : Calls Try.prog 24 #[.pointer none, .int .i64 i] w fun e w' => e = .returned (.tuple #[zeroCell, .bool false]) ∧ Below w.heap.size w w' := by
  have HI := Lib.hid (is_nil i (w.alloc zeroBlk))
  go_enter Try.func24, Try.ntmps24
  go_wp2_with (go_at_call 68; go_loud (refine HI.out.mono ?_; rintro e w1 ⟨rfl, hB⟩; have hN := blk_below (blk_new w zeroBlk) hB; have r0 := blk_cell hN 0; have r1 := blk_cell hN 1; have r2 := blk_cell hN 2; have r3 := blk_cell hN 3; have r4 := blk_cell hN 4; have z0 := blk_frozen hN 0; have z1 := blk_frozen hN 1; have z2 := blk_frozen hN 2; have z3 := blk_frozen hN 3; have z4 := blk_frozen hN 4; have HN := Lib.hid hN; have HB := Lib.hid hB; clear hN hB))
  refine bodyPost_ret (results_ct rfl _ _ w.heap.size 43 #[.int .u32 0, .int .u32 0, .int .u32 0, .slice none 0 0, .slice none 0 0] (0, 0) _ rfl (ret5 HN.out _ _ _ _ _) Try.underlying43 rfl (by kernel_rfl)) rfl ?_
  exact ⟨rfl, Fr.below (S := fun j => j = w.heap.size) (Fr.then_ (Fr.more (Fr.of_new (below_alloc (Below.refl _ _) zeroBlk)) HB.out) (fr5 w1 w.heap.size _ _ _ _ _) (fun j hj => .inl hj)) (fun j hj => by omega) (Nat.le_refl _)⟩
section
variable {base a gs cs : Nat} {vf : Value} {sl : List Slot} {fr : List Int} {live most : Int}
theorem Raw.below {w w' : World} (h : RawA w base a gs cs vf sl fr live most) (hb : Below w.heap.size w w') : RawA w' base a gs cs vf sl fr live most := h.kept (Fr.of_new (S := fun _ => False) hb) id id (fun _ _ => id)
theorem get_none (i : Int) (w : World) (h : RawA w base a gs cs vf sl fr live most) (hs : sl.length ≤ 1000000000) (hi : isB sl i = false) :
    Calls Try.prog 24 #[.pointer (some ⟨a, 0, none⟩), .int .i64 i] w fun e w' => e = .returned (.tuple #[zeroCell, .bool false]) ∧ Below w.heap.size w w' := by
  have HI := Lib.hid (is_raw i (w.alloc zeroBlk) (Raw.below h (below_alloc (Below.refl _ _) _)) hs)
  rw [hi] at HI
  go_enter Try.func24, Try.ntmps24
  go_wp2_with (go_at_call 68; go_loud (refine HI.out.mono ?_; rintro e w1 ⟨rfl, hB⟩; have hN := blk_below (blk_new w zeroBlk) hB; have r0 := blk_cell hN 0; have r1 := blk_cell hN 1; have r2 := blk_cell hN 2; have r3 := blk_cell hN 3; have r4 := blk_cell hN 4; have z0 := blk_frozen hN 0; have z1 := blk_frozen hN 1; have z2 := blk_frozen hN 2; have z3 := blk_frozen hN 3; have z4 := blk_frozen hN 4; have HN := Lib.hid hN; have HB := Lib.hid hB; clear hN hB))
  refine bodyPost_ret (results_ct rfl _ _ w.heap.size 43 #[.int .u32 0, .int .u32 0, .int .u32 0, .slice none 0 0, .slice none 0 0] (0, 0) _ rfl (ret5 HN.out _ _ _ _ _) Try.underlying43 rfl (by kernel_rfl)) rfl ?_
  exact ⟨rfl, Fr.below (S := fun j => j = w.heap.size) (Fr.then_ (Fr.more (Fr.of_new (below_alloc (Below.refl _ _) zeroBlk)) HB.out) (fr5 w1 w.heap.size _ _ _ _ _) (fun j hj => .inl hj)) (fun j hj => by omega) (Nat.le_refl _)⟩
set_option maxHeartbeats 2000000 in
theorem get_R {V : Nat → Prop} (k : Nat) (s : Slot) (vals : List (Int × Int × ByteArray)) (kids : List Int) (w : World) (h : RawA w base a gs cs vf sl fr live most) (hs : sl.length ≤ 1000000000) (hk : sl[k]? = some s) (h0 : 0 < k) (hr : 0 < s.r)
    (hv : RowIn kVal w V s.v vals) (hkk : RowIn (Kd.int .i64) w V s.k kids) (hvl : vals.length * 32 ≤ 140737488355328) (hkl : kids.length * 8 ≤ 140737488355328) :
    Calls Try.prog 24 #[.pointer (some ⟨a, 0, none⟩), .int .i64 k] w fun e w' => ∃ v' k', e = .returned (.tuple #[cellV s.ow s.a s.b v' k', .bool true]) ∧ VR w' w.heap.size v' vals ∧ KR w' w.heap.size k' kids ∧ (∀ j, v'.ownBlock = some j → k'.ownBlock ≠ some j) ∧ Below w.heap.size w w' := by
  have hl : k < sl.length := (List.getElem?_eq_some_iff.1 hk).1
  have hi := is_raw (k : Int) (w.alloc zeroBlk) (Raw.below h (below_alloc (Below.refl _ _) _)) hs
  rw [isB_at hk h0 hr] at hi
  have HI := Lib.hid hi
  have HR := Lib.hid h
  have HK := Lib.hid hk
  have HV := Lib.hid hv
  have HKK := Lib.hid hkk
  have hs' : (sl.length : Int) ≤ 1000000000 := by omega
  clear h hi hk hv hkk
  obtain ⟨so, sa, sb, sv, sk, sr⟩ := s
  obtain ⟨A1, c1, e1, _⟩ := HV.out
  obtain ⟨A2, c2, e2, _⟩ := HKK.out
  have e1 : sv = .slice A1 vals.length c1 := e1
  have e2 : sk = .slice A2 kids.length c2 := e2
  subst e1 e2
  go_enter Try.func24, Try.ntmps24
  go_wp2_with (first
    | (go_at_call 65; go_loud (refine (own_R (O := V) so sa sb (.slice A1 vals.length c1) (.slice A2 kids.length c2) vals kids _ (HV1.out) (HKK1.out) hvl hkl).mono ?_; rintro e w2 ⟨v', k', rfl, hv2, hk2, hd2, hB2⟩; obtain ⟨A3, c3, e3⟩ := Kd.R_slice hv2; subst e3; obtain ⟨A4, c4, e4⟩ := Kd.R_slice hk2; subst e4; have HD2 := Lib.hid hd2; clear hd2; have hN := blk_below HN1.out hB2; have r0 := blk_cell hN 0; have r1 := blk_cell hN 1; have r2 := blk_cell hN 2; have r3 := blk_cell hN 3; have r4 := blk_cell hN 4; have z0 := blk_frozen hN 0; have z1 := blk_frozen hN 1; have z2 := blk_frozen hN 2; have z3 := blk_frozen hN 3; have z4 := blk_frozen hN 4; have HN2 := Lib.hid hN; have HB2 := Lib.hid hB2; have HV2 := Lib.hid hv2; have HK2 := Lib.hid hk2; clear hN hB2 hv2 hk2))
    | (go_at_call 68; go_loud (refine HI.out.mono ?_; rintro e w1 ⟨rfl, hB⟩; have hb1 := below_step (below_alloc (Below.refl w.heap.size w) zeroBlk) hB; have hr1 := Raw.below HR.out hb1; have p0 := blk_cell hr1.obj 0; have q0 : w1.cell? ⟨gs, k * 6, none⟩ = some (.int .u32 so) := hr1.cell k _ HK.out 0 (by decide); have q1 : w1.cell? ⟨gs, k * 6 + 1, none⟩ = some (.int .u32 sa) := hr1.cell k _ HK.out 1 (by decide); have q2 : w1.cell? ⟨gs, k * 6 + 2, none⟩ = some (.int .u32 sb) := hr1.cell k _ HK.out 2 (by decide); have q3 : w1.cell? ⟨gs, k * 6 + 3, none⟩ = some (.slice A1 vals.length c1) := hr1.cell k _ HK.out 3 (by decide); have q4 : w1.cell? ⟨gs, k * 6 + 4, none⟩ = some (.slice A2 kids.length c2) := hr1.cell k _ HK.out 4 (by decide); have HN1 := Lib.hid (blk_below (blk_new w zeroBlk) hB); have HV1 := Lib.hid (HV.out.below hb1); have HKK1 := Lib.hid (HKK.out.below hb1); have HB := Lib.hid hb1; clear hr1 hB hb1)))
  refine bodyPost_ret (results_ct rfl _ _ w.heap.size 43 #[.int .u32 so, .int .u32 sa, .int .u32 sb, .slice A3 vals.length c3, .slice A4 kids.length c4] (0, 0) _ rfl (ret5 HN2.out _ _ _ _ _) Try.underlying43 rfl (by kernel_rfl)) rfl ?_
  have hf := fr5 w2 w.heap.size (.int .u32 so) (.int .u32 sa) (.int .u32 sb) (.slice A3 vals.length c3) (.slice A4 kids.length c4)
  have hz : w.heap.size < w1.heap.size := blk_lt HN1.out
  refine ⟨_, _, rfl, Kd.R_lower (Kd.R_mono (Kd.R_kept HV2.out hf.kept (fun j hj e => by omega)) (fun j hj => by omega)) (by omega), Kd.R_lower (Kd.R_mono (Kd.R_kept HK2.out hf.kept (fun j hj e => by omega)) (fun j hj => by omega)) (by omega), HD2.out, ?_⟩
  exact Fr.below (S := fun j => j = w.heap.size) (Fr.then_ (Fr.more (Fr.of_new HB.out) HB2.out) hf (fun j hj => .inl hj)) (fun j hj => by omega) (Nat.le_refl _)
theorem get_raw {V : Nat → Prop} (k : Nat) (s : Slot) (vals : List (Int × Int × ByteArray)) (kids : List Int) (w : World) (h : RawA w base a gs cs vf sl fr live most) (hs : sl.length ≤ 1000000000) (hk : sl[k]? = some s) (h0 : 0 < k) (hr : 0 < s.r)
    (hv : RowIn kVal w V s.v vals) (hkk : RowIn (Kd.int .i64) w V s.k kids) (hvl : vals.length * 32 ≤ 140737488355328) (hkl : kids.length * 8 ≤ 140737488355328) :
    Calls Try.prog 24 #[.pointer (some ⟨a, 0, none⟩), .int .i64 k] w fun e w' => ∃ v' k', e = .returned (.tuple #[cellV s.ow s.a s.b v' k', .bool true]) ∧ RowIn kVal w' (fun j => w.heap.size ≤ j) v' vals ∧ RowIn (Kd.int .i64) w' (fun j => w.heap.size ≤ j) k' kids ∧ Below w.heap.size w w' :=
  (get_R k s vals kids w h hs hk h0 hr hv hkk hvl hkl).mono fun _ _ ⟨v', k', h1, h2, h3, _, h5⟩ => ⟨v', k', h1, RowIn.of_R h2, RowIn.of_R h3, h5⟩
end
end Go.Proofs.Ytnipbfhfaefieaa.Arn
/-! arena: New; whether a cell's others are there. -/
namespace Go.Proofs.Ytnipbfhfaefieaa.Arn
open Go.RowKit Go Go.Proofs.YtnipbfhfaefieaaW.PrintWords Go.Proofs.YtnipbfhfaefieaaW.PrintMore Go.Proofs.YtnipbfhfaefieaaW.PrintLast Go.Proofs.Ytnipbfhfaefieaa.Bts Go.Proofs.Ytnipbfhfaefieaa.Fra
theorem infoSlot : (Try.prog.info? 115).map (fun i => (i.zero, i.size, i.bytes)) = some (some (.agg #[.int .u32 0, .int .u32 0, .int .u32 0, .slice none 0 0, .slice none 0 0, .int .i64 0]), 6, 72) := by kernel_rfl
set_option maxHeartbeats 1000000 in
set_option maxRecDepth 100000 in
theorem new_ok (n : Int) (w : World) (h1 : 1 ≤ n) (h2 : n ≤ 1048576) : Calls Try.prog 20 #[.int .i64 n] w fun e w' => ∃ a gs, e = .returned (.tuple #[.pointer (some ⟨a, 0, none⟩), .int .i64 0]) ∧ RawA w' w.heap.size a gs 1 (.slice none 0 0) [nob] [] 0 n ∧ Below w.heap.size w w' := by
  obtain ⟨i0, hi, hi0, hi1, hi2⟩ := info_parts infoSlot
  go_enter Try.func20, Try.ntmps20
  go_wp2_with (at_make; go_loud (refine wpList_make_full _ rfl _ _ 105 rfl w.heap.size 115 i0 _ 6 Try.underlying105 hi hi0 hi1 .i64 .i64 1 1 1 rfl rfl rfl rfl (by omega) (by unfold maxLen; omega) (Nat.le_refl _) ?_; intro w1 hown hg; have hB := (Below.refl w.heap.size w).grown hg (Nat.le_refl _) (fun k hk => by cases hk); have HO := Lib.hid hown; have HB := Lib.hid hB; clear hown hg hB))
  go_ret2
  have hlt : w.heap.size < w1.heap.size := own_lt HO.out w.heap.size rfl
  refine ⟨w1.heap.size, w.heap.size, rfl, ⟨blk_new w1 _, ?_, World.ownsRow_nil _ _ _ _, ?_, ?_, ?_, ?_⟩, below_alloc HB.out _⟩
  · have e : (madeCells (Value.agg #[.int .u32 0, .int .u32 0, .int .u32 0, .slice none 0 0, .slice none 0 0, .int .i64 0]).cells (1 * 6)).toList = flat [nob] := by kernel_rfl
    have hO := HO.out
    rw [e] at hO
    exact own_fr (S := fun _ => False) hO (Fr.alloc _) (fun _ _ h => h)
  · omega
  · intro k hk; cases hk
  · exact HB.out.size
  · exact Nat.le_refl _
/-- The first of some numbers that is not 0, and no cell's. -/
def badAt (sl : List Slot) : List Int → Bool
  | [] => false
  | x :: l => (x != 0 && !isB sl x) || badAt sl l
theorem badAt_app (sl : List Slot) (l m : List Int) : badAt sl (l ++ m) = (badAt sl l || badAt sl m) := by
  induction l with
  | nil => rfl
  | cons x l ih => show (_ || badAt sl (l ++ m)) = ((_ || badAt sl l) || badAt sl m); rw [ih, Bool.or_assoc]
section
variable {base a gs cs : Nat} {vf : Value} {sl : List Slot} {fr : List Int} {live most : Int}
theorem bad_calls (b : Nat) (x : Int) (w : World) (h : RawA w base a gs cs vf sl fr live most) (hs : sl.length ≤ 1000000000) (hb : w.cell? ⟨b, 0, none⟩ = some (.pointer (some ⟨a, 0, none⟩))) :
    Calls Try.prog 92 #[.int .i64 x, .pointer (some ⟨b, 0, none⟩)] w fun e w' => e = .returned (.bool (x != 0 && !isB sl x)) ∧ Below w.heap.size w w' := by
  by_cases hx : x = 0
  · subst hx
    go_enter Try.func92, Try.ntmps92
    go_wp2
    go_ret
    exact ⟨rfl, Below.refl _ _⟩
  · have HI := Lib.hid (is_raw x w h hs)
    have hx' : (x == 0) = false := by simpa using hx
    go_enter Try.func92, Try.ntmps92
    go_wp2_with (go_at_call 68; go_loud (refine HI.out.mono ?_; rintro e w1 ⟨rfl, hB⟩))
    go_ret
    exact ⟨rfl, hB⟩
set_option maxHeartbeats 2000000 in
theorem index_calls (A : Option Addr) (c b : Nat) (l : List Int) (w : World) (h : RawA w base a gs cs vf sl fr live most) (hs : sl.length ≤ 1000000000) (hb : w.cell? ⟨b, 0, none⟩ = some (.pointer (some ⟨a, 0, none⟩)))
    (hC : (Kd.int .i64).C w A l.length l) (hl : l.length ≤ 1000000000) :
    Calls Try.prog 102 #[.slice A l.length c, .func (.func 92) #[] #[.pointer (some ⟨b, 0, none⟩)]] w fun e w' => ∃ i : Int, e = .returned (.int .i64 i) ∧ decide (0 ≤ i) = badAt sl l ∧ Below w.heap.size w w' := by
  have HR := Lib.hid h
  have HBC := Lib.hid hb
  have HC := Lib.hid hC
  have hli : (l.length : Int) ≤ 1000000000 := by omega
  clear h hb hC
  go_enter Try.func102, Try.ntmps102
  go_wp2
  go_loopw [8] (fun i wr => ∃ j : Nat, i = .int .i64 j ∧ j ≤ l.length ∧ badAt sl (l.take j) = false ∧ Below w.heap.size w wr) (fun i _ => l.length - (intOf i).toNat)
  case atStart => exact ⟨0, rfl, Nat.zero_le _, rfl, Below.refl _ _⟩
  case round =>
    obtain ⟨j, rfl, hj, hbad, hB⟩ := hrel
    have HB := Lib.hid hB
    have HBAD := Lib.hid hbad
    clear hB hbad
    by_cases hjl : j < l.length
    · obtain ⟨x, hx⟩ : ∃ x, rd l (j : Int) = x := ⟨_, rfl⟩
      obtain ⟨ad, rfl, hc⟩ := Kd.at_int (Kd.C_below HC.out HB.out) (j : Int) (by omega) (by omega)
      rw [hx] at hc
      rw [Int.toNat_natCast] at hc
      have HX := Lib.hid hx
      have hb1 := pw_cell_below HB.out HBC.out
      have HK := Lib.hid (bad_calls b x wr (Raw.below HR.out HB.out) hs hb1)
      have hjl' : (j : Int) < (l.length : Int) := by omega
      clear hb1 hx
      have htk : badAt sl (l.take (j + 1)) = (x != 0 && !isB sl x) := by
        rw [List.take_succ_eq_append_getElem hjl, badAt_app, HBAD.out, Bool.false_or]
        have : l[j] = x := by rw [← HX.out]; simp [rd, List.getD, hjl]
        rw [this]
        show (_ || false) = _
        rw [Bool.or_false]
      cases hv : (x != 0 && !isB sl x)
      · rw [hv] at HK htk
        have HT := Lib.hid htk
        clear htk hv
        go_wp2_with (go_at_call 92; go_loud (refine HK.out.mono ?_; rintro e w1 ⟨rfl, hB1⟩))
        go_roundw
        case rel => exact ⟨j + 1, by simp, by omega, HT.out, below_step HB.out hB1⟩
        case measure => simp [intOf]; omega
      · rw [hv] at HK htk
        have HT := Lib.hid htk
        clear htk hv
        go_wp2_with (go_at_call 92; go_loud (refine HK.out.mono ?_; rintro e w1 ⟨rfl, hB1⟩))
        go_ret
        refine ⟨_, rfl, ?_, below_step HB.out hB1⟩
        have e2 : badAt sl l = (badAt sl (l.take (j + 1)) || badAt sl (l.drop (j + 1))) := by rw [← badAt_app, List.take_append_drop]
        rw [e2, HT.out]
        simp
    · have hjl' : ¬ (j : Int) < (l.length : Int) := by omega
      go_wp2
      go_ret
      refine ⟨_, rfl, ?_, HB.out⟩
      have e1 : l.take j = l := List.take_of_length_le (by omega)
      rw [← e1, HBAD.out]
      rfl
theorem contains_calls (A : Option Addr) (c b : Nat) (l : List Int) (w : World) (h : RawA w base a gs cs vf sl fr live most) (hs : sl.length ≤ 1000000000) (hb : w.cell? ⟨b, 0, none⟩ = some (.pointer (some ⟨a, 0, none⟩)))
    (hC : (Kd.int .i64).C w A l.length l) (hl : l.length ≤ 1000000000) :
    Calls Try.prog 91 #[.slice A l.length c, .func (.func 92) #[] #[.pointer (some ⟨b, 0, none⟩)]] w fun e w' => e = .returned (.bool (badAt sl l)) ∧ Below w.heap.size w w' := by
  have HI := Lib.hid (index_calls A c b l w h hs hb hC hl)
  clear h hb hC
  go_enter Try.func91, Try.ntmps91
  go_wp2_with (go_at_call 102; go_loud (refine HI.out.mono ?_; rintro e w1 ⟨i, rfl, hi, hB⟩))
  go_ret
  rw [← hi]
  exact ⟨rfl, hB⟩
end
end Go.Proofs.Ytnipbfhfaefieaa.Arn
/-! arena: whether a cell's others are there; Make of what can't be. -/
namespace Go.Proofs.Ytnipbfhfaefieaa.Arn
open Go.RowKit Go Go.Proofs.YtnipbfhfaefieaaW.PrintWords Go.Proofs.YtnipbfhfaefieaaW.PrintMore Go.Proofs.YtnipbfhfaefieaaW.PrintLast Go.Proofs.Ytnipbfhfaefieaa.Bts Go.Proofs.Ytnipbfhfaefieaa.Fra
theorem right_nil (c : Value) (ow x y : Int) (v k : Value) (hc : c = cellV ow x y v k) (w : World) : Calls Try.prog 64 #[.pointer none, c] w fun e w' => e = .returned (.bool false) ∧ Below w.heap.size w w' := by
  subst hc
  go_enter Try.func64, Try.ntmps64
  go_wp2
  go_ret
  exact ⟨rfl, below_alloc (below_alloc (Below.refl _ _) _) _⟩
section
variable {base a gs cs : Nat} {vf : Value} {sl : List Slot} {fr : List Int} {live most : Int} {O : Nat → Prop}
set_option maxHeartbeats 1000000 in
theorem right_calls (ow x y : Int) (v k : Value) (kids : List Int) (w : World) (h : RawA w base a gs cs vf sl fr live most) (hs : sl.length ≤ 1000000000) (hk : RowIn (Kd.int .i64) w O k kids) (hl : kids.length ≤ 1000000000) :
    Calls Try.prog 64 #[.pointer (some ⟨a, 0, none⟩), cellV ow x y v k] w fun e w' => e = .returned (.bool (!badAt sl kids)) ∧ Below w.heap.size w w' := by
  obtain ⟨A, c, rfl, hlc, hn, hC, _⟩ := hk
  have HR := Lib.hid h
  have HC := Lib.hid hC
  clear h hC hn hlc
  go_enter Try.func64, Try.ntmps64
  go_wp2_with (go_at_call 91; go_loud (refine (contains_calls A c w.heap.size kids _ (Raw.below HR.out (by repeat (first | (with_reducible first | exact Below.refl w.heap.size w | apply below_alloc | apply pw_below_drewN | apply below_drew1) | exact Below.refl w.heap.size w))) hs (by exact blk_cell (blk_alloc (blk_new w _) _) 0) (Kd.C_below HC.out (by repeat (first | (with_reducible first | exact Below.refl w.heap.size w | apply below_alloc | apply pw_below_drewN | apply below_drew1) | exact Below.refl w.heap.size w))) hl).mono ?_; rintro e w1 ⟨rfl, hB⟩))
  go_ret
  exact ⟨rfl, below_step (below_alloc (below_alloc (Below.refl _ _) _) _) hB⟩
theorem make_arg (ow x y : Int) (v k : Value) (kids : List Int) (w : World) (h : RawA w base a gs cs vf sl fr live most) (hs : sl.length ≤ 1000000000) (hv : ∃ A n c, v = .slice A n c) (hk : RowIn (Kd.int .i64) w O k kids) (hl : kids.length ≤ 1000000000) (hb : badAt sl kids = true) :
    Calls Try.prog 21 #[.pointer (some ⟨a, 0, none⟩), cellV ow x y v k] w fun e w' => e = .returned (.tuple #[.int .i64 0, .int .i64 1]) ∧ Below w.heap.size w w' := by
  obtain ⟨A1, n1, c1, rfl⟩ := hv
  have HKR := Lib.hid hk
  obtain ⟨A, c, rfl, _⟩ := hk
  have HI := Lib.hid (right_calls ow x y (.slice A1 n1 c1) (.slice A kids.length c) kids (w.alloc (.cells #[.int .u32 ow, .int .u32 x, .int .u32 y, .slice A1 n1 c1, .slice A kids.length c] 43)) (Raw.below h (below_alloc (Below.refl _ _) _)) hs (HKR.out.below (below_alloc (Below.refl _ _) _)) hl)
  rw [hb] at HI
  clear h hb
  go_enter Try.func21, Try.ntmps21
  go_wp2_with (go_at_call 64; go_loud (refine HI.out.mono ?_; rintro e w1 ⟨rfl, hB⟩))
  go_ret2
  exact ⟨rfl, below_step (below_alloc (Below.refl _ _) _) hB⟩
theorem make_nil (ow x y : Int) (v k : Value) (w : World) (hv : ∃ A n c, v = .slice A n c) (hk : ∃ A n c, k = .slice A n c) :
    Calls Try.prog 21 #[.pointer none, cellV ow x y v k] w fun e w' => e = .returned (.tuple #[.int .i64 0, .int .i64 1]) ∧ Below w.heap.size w w' := by
  obtain ⟨A1, n1, c1, rfl⟩ := hv
  obtain ⟨A2, n2, c2, rfl⟩ := hk
  go_enter Try.func21, Try.ntmps21
  go_wp2_with (go_at_call 64; go_loud (refine (right_nil _ ow x y _ _ rfl _).mono ?_; rintro e w1 ⟨rfl, hB⟩))
  go_ret2
  exact ⟨rfl, below_step (below_alloc (Below.refl _ _) _) hB⟩
end
end Go.Proofs.Ytnipbfhfaefieaa.Arn
