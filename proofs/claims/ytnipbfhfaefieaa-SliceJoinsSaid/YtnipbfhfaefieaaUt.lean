/- Texts of this claim, laid together: SlY, SlZ, TlA. -/
import Derived.Test.YtnipbfhfaefieaaUs
/-! slice.Compare; Join with room. -/
namespace Go.Proofs.Ytnipbfhfaefieaa.Sl
open Go.RowKit Go Go.Proofs.YtnipbfhfaefieaaW.PrintWords Go.Proofs.YtnipbfhfaefieaaW.PrintMore Go.Proofs.YtnipbfhfaefieaaW.PrintLast Go.Proofs.Ytnipbfhfaefieaa.Bts Go.Proofs.Ytnipbfhfaefieaa.Fra Go.Proofs.Ytnipbfhfaefieaa.ArnP Go.Proofs.Ytnipbfhfaefieaa.Arn Go.Proofs.Ytnipbfhfaefieaa.Ao Go.Proofs.Ytnipbfhfaefieaa.Pv Go.Proofs.Ytnipbfhfaefieaa.ValPure Go.Proofs.Ytnipbfhfaefieaa.Vl
section
variable {O : Nat → Prop} {a : Nat} {f : Nat → Cell} {live most : Int} {ext rest : Nat → Nat}
set_option maxHeartbeats 4000000 in
set_option maxRecDepth 100000 in
theorem vcompare (n r t n2 r2 t2 : Nat) (l l2 : List V3) (w : World) (h : AO w O a f live most ext nop) (hv : VRep f n r t l) (hv2 : VRep f n2 r2 t2 l2) (he : ∀ x, vx r t x ≤ ext x) (he2 : ∀ x, vx r2 t2 x ≤ ext x) :
    Calls Try.prog 58 #[.pointer (some ⟨a, 0, none⟩), vecV n r t, vecV n2 r2 t2] w fun e w' => e = .returned (.int .i64 (listsV l l2)) ∧ Below w.heap.size w w' := by
  have hb := below_alloc (below_alloc (Below.refl w.heap.size w) (.cells #[.int .i64 n, .int .i64 r, .int .i64 t] 61)) (.cells #[.int .i64 n2, .int .i64 r2, .int .i64 t2] 61)
  have hk1 := blk_alloc (blk_new w (.cells #[.int .i64 n, .int .i64 r, .int .i64 t] 61)) (.cells #[.int .i64 n2, .int .i64 r2, .int .i64 t2] 61)
  have hk2 := new1 w (.cells #[.int .i64 n, .int .i64 r, .int .i64 t] 61) (.cells #[.int .i64 n2, .int .i64 r2, .int .i64 t2] 61)
  have hA := h.below hb
  obtain ⟨W1, hW1⟩ : ∃ W1, (w.alloc (.cells #[.int .i64 n, .int .i64 r, .int .i64 t] 61)).alloc (.cells #[.int .i64 n2, .int .i64 r2, .int .i64 t2] 61) = W1 := ⟨_, rfl⟩
  rw [hW1] at hb hk1 hk2 hA
  have hd : Below W1.heap.size W1 W1.drew := below_drew1 (Below.refl _ _)
  obtain ⟨V, hV0⟩ : ∃ V, W1.drew = V := ⟨_, rfl⟩
  have hV : ((w.alloc (.cells #[.int .i64 n, .int .i64 r, .int .i64 t] 61)).alloc (.cells #[.int .i64 n2, .int .i64 r2, .int .i64 t2] 61)).drew = V := by rw [hW1]; exact hV0
  rw [hV0] at hd
  have j1 := blk_below hk1 hd
  have j2 := blk_below hk2 hd
  have hn1 : l.length ≤ 1024 := by have := hv.1; have := hv.2.1; omega
  have hn2 : l2.length ≤ 1024 := by have := hv2.1; have := hv2.2.1; omega
  have HN := Lib.hid (And.intro hn1 hn2)
  have HAV := Lib.hid (hA.below hd)
  have HBV := Lib.hid (hb.trans (hd.mono hb.size))
  have HK1 := Lib.hid j1
  have HK2 := Lib.hid j2
  have HV := Lib.hid (And.intro hv hv2)
  have HE := Lib.hid (And.intro he he2)
  clear hb hk1 hk2 hd j1 j2 hA h hv hv2 he he2 hW1 hV0 hn1 hn2
  go_enter Try.func58, Try.ntmps58
  go_wp2
  refine start_ (n := 8) (S := fun w' => w'.cell? ⟨w.heap.size, 0, none⟩ = some (.int .i64 (n : Int)) ∧ w'.cell? ⟨w.heap.size, 1, none⟩ = some (.int .i64 (r : Int)) ∧ w'.cell? ⟨w.heap.size, 2, none⟩ = some (.int .i64 (t : Int)) ∧ w'.cell? ⟨w.heap.size + 1, 0, none⟩ = some (.int .i64 (n2 : Int)) ∧ w'.cell? ⟨w.heap.size + 1, 1, none⟩ = some (.int .i64 (r2 : Int)) ∧ w'.cell? ⟨w.heap.size + 1, 2, none⟩ = some (.int .i64 (t2 : Int))) (ds := []) #[false, false, false, false, false, false, false, false] (by kernel_rfl) rfl rfl ⟨(by rw [hV]; exact blk_cell HK1.out 0), (by rw [hV]; exact blk_cell HK1.out 1), (by rw [hV]; exact blk_cell HK1.out 2), (by rw [hV]; exact blk_cell HK2.out 0), (by rw [hV]; exact blk_cell HK2.out 1), (by rw [hV]; exact blk_cell HK2.out 2)⟩ (fun hHeld => ?_)
  refine pure_ (i := 0) (N := some 7) (v := ?_) (a' := ?_) #[true, false, false, false, false, false, false, false] rfl rfl (by kernel_rfl) (fun _ _ _ h => h) (Or.inl ⟨by rfl, ?_⟩) ?_ ?_
  rotate_left
  · intro w'
    go_simp
    with_reducible rfl
  rotate_left
  · simp only [Act.put, List.setIfInBounds_toArray, List.set_cons_zero, List.set_cons_succ]
    rfl
  refine pure_ (i := 3) (N := some 10) (v := ?_) (a' := ?_) #[true, false, false, true, false, false, false, false] rfl rfl (by kernel_rfl) (fun _ _ _ h => h) (Or.inl ⟨by rfl, ?_⟩) ?_ ?_
  rotate_left
  · intro w'
    go_simp
    with_reducible rfl
  rotate_left
  · simp only [Act.put, List.setIfInBounds_toArray, List.set_cons_zero, List.set_cons_succ]
    rfl
  refine take_ (i := 1) (N := some 8) (v := ?_) (a' := ?_) #[true, true, false, true, false, false, false, false] rfl rfl (by kernel_rfl) (fun _ _ _ h => h) (Or.inl ⟨by rfl, ?_⟩) hHeld ?_ ?_
  rotate_left
  · rintro w' ⟨s0, s1, s2, s3, s4, s5⟩
    go_simp
    with_reducible rfl
  rotate_left
  · simp only [Act.put, List.setIfInBounds_toArray, List.set_cons_zero, List.set_cons_succ]
    rfl
  refine take_ (i := 4) (N := some 11) (v := ?_) (a' := ?_) #[true, true, false, true, true, false, false, false] rfl rfl (by kernel_rfl) (fun _ _ _ h => h) (Or.inl ⟨by rfl, ?_⟩) hHeld ?_ ?_
  rotate_left
  · rintro w' ⟨s0, s1, s2, s3, s4, s5⟩
    go_simp
    with_reducible rfl
  rotate_left
  · simp only [Act.put, List.setIfInBounds_toArray, List.set_cons_zero, List.set_cons_succ]
    rfl
  refine one_ (i := 2) (N := some 9) #[true, true, true, true, true, false, false, false] rfl rfl (by kernel_rfl) (by decide) (fun K hK => ?_)
  refine goes_ Try.func42 (by kernel_rfl) rfl #[.pointer (some ⟨a, 0, none⟩), vecV n r t] (by rfl) rfl rfl (by simp only [List.map_toArray, List.map_cons, List.map_nil]; rfl) ?_
  with_reducible refine (all_calls n r t l _ (hV ▸ HAV.out) HV.out.1 HE.out.1).mono ?_
  rintro e w3 ⟨v3, rfl, hV3, hB3⟩
  refine ⟨_, rfl, ?_⟩
  have HB3 := Lib.hid (hV ▸ hB3 : Below V.heap.size V w3)
  obtain ⟨A3, c3, e3, _⟩ := id (RowIn.of_R hV3)
  have HR3 := Lib.hid (RowIn.of_R hV3)
  refine hK.out _ _ ⟨(blk_cell (blk_below HK1.out HB3.out) 0), (blk_cell (blk_below HK1.out HB3.out) 1), (blk_cell (blk_below HK1.out HB3.out) 2), (blk_cell (blk_below HK2.out HB3.out) 0), (blk_cell (blk_below HK2.out HB3.out) 1), (blk_cell (blk_below HK2.out HB3.out) 2)⟩ (fun hHeld => ?_)
  clear hK K
  refine norm_ (a' := ?_) ?_ ?_
  rotate_left
  · show Act.put _ (some 9) _ = _
    simp only [Act.put, List.setIfInBounds_toArray, List.set_cons_zero, List.set_cons_succ]
    rfl
  refine one_ (i := 5) (N := some 12) #[true, true, true, true, true, true, false, false] rfl rfl (by kernel_rfl) (by decide) (fun K hK => ?_)
  refine goes_ Try.func42 (by kernel_rfl) rfl #[.pointer (some ⟨a, 0, none⟩), vecV n2 r2 t2] (by rfl) rfl rfl (by simp only [List.map_toArray, List.map_cons, List.map_nil]; rfl) ?_
  with_reducible refine (all_calls n2 r2 t2 l2 _ (HAV.out.below HB3.out) HV.out.2 HE.out.2).mono ?_
  rintro e w4 ⟨v4, rfl, hV4, hB4⟩
  refine ⟨_, rfl, ?_⟩
  have HB4 := Lib.hid (HB3.out.trans (hB4.mono HB3.out.size))
  have HR34 := Lib.hid (HR3.out.below hB4)
  have HR4 := Lib.hid (RowIn.of_R hV4)
  refine hK.out _ _ ⟨(blk_cell (blk_below HK1.out HB4.out) 0), (blk_cell (blk_below HK1.out HB4.out) 1), (blk_cell (blk_below HK1.out HB4.out) 2), (blk_cell (blk_below HK2.out HB4.out) 0), (blk_cell (blk_below HK2.out HB4.out) 1), (blk_cell (blk_below HK2.out HB4.out) 2)⟩ (fun hHeld => ?_)
  clear hK K
  refine norm_ (a' := ?_) ?_ ?_
  rotate_left
  · show Act.put _ (some 12) _ = _
    simp only [Act.put, List.setIfInBounds_toArray, List.set_cons_zero, List.set_cons_succ]
    rfl
  refine one_ (i := 6) (N := some 13) #[true, true, true, true, true, true, true, false] rfl rfl (by kernel_rfl) (by decide) (fun K hK => ?_)
  refine goes_ Try.func89 (by kernel_rfl) rfl #[v3, v4] (by rfl) rfl rfl (by simp only [List.map_toArray, List.map_cons, List.map_nil]; rfl) ?_
  with_reducible refine (lists_calls l l2 v3 v4 _ HR34.out HR4.out (by have := HN.out.1; omega) (by have := HN.out.2; omega)).mono ?_
  rintro e w5 ⟨rfl, hB5⟩
  refine ⟨_, rfl, ?_⟩
  have HB5 := Lib.hid (HB4.out.trans (hB5.mono HB4.out.size))
  refine hK.out _ _ ⟨(blk_cell (blk_below HK1.out HB5.out) 0), (blk_cell (blk_below HK1.out HB5.out) 1), (blk_cell (blk_below HK1.out HB5.out) 2), (blk_cell (blk_below HK2.out HB5.out) 0), (blk_cell (blk_below HK2.out HB5.out) 1), (blk_cell (blk_below HK2.out HB5.out) 2)⟩ (fun hHeld => ?_)
  clear hK K
  refine norm_ (a' := ?_) ?_ ?_
  rotate_left
  · show Act.put _ (some 13) _ = _
    simp only [Act.put, List.setIfInBounds_toArray, List.set_cons_zero, List.set_cons_succ]
    rfl
  refine pure_ (i := 7) (N := some 6) (v := ?_) (a' := ?_) #[true, true, true, true, true, true, true, true] rfl rfl (by kernel_rfl) (fun _ _ _ h => h) (Or.inl ⟨by rfl, ?_⟩) ?_ ?_
  rotate_left
  · intro w'
    go_simp
    with_reducible rfl
  rotate_left
  · simp only [Act.put, List.setIfInBounds_toArray, List.set_cons_zero, List.set_cons_succ]
    rfl
  refine done_ (by kernel_rfl) ?_

  go_wp2
  go_ret
  exact ⟨rfl, HBV.out.trans (HB5.out.mono HBV.out.size)⟩
theorem join_ok (g n r t n2 r2 t2 k : Nat) (l l2 : List V3) (w : World) (h : AO w O a f live most ext nop) (hv : VRep f n r t l) (hv2 : VRep f n2 r2 t2 l2) (he : ∀ x, vx r t x ≤ ext x) (he2 : ∀ x, vx r2 t2 x ≤ ext x) (hb : ∀ x, ext x ≤ 50000000000) (hk : l.length + l2.length = k) (hk2 : k ≤ 1024) (hroom : 40 ≤ most - live) (hg : w.heap[g]? = some (.cells #[.int .i64 n, .int .i64 r, .int .i64 t, .int .i64 n2, .int .i64 r2, .int .i64 t2] 61 (0, 0))) :
    Calls Try.prog 56 #[.pointer (some ⟨a, 0, none⟩), .slice (some ⟨g, 0, none⟩) 2 2] w fun e w' => ∃ (r' t' : Nat) (O' : Nat → Prop) (f' : Nat → Cell) (live' : Int), e = .returned (.tuple #[vecV k r' t', .int .i64 0]) ∧ Hid (AO w' O' a f' live' most (fun z => ext z + vx r' t' z) nop) ∧ Hid (VRep f' k r' t' (l ++ l2)) ∧ Hid (KeepR ext nop f f') ∧ Hid (∀ j, O' j → O j ∨ w.heap.size ≤ j) ∧ Hid (Fr O w w') := by
  refine (join_calls g n r t n2 r2 t2 l l2 w h hv hv2 he he2 hb (by omega) hg).mono ?_
  intro e w' hp
  unfold FromPost at hp
  rw [List.length_append, hk] at hp
  rcases hp with ⟨r, t, O', f', live', he, hA, hV, hK, hO, hF⟩ | ⟨c, O', f', live', he, hc, hA, _, hO, hF⟩
  · exact ⟨r, t, O', f', live', he, Lib.hid hA, Lib.hid hV, Lib.hid hK, Lib.hid hO, Lib.hid hF⟩
  · omega
theorem join_long (g n r t n2 r2 t2 : Nat) (l l2 : List V3) (w : World) (h : AO w O a f live most ext nop) (hv : VRep f n r t l) (hv2 : VRep f n2 r2 t2 l2) (he : ∀ x, vx r t x ≤ ext x) (he2 : ∀ x, vx r2 t2 x ≤ ext x) (hb : ∀ x, ext x ≤ 50000000000) (hk : 1024 < l.length + l2.length) (hk2 : l.length + l2.length ≤ 2000) (hroom : 40 ≤ most - live) (hg : w.heap[g]? = some (.cells #[.int .i64 n, .int .i64 r, .int .i64 t, .int .i64 n2, .int .i64 r2, .int .i64 t2] 61 (0, 0))) :
    Calls Try.prog 56 #[.pointer (some ⟨a, 0, none⟩), .slice (some ⟨g, 0, none⟩) 2 2] w fun e w' => ∃ (O' : Nat → Prop) (f' : Nat → Cell), e = .returned (.tuple #[vecV 0 0 0, .int .i64 12]) ∧ Hid (AO w' O' a f' live most ext nop) ∧ Hid (Fr O w w') := by
  refine (join_calls g n r t n2 r2 t2 l l2 w h hv hv2 he he2 hb hk2 hg).mono ?_
  intro e w' hp
  unfold FromPost at hp
  rw [List.length_append] at hp
  rcases hp with ⟨r, t, O', f', live', he, hA, hV, hK, hO, hF⟩ | ⟨c, O', f', live', he, hc, hA, hK, hO, hF⟩
  · have := hV.2.1
    omega
  · have hc5 : c = 12 := by omega
    subst hc5
    have hl := live_same h hA (fun j h0 hj => KeepR.same hK h0 hj)
    subst hl
    exact ⟨O', f', he, Lib.hid hA, Lib.hid hF⟩
end
theorem fill_size {l : List V3} (h : fitsB l = true) (n : Nat) : ∀ x ∈ fillL l n, x.2.2.size ≤ 140737488351232 := by
  have hs : small l = true := by
    unfold fitsB at h
    exact (Bool.and_eq_true_iff.1 h).1
  intro x hx
  unfold fillL at hx
  obtain ⟨i, _, rfl⟩ := List.mem_map.1 hx
  have h1 : ∀ y ∈ l, (y.2.2.size : Int) ≤ 50 := fun y hy => by
    unfold small at hs
    exact of_decide_eq_true (List.all_eq_true.1 hs y hy)
  show (l.getD (i % l.length) (0, 0, (⟨#[]⟩ : ByteArray))).2.2.size ≤ _
  generalize i % l.length = q
  by_cases hq : q < l.length
  · have e : l.getD q (0, 0, (⟨#[]⟩ : ByteArray)) = l[q] := by simp [List.getD, hq]
    rw [e]
    have := h1 _ (List.getElem_mem hq)
    omega
  · have e : l.getD q (0, 0, (⟨#[]⟩ : ByteArray)) = (0, 0, (⟨#[]⟩ : ByteArray)) := by simp [List.getD, hq]
    rw [e]
    exact Nat.zero_le _
end Go.Proofs.Ytnipbfhfaefieaa.Sl
/-! slice: SliceJoins, the early ends. -/
namespace Go.Proofs.Ytnipbfhfaefieaa.Sl
open Go.RowKit Go Go.Proofs.YtnipbfhfaefieaaW.PrintWords Go.Proofs.YtnipbfhfaefieaaW.PrintMore Go.Proofs.YtnipbfhfaefieaaW.PrintLast Go.Proofs.Ytnipbfhfaefieaa.Bts Go.Proofs.Ytnipbfhfaefieaa.Fra Go.Proofs.Ytnipbfhfaefieaa.ArnP Go.Proofs.Ytnipbfhfaefieaa.Arn Go.Proofs.Ytnipbfhfaefieaa.Ao Go.Proofs.Ytnipbfhfaefieaa.Pv Go.Proofs.Ytnipbfhfaefieaa.ValPure Go.Proofs.Ytnipbfhfaefieaa.Vl
set_option maxHeartbeats 8000000 in
set_option maxRecDepth 100000 in
theorem joins_e1 (A0 : Option Addr) (c0 : Nat) (x0 : List V3) (A1 : Option Addr) (c1 : Nat) (x1 : List V3) (x2_0 : Int) (x2_1 : Int) (W : World) (C0 : kVal.C W A0 x0.length x0) (C1 : kVal.C W A1 x1.length x1) (hm : x0.length ≤ 4611686018427387904) (hm1 : x1.length ≤ 4611686018427387904) (hf : fitsB x0 = false) :
    Calls Try.prog 11 #[.slice A0 x0.length c0, .slice A1 x1.length c1, .agg #[.int .i64 x2_0, .int .i64 x2_1]] W fun e W' => e = .returned (.bool true) ∧ Below W.heap.size W W' := by
  have HF := Lib.hid hf
  clear hf
  have HC := Lib.hid C0
  have HC1 := Lib.hid C1
  have hbx := below_alloc (Below.refl W.heap.size W) (.cells #[.int .i64 x2_0, .int .i64 x2_1] 55)
  have hkx := blk_new W (.cells #[.int .i64 x2_0, .int .i64 x2_1] 55)
  obtain ⟨X0, hX0⟩ : ∃ X0, W.alloc (.cells #[.int .i64 x2_0, .int .i64 x2_1] 55) = X0 := ⟨_, rfl⟩
  rw [hX0] at hbx hkx
  have hdx : Below X0.heap.size X0 X0.drew := below_drew1 (Below.refl _ _)
  obtain ⟨X, hX1⟩ : ∃ X, X0.drew = X := ⟨_, rfl⟩
  have hX : (W.alloc (.cells #[.int .i64 x2_0, .int .i64 x2_1] 55)).drew = X := by rw [hX0]; exact hX1
  rw [hX1] at hdx
  have q0 := blk_cell (blk_below hkx hdx) 0
  have q1 := blk_cell (blk_below hkx hdx) 1
  have HBX := Lib.hid (hbx.trans (hdx.mono hbx.size))
  clear C0 C1 hbx hkx hdx hX0 hX1
  go_enter Try.func11, Try.ntmps11
  go_wp2
  refine start_ (n := 6) (S := fun w' => w'.cell? ⟨W.heap.size, 0, none⟩ = some (.int .i64 x2_0) ∧ w'.cell? ⟨W.heap.size, 1, none⟩ = some (.int .i64 x2_1)) (ds := []) #[false, false, false, false, false, false] (by kernel_rfl) rfl rfl ⟨(by rw [hX]; exact q0), (by rw [hX]; exact q1)⟩ (fun hHeld => ?_)
  refine pure_ (i := 0) (N := some 20) (v := ?_) (a' := ?_) #[true, false, false, false, false, false] rfl rfl (by kernel_rfl) (fun _ _ _ h => h) (Or.inl ⟨by rfl, ?_⟩) ?_ ?_
  rotate_left
  · intro w'
    go_simp
    with_reducible rfl
  rotate_left
  · simp only [Act.put, List.setIfInBounds_toArray, List.set_cons_zero, List.set_cons_succ]
    rfl
  refine pure_ (i := 2) (N := some 22) (v := ?_) (a' := ?_) #[true, false, true, false, false, false] rfl rfl (by kernel_rfl) (fun _ _ _ h => h) (Or.inl ⟨by rfl, ?_⟩) ?_ ?_
  rotate_left
  · intro w'
    go_simp
    with_reducible rfl
  rotate_left
  · simp only [Act.put, List.setIfInBounds_toArray, List.set_cons_zero, List.set_cons_succ]
    rfl
  refine take_ (i := 1) (N := some 21) (v := ?_) (a' := ?_) #[true, true, true, false, false, false] rfl rfl (by kernel_rfl) (fun _ _ _ h => h) (Or.inl ⟨by rfl, ?_⟩) hHeld ?_ ?_
  rotate_left
  · rintro w' ⟨s0, s1⟩
    go_simp
    with_reducible rfl
  rotate_left
  · simp only [Act.put, List.setIfInBounds_toArray, List.set_cons_zero, List.set_cons_succ]
    rfl
  refine pure_ (i := 4) (N := some 7) (v := ?_) (a' := ?_) #[true, true, true, false, true, false] rfl rfl (by kernel_rfl) (fun _ _ _ h => h) (Or.inl ⟨by rfl, ?_⟩) ?_ ?_
  rotate_left
  · intro w'
    go_simp
    with_reducible rfl
  rotate_left
  · simp only [Act.put, List.setIfInBounds_toArray, List.set_cons_zero, List.set_cons_succ]
    rfl
  refine take_ (i := 3) (N := some 23) (v := ?_) (a' := ?_) #[true, true, true, true, true, false] rfl rfl (by kernel_rfl) (fun _ _ _ h => h) (Or.inl ⟨by rfl, ?_⟩) hHeld ?_ ?_
  rotate_left
  · rintro w' ⟨s0, s1⟩
    go_simp
    with_reducible rfl
  rotate_left
  · simp only [Act.put, List.setIfInBounds_toArray, List.set_cons_zero, List.set_cons_succ]
    rfl
  refine pure_ (i := 5) (N := some 8) (v := ?_) (a' := ?_) #[true, true, true, true, true, true] rfl rfl (by kernel_rfl) (fun _ _ _ h => h) (Or.inl ⟨by rfl, ?_⟩) ?_ ?_
  rotate_left
  · intro w'
    go_simp
    with_reducible rfl
  rotate_left
  · simp only [Act.put, List.setIfInBounds_toArray, List.set_cons_zero, List.set_cons_succ]
    rfl
  refine done_ (by kernel_rfl) ?_

  rw [hX]
  clear q0 q1
  go_wp2_with (first
    | (go_at_call 38; have hx := HB2; clear hx; go_loud (refine (lives_calls _).mono ?_; rintro e w9 ⟨rfl, hb9⟩; have HB9 := Lib.hid (HB2.out.trans (hb9.mono HB2.out.size)); clear hb9))
    | (go_at_call 43; go_loud (refine (fits_calls x0 A0 c0 _ (Kd.C_below HC.out HB1.out) hm).mono ?_; rw [HF.out]; rintro e w2 ⟨rfl, hb2⟩; have HB2 := Lib.hid (HB1.out.trans (hb2.mono HB1.out.size)); clear hb2))
    | (go_at_call 38; go_loud (refine (lives_calls _).mono ?_; rintro e w1 ⟨rfl, hb1⟩; have HB1 := Lib.hid (HBX.out.trans (hb1.mono HBX.out.size)); clear hb1)))
  go_ret
  exact ⟨rfl, HB9.out⟩
set_option maxHeartbeats 8000000 in
set_option maxRecDepth 100000 in
theorem joins_e2 (A0 : Option Addr) (c0 : Nat) (x0 : List V3) (A1 : Option Addr) (c1 : Nat) (x1 : List V3) (x2_0 : Int) (x2_1 : Int) (W : World) (C0 : kVal.C W A0 x0.length x0) (C1 : kVal.C W A1 x1.length x1) (hm : x0.length ≤ 4611686018427387904) (hm1 : x1.length ≤ 4611686018427387904) (hf : fitsB x0 = true) (hf1 : fitsB x1 = false) :
    Calls Try.prog 11 #[.slice A0 x0.length c0, .slice A1 x1.length c1, .agg #[.int .i64 x2_0, .int .i64 x2_1]] W fun e W' => e = .returned (.bool true) ∧ Below W.heap.size W W' := by
  have HF := Lib.hid hf
  have HF1 := Lib.hid hf1
  clear hf1
  clear hf
  have HC := Lib.hid C0
  have HC1 := Lib.hid C1
  have hbx := below_alloc (Below.refl W.heap.size W) (.cells #[.int .i64 x2_0, .int .i64 x2_1] 55)
  have hkx := blk_new W (.cells #[.int .i64 x2_0, .int .i64 x2_1] 55)
  obtain ⟨X0, hX0⟩ : ∃ X0, W.alloc (.cells #[.int .i64 x2_0, .int .i64 x2_1] 55) = X0 := ⟨_, rfl⟩
  rw [hX0] at hbx hkx
  have hdx : Below X0.heap.size X0 X0.drew := below_drew1 (Below.refl _ _)
  obtain ⟨X, hX1⟩ : ∃ X, X0.drew = X := ⟨_, rfl⟩
  have hX : (W.alloc (.cells #[.int .i64 x2_0, .int .i64 x2_1] 55)).drew = X := by rw [hX0]; exact hX1
  rw [hX1] at hdx
  have q0 := blk_cell (blk_below hkx hdx) 0
  have q1 := blk_cell (blk_below hkx hdx) 1
  have HBX := Lib.hid (hbx.trans (hdx.mono hbx.size))
  clear C0 C1 hbx hkx hdx hX0 hX1
  go_enter Try.func11, Try.ntmps11
  go_wp2
  refine start_ (n := 6) (S := fun w' => w'.cell? ⟨W.heap.size, 0, none⟩ = some (.int .i64 x2_0) ∧ w'.cell? ⟨W.heap.size, 1, none⟩ = some (.int .i64 x2_1)) (ds := []) #[false, false, false, false, false, false] (by kernel_rfl) rfl rfl ⟨(by rw [hX]; exact q0), (by rw [hX]; exact q1)⟩ (fun hHeld => ?_)
  refine pure_ (i := 0) (N := some 20) (v := ?_) (a' := ?_) #[true, false, false, false, false, false] rfl rfl (by kernel_rfl) (fun _ _ _ h => h) (Or.inl ⟨by rfl, ?_⟩) ?_ ?_
  rotate_left
  · intro w'
    go_simp
    with_reducible rfl
  rotate_left
  · simp only [Act.put, List.setIfInBounds_toArray, List.set_cons_zero, List.set_cons_succ]
    rfl
  refine pure_ (i := 2) (N := some 22) (v := ?_) (a' := ?_) #[true, false, true, false, false, false] rfl rfl (by kernel_rfl) (fun _ _ _ h => h) (Or.inl ⟨by rfl, ?_⟩) ?_ ?_
  rotate_left
  · intro w'
    go_simp
    with_reducible rfl
  rotate_left
  · simp only [Act.put, List.setIfInBounds_toArray, List.set_cons_zero, List.set_cons_succ]
    rfl
  refine take_ (i := 1) (N := some 21) (v := ?_) (a' := ?_) #[true, true, true, false, false, false] rfl rfl (by kernel_rfl) (fun _ _ _ h => h) (Or.inl ⟨by rfl, ?_⟩) hHeld ?_ ?_
  rotate_left
  · rintro w' ⟨s0, s1⟩
    go_simp
    with_reducible rfl
  rotate_left
  · simp only [Act.put, List.setIfInBounds_toArray, List.set_cons_zero, List.set_cons_succ]
    rfl
  refine pure_ (i := 4) (N := some 7) (v := ?_) (a' := ?_) #[true, true, true, false, true, false] rfl rfl (by kernel_rfl) (fun _ _ _ h => h) (Or.inl ⟨by rfl, ?_⟩) ?_ ?_
  rotate_left
  · intro w'
    go_simp
    with_reducible rfl
  rotate_left
  · simp only [Act.put, List.setIfInBounds_toArray, List.set_cons_zero, List.set_cons_succ]
    rfl
  refine take_ (i := 3) (N := some 23) (v := ?_) (a' := ?_) #[true, true, true, true, true, false] rfl rfl (by kernel_rfl) (fun _ _ _ h => h) (Or.inl ⟨by rfl, ?_⟩) hHeld ?_ ?_
  rotate_left
  · rintro w' ⟨s0, s1⟩
    go_simp
    with_reducible rfl
  rotate_left
  · simp only [Act.put, List.setIfInBounds_toArray, List.set_cons_zero, List.set_cons_succ]
    rfl
  refine pure_ (i := 5) (N := some 8) (v := ?_) (a' := ?_) #[true, true, true, true, true, true] rfl rfl (by kernel_rfl) (fun _ _ _ h => h) (Or.inl ⟨by rfl, ?_⟩) ?_ ?_
  rotate_left
  · intro w'
    go_simp
    with_reducible rfl
  rotate_left
  · simp only [Act.put, List.setIfInBounds_toArray, List.set_cons_zero, List.set_cons_succ]
    rfl
  refine done_ (by kernel_rfl) ?_

  rw [hX]
  clear q0 q1
  go_wp2_with (first
    | (go_at_call 38; have hx := HB3; clear hx; go_loud (refine (lives_calls _).mono ?_; rintro e w9 ⟨rfl, hb9⟩; have HB9 := Lib.hid (HB3.out.trans (hb9.mono HB3.out.size)); clear hb9))
    | (go_at_call 43; have hx := HB2; clear hx; go_loud (refine (fits_calls x1 A1 c1 _ (Kd.C_below HC1.out HB2.out) hm1).mono ?_; rw [HF1.out]; rintro e w3 ⟨rfl, hb3⟩; have HB3 := Lib.hid (HB2.out.trans (hb3.mono HB2.out.size)); clear hb3))
    | (go_at_call 43; go_loud (refine (fits_calls x0 A0 c0 _ (Kd.C_below HC.out HB1.out) hm).mono ?_; rw [HF.out]; rintro e w2 ⟨rfl, hb2⟩; have HB2 := Lib.hid (HB1.out.trans (hb2.mono HB1.out.size)); clear hb2))
    | (go_at_call 38; go_loud (refine (lives_calls _).mono ?_; rintro e w1 ⟨rfl, hb1⟩; have HB1 := Lib.hid (HBX.out.trans (hb1.mono HBX.out.size)); clear hb1)))
  go_ret
  exact ⟨rfl, HB9.out⟩
end Go.Proofs.Ytnipbfhfaefieaa.Sl
/-! slice: SliceJoins, a join that is too long. -/
namespace Go.Proofs.Ytnipbfhfaefieaa.Sl
open Go.RowKit Go Go.Proofs.YtnipbfhfaefieaaW.PrintWords Go.Proofs.YtnipbfhfaefieaaW.PrintMore Go.Proofs.YtnipbfhfaefieaaW.PrintLast Go.Proofs.Ytnipbfhfaefieaa.Bts Go.Proofs.Ytnipbfhfaefieaa.Fra Go.Proofs.Ytnipbfhfaefieaa.ArnP Go.Proofs.Ytnipbfhfaefieaa.Arn Go.Proofs.Ytnipbfhfaefieaa.Ao Go.Proofs.Ytnipbfhfaefieaa.Pv Go.Proofs.Ytnipbfhfaefieaa.ValPure Go.Proofs.Ytnipbfhfaefieaa.Vl
theorem vx_le (r t x : Nat) : vx r t x ≤ 2 := by
  unfold vx
  have := hold_le r x
  have := hold_le t x
  omega
set_option maxHeartbeats 8000000 in
set_option maxRecDepth 100000 in
theorem joins_long (A0 : Option Addr) (c0 : Nat) (x0 : List V3) (A1 : Option Addr) (c1 : Nat) (x1 : List V3) (x2_0 : Int) (x2_1 : Int) (W : World) (C0 : kVal.C W A0 x0.length x0) (C1 : kVal.C W A1 x1.length x1) (hm : x0.length ≤ 4611686018427387904) (hm1 : x1.length ≤ 4611686018427387904) (hf : fitsB x0 = true) (hf1 : fitsB x1 = true) (hx60 : x0.length ≤ 2000) (hx61 : x1.length ≤ 2000) (N M : Nat) (hN : (IntKind.u64.wrap x2_0).tmod 700 = N) (hN2 : N < 700) (hN3 : wrap64 (N : Int) = N) (hM : (IntKind.u64.wrap x2_1).tmod 700 = M) (hM2 : M < 700) (hM3 : wrap64 (M : Int) = M) (hbig : 1024 < N + M) :
    Calls Try.prog 11 #[.slice A0 x0.length c0, .slice A1 x1.length c1, .agg #[.int .i64 x2_0, .int .i64 x2_1]] W fun e W' => e = .returned (.bool true) ∧ Below W.heap.size W W' := by
  have hlen := fillL_len x0 N
  have hlen1 := fillL_len x1 M
  have HLEN := Lib.hid hlen
  have HLEN1 := Lib.hid hlen1
  have HSZ := Lib.hid (And.intro (fill_size hf N) (fill_size hf1 M))
  have hsm : N ≤ 1024 := by (clear hN hM; omega)
  have hsm1 : M ≤ 1024 := by (clear hN hM; omega)
  have hw : wrap64 ((N : Int) + (M : Int)) = (N : Int) + (M : Int) := by unfold wrap64; clear hm hm1 hN hM; omega
  have HF := Lib.hid hf
  have HF1 := Lib.hid hf1
  have hbig' : (1024 : Int) < (N : Int) + (M : Int) := by clear hm hm1 hN hM; omega
  clear hf hf1 hlen hlen1
  have HC := Lib.hid C0
  have HC1 := Lib.hid C1
  have hbx := below_alloc (Below.refl W.heap.size W) (.cells #[.int .i64 x2_0, .int .i64 x2_1] 55)
  have hkx := blk_new W (.cells #[.int .i64 x2_0, .int .i64 x2_1] 55)
  obtain ⟨X0, hX0⟩ : ∃ X0, W.alloc (.cells #[.int .i64 x2_0, .int .i64 x2_1] 55) = X0 := ⟨_, rfl⟩
  rw [hX0] at hbx hkx
  have hdx : Below X0.heap.size X0 X0.drew := below_drew1 (Below.refl _ _)
  obtain ⟨X, hX1⟩ : ∃ X, X0.drew = X := ⟨_, rfl⟩
  have hX : (W.alloc (.cells #[.int .i64 x2_0, .int .i64 x2_1] 55)).drew = X := by rw [hX0]; exact hX1
  rw [hX1] at hdx
  have q0 := blk_cell (blk_below hkx hdx) 0
  have q1 := blk_cell (blk_below hkx hdx) 1
  have HBX := Lib.hid (hbx.trans (hdx.mono hbx.size))
  clear C0 C1 hbx hkx hdx hX0 hX1
  go_enter Try.func11, Try.ntmps11
  go_wp2
  refine start_ (n := 6) (S := fun w' => w'.cell? ⟨W.heap.size, 0, none⟩ = some (.int .i64 x2_0) ∧ w'.cell? ⟨W.heap.size, 1, none⟩ = some (.int .i64 x2_1)) (ds := []) #[false, false, false, false, false, false] (by kernel_rfl) rfl rfl ⟨(by rw [hX]; exact q0), (by rw [hX]; exact q1)⟩ (fun hHeld => ?_)
  refine pure_ (i := 0) (N := some 20) (v := ?_) (a' := ?_) #[true, false, false, false, false, false] rfl rfl (by kernel_rfl) (fun _ _ _ h => h) (Or.inl ⟨by rfl, ?_⟩) ?_ ?_
  rotate_left
  · intro w'
    go_simp
    with_reducible rfl
  rotate_left
  · simp only [Act.put, List.setIfInBounds_toArray, List.set_cons_zero, List.set_cons_succ]
    rfl
  refine pure_ (i := 2) (N := some 22) (v := ?_) (a' := ?_) #[true, false, true, false, false, false] rfl rfl (by kernel_rfl) (fun _ _ _ h => h) (Or.inl ⟨by rfl, ?_⟩) ?_ ?_
  rotate_left
  · intro w'
    go_simp
    with_reducible rfl
  rotate_left
  · simp only [Act.put, List.setIfInBounds_toArray, List.set_cons_zero, List.set_cons_succ]
    rfl
  refine take_ (i := 1) (N := some 21) (v := ?_) (a' := ?_) #[true, true, true, false, false, false] rfl rfl (by kernel_rfl) (fun _ _ _ h => h) (Or.inl ⟨by rfl, ?_⟩) hHeld ?_ ?_
  rotate_left
  · rintro w' ⟨s0, s1⟩
    go_simp
    with_reducible rfl
  rotate_left
  · simp only [Act.put, List.setIfInBounds_toArray, List.set_cons_zero, List.set_cons_succ]
    rfl
  refine pure_ (i := 4) (N := some 7) (v := ?_) (a' := ?_) #[true, true, true, false, true, false] rfl rfl (by kernel_rfl) (fun _ _ _ h => h) (Or.inl ⟨by rfl, ?_⟩) ?_ ?_
  rotate_left
  · intro w'
    go_simp
    with_reducible rfl
  rotate_left
  · simp only [Act.put, List.setIfInBounds_toArray, List.set_cons_zero, List.set_cons_succ]
    rfl
  refine take_ (i := 3) (N := some 23) (v := ?_) (a' := ?_) #[true, true, true, true, true, false] rfl rfl (by kernel_rfl) (fun _ _ _ h => h) (Or.inl ⟨by rfl, ?_⟩) hHeld ?_ ?_
  rotate_left
  · rintro w' ⟨s0, s1⟩
    go_simp
    with_reducible rfl
  rotate_left
  · simp only [Act.put, List.setIfInBounds_toArray, List.set_cons_zero, List.set_cons_succ]
    rfl
  refine pure_ (i := 5) (N := some 8) (v := ?_) (a' := ?_) #[true, true, true, true, true, true] rfl rfl (by kernel_rfl) (fun _ _ _ h => h) (Or.inl ⟨by rfl, ?_⟩) ?_ ?_
  rotate_left
  · intro w'
    go_simp
    with_reducible rfl
  rotate_left
  · simp only [Act.put, List.setIfInBounds_toArray, List.set_cons_zero, List.set_cons_succ]
    rfl
  refine done_ (by kernel_rfl) ?_

  rw [hX]
  clear q0 q1
  go_wp2_with (first
    | (go_at_call 22; have hx := HAB10; clear hx; go_loud (refine (live_AO _ HAB10.out).mono ?_; rintro e w11 ⟨rfl, hw11⟩; subst hw11))
    | (go_at_call 56; have hjb := below_alloc (Below.refl (w8.alloc (.cells #[.int .i64 (M : Int), .int .i64 r2, .int .i64 t2] 61)).heap.size (w8.alloc (.cells #[.int .i64 (M : Int), .int .i64 r2, .int .i64 t2] 61))) (.cells #[.int .i64 (N : Int), .int .i64 (r : Int), .int .i64 (t : Int), .int .i64 (M : Int), .int .i64 (r2 : Int), .int .i64 (t2 : Int)] 61); have HJA := Lib.hid (HAB8.out.below hjb); have HJB := Lib.hid hjb; clear hjb; go_loud (refine (join_long _ N r t M r2 t2 (fillL x0 N) (fillL x1 M) _ HJA.out HVV8.out HV8.out (fun z => by show vx r t z ≤ no0 z + vx r t z + vx r2 t2 z; (clear hN hM; omega)) (fun z => by show vx r2 t2 z ≤ no0 z + vx r t z + vx r2 t2 z; (clear hN hM; omega)) (fun z => by have := vx_le r t z; have := vx_le r2 t2 z; show no0 z + vx r t z + vx r2 t2 z ≤ _; have : no0 z = 0 := rfl; (clear hN hM; omega)) (by rw [HLEN.out, HLEN1.out]; (clear hN hM; omega)) (by rw [HLEN.out, HLEN1.out]; (clear hN hM; omega)) (by (clear hN hM; omega)) (new1 w8 (.cells #[.int .i64 (M : Int), .int .i64 r2, .int .i64 t2] 61) (.cells #[.int .i64 (N : Int), .int .i64 (r : Int), .int .i64 (t : Int), .int .i64 (M : Int), .int .i64 (r2 : Int), .int .i64 (t2 : Int)] 61))).mono ?_; rintro e w10 ⟨O10, f10, rfl, HA10, HF10⟩; have HAB10 := Lib.hid (HA10.out.below (below_alloc (Below.refl _ _) (.cells #[.int .i64 0, .int .i64 0, .int .i64 0] 61))); have hfr10 := (((Fr.of_new (S := fun j => W.heap.size ≤ j) (HB8.out.trans (HJB.out.mono HB8.out.size))).then_ HF10.out (fun i hi => .inl (HO8c.out i hi))).more (below_alloc (Below.refl _ _) (.cells #[.int .i64 0, .int .i64 0, .int .i64 0] 61))); have HB10 := Lib.hid (Fr.below hfr10 (fun _ h => h) (Nat.le_refl _)); clear hfr10))
    | (go_at_call 22; go_loud (refine (live_AO _ HAB8.out).mono ?_; rintro e w9 ⟨rfl, hw9⟩; subst hw9; have HLIV := Lib.hid trivial))
    | (go_at_call 40; have hx := HV7; clear hx; go_loud (refine (from_ok (rest := fun z => no0 z + vx r t z) (Q := fun j => w5.heap.size ≤ j ∧ j < w6.heap.size) M (fillL x1 M) _ _ HAB7.out (by have := HR67.out; exact this) (fun j hj hj2 => by rcases HO7b.out j hj2 with q | q <;> (clear hN hM; omega)) HLEN1.out hsm1 (fun z => by have := vx_le r t z; show no0 z + vx r t z ≤ _; have : no0 z = 0 := rfl; (clear hN hM; omega)) (by (clear hN hM; omega))).mono ?_; rintro e w8 ⟨r2, t2, O8, f8, live8, rfl, HA8, HV8, HK8, HO8, HF8, hl8⟩; have hs78 := HF8.out.size; have hw7 := blk_lt HVB7.out; have HNO7 := Lib.hid (show ¬ O7 w7.heap.size from fun q => by have := HA7.out.lt _ q; (clear hN hM; omega)); have HR58 := Lib.hid ((HR57.out.fr kVal_K HF8.out (fun j hj hj2 => by rcases HO7b.out j hj2 with q | q <;> (clear hN hM; omega))).below (below_alloc (Below.refl _ _) (.cells #[.int .i64 (M : Int), .int .i64 r2, .int .i64 t2] 61))); have HR68 := Lib.hid ((HR67.out.fr kVal_K HF8.out (fun j hj hj2 => by rcases HO7b.out j hj2 with q | q <;> (clear hN hM; omega))).below (below_alloc (Below.refl _ _) (.cells #[.int .i64 (M : Int), .int .i64 r2, .int .i64 t2] 61))); have HAB8 := Lib.hid (HA8.out.below (below_alloc (Below.refl _ _) (.cells #[.int .i64 (M : Int), .int .i64 r2, .int .i64 t2] 61))); have HVB8 := Lib.hid (blk_alloc (HF8.out.blk HVB7.out HNO7.out) (.cells #[.int .i64 (M : Int), .int .i64 r2, .int .i64 t2] 61)); have HWB8 := Lib.hid (blk_new w8 (.cells #[.int .i64 (M : Int), .int .i64 r2, .int .i64 t2] 61)); have HVV8 := Lib.hid (HV7.out.same (fun j h0 hj => KeepR.same HK8.out h0 (by show 0 < no0 j + vx r t j; (clear hN hM; omega)))); have hfr8 := (((Fr.of_new (S := fun j => W.heap.size ≤ j) HB7.out).then_ HF8.out (fun i hi => .inl (HO7c.out i hi))).more (below_alloc (Below.refl _ _) (.cells #[.int .i64 (M : Int), .int .i64 r2, .int .i64 t2] 61))); have HB8 := Lib.hid (Fr.below hfr8 (fun _ h => h) (Nat.le_refl _)); have HO8c := Lib.hid (show ∀ j, O8 j → W.heap.size ≤ j from fun j hj => (HO8.out j hj).elim (fun q => HO7c.out j q) (fun q => by have := HB7.out.size; (clear hN hM; omega))); have HNO8 := Lib.hid (show ¬ O8 w7.heap.size from fun q => by rcases HO8.out _ q with q2 | q2; exact HNO7.out q2; (clear hN hM; omega)); have HNW8 := Lib.hid (show ¬ O8 w8.heap.size from fun q => by have := HA8.out.lt _ q; (clear hN hM; omega)); have HO8b := Lib.hid (show ∀ j, O8 j → j < w4.heap.size ∨ w6.heap.size ≤ j from fun j hj => (HO8.out j hj).elim (fun q => HO7b.out j q) (fun q => by (clear hN hM; omega))); have v0 := blk_cell HVB8.out 0; have v1 := blk_cell HVB8.out 1; have v2 := blk_cell HVB8.out 2; have u0 := blk_cell HWB8.out 0; have u1 := blk_cell HWB8.out 1; have u2 := blk_cell HWB8.out 2; clear hfr8 hw7))
    | (go_at_call 40; go_loud (refine (from_ok (rest := no0) (Q := fun j => w4.heap.size ≤ j ∧ j < w5.heap.size) N (fillL x0 N) _ _ HA6.out (by have := HR56.out; exact this) (fun j hj hj2 => by have := HOL.out j hj2; (clear hN hM; omega)) HLEN.out hsm (fun _ => Nat.zero_le _) (by decide)).mono ?_; rintro e w7 ⟨r, t, O7, f7, live7, rfl, HA7, HV7, HK7, HO7, HF7, hl7⟩; have hs67 := HF7.out.size; have HR57 := Lib.hid ((HR56.out.fr kVal_K HF7.out (fun j hj hj2 => by have := HOL.out j hj2; (clear hN hM; omega))).below (below_alloc (Below.refl _ _) (.cells #[.int .i64 (N : Int), .int .i64 r, .int .i64 t] 61))); have HR67 := Lib.hid ((HR6.out.fr kVal_K HF7.out (fun j hj hj2 => by have := HOL.out j hj2; (clear hN hM; omega))).below (below_alloc (Below.refl _ _) (.cells #[.int .i64 (N : Int), .int .i64 r, .int .i64 t] 61))); have HAB7 := Lib.hid (HA7.out.below (below_alloc (Below.refl _ _) (.cells #[.int .i64 (N : Int), .int .i64 r, .int .i64 t] 61))); have HVB7 := Lib.hid (blk_new w7 (.cells #[.int .i64 (N : Int), .int .i64 r, .int .i64 t] 61)); have hfr7 := (((Fr.of_new (S := fun j => W.heap.size ≤ j) HB6.out).then_ HF7.out (fun i hi => .inl (by have := HON.out i hi; have := HB3.out.size; (clear hN hM; omega)))).more (below_alloc (Below.refl _ _) (.cells #[.int .i64 (N : Int), .int .i64 r, .int .i64 t] 61))); have HB7 := Lib.hid (Fr.below hfr7 (fun _ h => h) (Nat.le_refl _)); have HO7b := Lib.hid (show ∀ j, O7 j → j < w4.heap.size ∨ w6.heap.size ≤ j from fun j hj => (HO7.out j hj).imp (fun q => HOL.out j q) id); have HO7c := Lib.hid (show ∀ j, O7 j → W.heap.size ≤ j from fun j hj => (HO7.out j hj).elim (fun q => by have := HON.out j q; have := HB3.out.size; (clear hN hM; omega)) (fun q => by have := HB6.out.size; (clear hN hM; omega))); clear hfr7))
    | (go_at_call 39; have hx := HR5; clear hx; go_loud (refine (fill_calls x1 A1 c1 M _ (Kd.C_below HC1.out HB5.out) (by (clear hN hM; omega)) hx61).mono ?_; rintro e w6 ⟨u6, rfl, hR6, hB6⟩; have HB6 := Lib.hid (HB5.out.trans (hB6.mono HB5.out.size)); have hs56 := hB6.size; have HA6 := Lib.hid (HA5.out.below hB6); have HR56 := Lib.hid (HR5.out.below hB6); obtain ⟨A6, c6, e6, hc6, _⟩ := id (RowIn.of_R hR6); rw [HLEN1.out] at e6 hc6; subst e6; have HR6 := Lib.hid (row_lt (RowIn.of_R hR6) (fun j hj hjl => (⟨hj, hjl⟩ : w5.heap.size ≤ j ∧ j < w6.heap.size))); clear hR6 hB6))
    | (go_at_call 39; go_loud (refine (fill_calls x0 A0 c0 N _ (Kd.C_below HC.out HB4.out) (by (clear hN hM; omega)) hx60).mono ?_; rintro e w5 ⟨u5, rfl, hR5, hB5⟩; have HB5 := Lib.hid (HB4.out.trans (hB5.mono HB4.out.size)); have hs45 := hB5.size; have HA5 := Lib.hid (HA4.out.below hB5); obtain ⟨A5, c5, e5, hc5, _⟩ := id (RowIn.of_R hR5); rw [HLEN.out] at e5 hc5; subst e5; have HR5 := Lib.hid (row_lt (RowIn.of_R hR5) (fun j hj hjl => (⟨hj, hjl⟩ : w4.heap.size ≤ j ∧ j < w5.heap.size))); clear hR5 hB5))
    | (go_at_call 20; go_loud (refine (new_AO 8192 _ (by decide) (by decide)).mono ?_; rintro e w4 ⟨a, O, rfl, hA4, hO4, hB4⟩; rw [no0_vx] at hA4; have HA4 := Lib.hid hA4; have HON := Lib.hid hO4; have HOL := Lib.hid hA4.lt; have HB4 := Lib.hid (HB3.out.trans (hB4.mono HB3.out.size)); have hs34 := hB4.size; clear hA4 hO4 hB4))
    | (go_at_call 43; have hx := HB2; clear hx; go_loud (refine (fits_calls x1 A1 c1 _ (Kd.C_below HC1.out HB2.out) hm1).mono ?_; rw [HF1.out]; rintro e w3 ⟨rfl, hb3⟩; have HB3 := Lib.hid (HB2.out.trans (hb3.mono HB2.out.size)); clear hb3))
    | (go_at_call 43; go_loud (refine (fits_calls x0 A0 c0 _ (Kd.C_below HC.out HB1.out) hm).mono ?_; rw [HF.out]; rintro e w2 ⟨rfl, hb2⟩; have HB2 := Lib.hid (HB1.out.trans (hb2.mono HB1.out.size)); clear hb2))
    | (go_at_call 38; go_loud (refine (lives_calls _).mono ?_; rintro e w1 ⟨rfl, hb1⟩; have HB1 := Lib.hid (HBX.out.trans (hb1.mono HBX.out.size)); clear hb1)))
  go_ret
  exact ⟨by simp, HB10.out⟩
end Go.Proofs.Ytnipbfhfaefieaa.Sl
