/- Texts of this claim, laid together: PvE, PvF, PvG, PvDset, PvH, PvI, PvJ, PvK. -/
import Derived.Test.YtnipbfhfaefieaaUi
/-! pvec: one value more at a cell. -/
namespace Go.Proofs.Ytnipbfhfaefieaa.Pv
open Go.RowKit Go Go.Proofs.YtnipbfhfaefieaaW.PrintWords Go.Proofs.YtnipbfhfaefieaaW.PrintMore Go.Proofs.YtnipbfhfaefieaaW.PrintLast Go.Proofs.Ytnipbfhfaefieaa.Bts Go.Proofs.Ytnipbfhfaefieaa.Fra Go.Proofs.Ytnipbfhfaefieaa.ArnP Go.Proofs.Ytnipbfhfaefieaa.Arn Go.Proofs.Ytnipbfhfaefieaa.Ao
abbrev zf : Nat → Nat := fun _ => 0
abbrev ValB (w : World) (b : Nat) (q n : Int) (s : ByteArray) : Prop := w.heap[b]? = some (.cells #[.int .u8 q, .int .i64 n, .string s] 66 (0, 0))
/-- A cell's values become others, in its own row or a new one. -/
theorem CBO.vals {w w1 : World} {O : Nat → Prop} {lo b : Nat} {v v1 k : Value} {c : Cell} {vals : List (Int × Int × ByteArray)} (h : CBO w O lo b v k c) (hlt : ∀ j, O j → j < w.heap.size) (hf : Fr (fun j => v.ownBlock = some j) w w1) (hr : VR w1 lo v1 vals) (hv : ∀ j, v1.ownBlock = some j → v.ownBlock = some j ∨ w.heap.size ≤ j) :
    CBO (w1.setCell ⟨b, 3, none⟩ v1) O lo b v1 k {c with vals := vals} ∧ Fr (Wr O b v k) w (w1.setCell ⟨b, 3, none⟩ v1) := by
  have hbl := blk_lt h.blk
  have hkl : ∀ j, k.ownBlock = some j → j < w.heap.size := fun j hj => by obtain ⟨q, ho⟩ := Kd.R_own h.kr; exact own_lt ho j hj
  have hb1 := hf.blk h.blk (fun e => (h.vk b e).2.1 rfl)
  have hs : Fr (fun j => j = b) w1 (w1.setCell ⟨b, 3, none⟩ v1) := Fr.set b 3 v1
  have hvb : ∀ j, v1.ownBlock = some j → j ≠ b := fun j hj e => by
    rcases hv j hj with q | q
    · exact (h.vk j q).2.1 e
    · omega
  refine ⟨⟨(blk_put hb1 3 v1 rfl).trans rfl, ?_, ?_, fun j hj => ⟨fun e => ?_, hvb j hj, fun e => ?_⟩, h.kk, h.no⟩, (hf.mono (fun j hj => .inl (.inr (.inr (.inl hj))))).then_ hs (fun j hj => .inl (.inr (.inl hj)))⟩
  · exact Kd.R_mono (Kd.R_kept (Kd.R_tight2 (d := kVal) rfl hr) hs.kept (fun j hj e => hvb j hj.1.symm e)) (fun j hj => hj.2)
  · exact Kd.R_mono (Kd.R_kept (Kd.R_mono (Kd.R_kept (Kd.R_tight2 (d := Kd.int .i64) rfl h.kr) hf.kept (fun j hj e => (h.vk j e).1 hj.1.symm)) (fun j hj => hj)) hs.kept (fun j hj e => (h.kk j hj.1.symm).1 e)) (fun j hj => hj.2)
  · rcases hv j hj with q | q
    · exact (h.vk j q).1 e
    · have := hkl j e; omega
  · rcases hv j hj with q | q
    · exact (h.vk j q).2.2 e
    · have := hlt j e; omega
set_option maxHeartbeats 2000000 in
set_option maxRecDepth 100000 in
theorem cb_push {O0 : Nat → Prop} {a : Nat} {f0 : Nat → Cell} {most : Int} {rest : Nat → Nat} {op : Nat → Bool} {c : Cell} {xb : Nat} {q n : Int} {s : ByteArray} (w0 : World) (hx : ValB w0 xb q n s) (hxO : ¬ O0 xb) (hl : c.vals.length < 1000) (hkl : c.kids.length ≤ 1000) (hkn : ∀ z ∈ c.kids, 0 ≤ z) :
    Cb 79 (fun p => #[p, .pointer (some ⟨xb, 0, none⟩)]) w0 O0 a most rest zf op f0 0 c (fun _ c' => c' = {c with vals := c.vals ++ [(q, n, s)]}) := by
  intro w O f live lo b v k hA hF hO hlo hlo2 hb0 hC hK hS hlm
  have hxl := blk_lt hx
  have hxw := hF.blk hx hxO
  obtain ⟨A1, c1, e1⟩ := Kd.R_slice hC.vr
  subst e1
  have hd : Below w.heap.size w w.drew := below_drew1 (Below.refl _ _)
  have hCd := hC.below hd
  have hxd := blk_below hxw hd
  have hlt := hA.lt
  have p3 := blk_cell hCd.blk 3
  have x0 := blk_cell hxd 0
  have x1 := blk_cell hxd 1
  have x2 := blk_cell hxd 2
  have HC := Lib.hid hCd
  have HX := Lib.hid hxd
  have HA := Lib.hid hA
  have HLT := Lib.hid hlt
  have hsz : w.drew.heap.size = w.heap.size := by simp
  clear hK hS hF hO hC hCd hxw hxd hA hd hlt hx
  go_enter Try.func79, Try.ntmps79
  refine start_ (n := 11) (S := fun w' => w'.cell? ⟨b, 3, none⟩ = some (.slice A1 c.vals.length c1) ∧ w'.cell? ⟨xb, 0, none⟩ = some (.int .u8 q) ∧ w'.cell? ⟨xb, 1, none⟩ = some (.int .i64 n) ∧ w'.cell? ⟨xb, 2, none⟩ = some (.string s)) (ds := [7, 10]) #[false, false, false, false, false, false, false, false, false, false, false] (by kernel_rfl) rfl rfl ⟨p3, x0, x1, x2⟩ (fun hHeld => ?_)
  refine pure_ (i := 0) (N := some 3) (v := ?_) (a' := ?_) #[true, false, false, false, false, false, false, false, false, false, false] rfl rfl (by kernel_rfl) (fun _ _ _ h => h) (Or.inl ⟨by rfl, ?_⟩) ?_ ?_
  rotate_left
  · intro w'
    go_simp
    with_reducible rfl
  rotate_left
  · simp only [Act.put, List.setIfInBounds_toArray, List.set_cons_zero, List.set_cons_succ, i64_w, i32_w]
    rfl
  refine pure_ (i := 1) (N := some 4) (v := ?_) (a' := ?_) #[true, true, false, false, false, false, false, false, false, false, false] rfl rfl (by kernel_rfl) (fun _ _ _ h => h) (Or.inl ⟨by rfl, ?_⟩) ?_ ?_
  rotate_left
  · intro w'
    go_simp
    with_reducible rfl
  rotate_left
  · simp only [Act.put, List.setIfInBounds_toArray, List.set_cons_zero, List.set_cons_succ, i64_w, i32_w]
    rfl
  refine pure_ (i := 2) (N := some 5) (v := ?_) (a' := ?_) #[true, true, true, false, false, false, false, false, false, false, false] rfl rfl (by kernel_rfl) (fun _ _ _ h => h) (Or.inl ⟨by rfl, ?_⟩) ?_ ?_
  rotate_left
  · intro w'
    go_simp
    with_reducible rfl
  rotate_left
  · simp only [Act.put, List.setIfInBounds_toArray, List.set_cons_zero, List.set_cons_succ, i64_w, i32_w]
    rfl
  refine pure_ (i := 3) (N := some 6) (v := ?_) (a' := ?_) #[true, true, true, true, false, false, false, false, false, false, false] rfl rfl (by kernel_rfl) (fun _ _ _ h => h) (Or.inl ⟨by rfl, ?_⟩) ?_ ?_
  rotate_left
  · intro w'
    go_simp
    with_reducible rfl
  rotate_left
  · simp only [Act.put, List.setIfInBounds_toArray, List.set_cons_zero, List.set_cons_succ, i64_w, i32_w]
    rfl
  refine take_ (i := 4) (N := some 7) (v := ?_) (a' := ?_) #[true, true, true, true, true, false, false, false, false, false, false] rfl rfl (by kernel_rfl) (fun _ _ _ h => h) (Or.inl ⟨by rfl, ?_⟩) hHeld ?_ ?_
  rotate_left
  · rintro w' ⟨s0, s1, s2, s3⟩
    go_simp
    with_reducible rfl
  rotate_left
  · simp only [Act.put, List.setIfInBounds_toArray, List.set_cons_zero, List.set_cons_succ, i64_w, i32_w]
    rfl
  refine take_ (i := 5) (N := some 8) (v := ?_) (a' := ?_) #[true, true, true, true, true, true, false, false, false, false, false] rfl rfl (by kernel_rfl) (fun _ _ _ h => h) (Or.inl ⟨by rfl, ?_⟩) hHeld ?_ ?_
  rotate_left
  · rintro w' ⟨s0, s1, s2, s3⟩
    go_simp
    with_reducible rfl
  rotate_left
  · simp only [Act.put, List.setIfInBounds_toArray, List.set_cons_zero, List.set_cons_succ, i64_w, i32_w]
    rfl
  refine one_ (i := 6) (N := some 9) #[true, true, true, true, true, true, true, false, false, false, false] rfl rfl (by kernel_rfl) (by decide) (fun K hK => ?_)
  refine value_ (w1 := ?_) (v := ?_) (by rfl) rfl ?_ ?_
  rotate_left 2
  · go_simp
    constructor
    · rfl
    · rfl
  refine hK.out _ _ ⟨(pw_cell_below (below_alloc (Below.refl w.drew.heap.size w.drew) _) p3), (pw_cell_below (below_alloc (Below.refl w.drew.heap.size w.drew) _) x0), (pw_cell_below (below_alloc (Below.refl w.drew.heap.size w.drew) _) x1), (pw_cell_below (below_alloc (Below.refl w.drew.heap.size w.drew) _) x2)⟩ (fun hHeld => ?_)
  clear hK K
  refine norm_ (a' := ?_) ?_ ?_
  rotate_left
  · show Act.put _ (some 9) _ = _
    simp only [Act.put, List.setIfInBounds_toArray, List.set_cons_zero, List.set_cons_succ, i64_w, i32_w]
    rfl
  refine last_ (i := 7) (N := some 10) #[true, true, true, true, true, true, true, true, false, false, false] rfl rfl (by kernel_rfl) (by decide) (fun K hK => ?_)
  refine Kd.R_append_step kVal (w0 := w.drew) (W := w.drew) lo (by rfl) (.tmp 7) (.tmp 9) 41 66 (.agg #[.int .u8 0, .int .i64 0, .string (⟨#[]⟩ : ByteArray)]) 32 rfl Try.underlying41 ClV.infoVal rfl (by decide) (by decide) (.slice A1 c.vals.length c1) c.vals (q, n, s) [.int .u8 q, .int .i64 n, .string s] (fun j => lo ≤ j) (fun _ => False) rfl rfl ⟨_, _, rfl, rfl, _, _, rfl, rfl, rfl⟩ (fun _ h => h.elim) (fun j hj => by omega) HC.out.vr (Below.refl _ _) (by omega) (by omega) ?_
  intro v7 w7 hR7 hB7 hg7 hat7
  obtain ⟨A7, c7, e7⟩ := Kd.R_slice hR7
  subst e7
  have hcv := HC.out.vals (v1 := .slice A7 (c.vals ++ [(q, n, s)]).length c7) HLT.out (fr_grownBy hg7) hR7 (fun j hj => hat7.elim (fun e => .inl (e ▸ hj)) (fun ⟨b', e, hb'⟩ => .inr (by rw [e] at hj; cases hj; exact hb')))
  have hb7 := (fr_grownBy hg7).blk HC.out.blk (fun e => (HC.out.vk b e).2.1 rfl)
  have r3 := blk_cell hb7 3
  have z3 := blk_frozen hb7 3
  refine hK.out _ _ ?_
  clear hK K
  refine norm_ (a' := ?_) ?_ ?_
  rotate_left
  · show Act.put _ (some 10) _ = _
    simp only [Act.put, List.setIfInBounds_toArray, List.set_cons_zero, List.set_cons_succ, i64_w, i32_w]
    rfl
  refine pure_ (i := 8) (N := some 11) (v := ?_) (a' := ?_) #[true, true, true, true, true, true, true, true, true, false, false] rfl rfl (by kernel_rfl) (fun _ _ _ h => h) (Or.inl ⟨by rfl, ?_⟩) ?_ ?_
  rotate_left
  · intro w'
    go_simp
    with_reducible rfl
  rotate_left
  · simp only [Act.put, List.setIfInBounds_toArray, List.set_cons_zero, List.set_cons_succ, i64_w, i32_w]
    rfl
  refine pure_ (i := 9) (N := some 12) (v := ?_) (a' := ?_) #[true, true, true, true, true, true, true, true, true, true, false] rfl rfl (by kernel_rfl) (fun _ _ _ h => h) (Or.inl ⟨by rfl, ?_⟩) ?_ ?_
  rotate_left
  · intro w'
    go_simp
    with_reducible rfl
  rotate_left
  · simp only [Act.put, List.setIfInBounds_toArray, List.set_cons_zero, List.set_cons_succ, i64_w, i32_w]
    rfl
  refine last_ (i := 10) (N := none) #[true, true, true, true, true, true, true, true, true, true, true] rfl rfl (by kernel_rfl) (by decide) (fun K hK => ?_)
  refine skip_ (w1 := ?_) (by rfl) rfl ?_ ?_
  rotate_left
  · go_simp
    rfl
  refine hK.out _ _ ?_
  clear hK K
  refine done_ (by kernel_rfl) ?_

  go_end0
  have hln : (c.vals ++ [(q, n, s)]).length = c.vals.length + 1 := by simp
  rw [hln] at hcv
  have hd : Below w.heap.size w w.drew := below_drew1 (Below.refl _ _)
  have hb3 : Fr (fun j => j = b) w7 (w7.setCell ⟨b, 3, none⟩ (.slice A7 (c.vals.length + 1) c7)) := Fr.set b 3 _
  have hfa : Fr (fun j => (Value.slice A1 c.vals.length c1).ownBlock = some j ∨ j = b) w (w7.setCell ⟨b, 3, none⟩ (.slice A7 (c.vals.length + 1) c7)) := ((Fr.of_new hd).then_ (fr_grownBy hg7) (fun j hj => .inl (.inl hj))).then_ hb3 (fun j hj => .inl (.inr hj))
  have hA' := HA.out.move hfa (fun j hj e => e.elim (fun e => (HC.out.vk j e).2.2 hj) (fun e => HC.out.no (e ▸ hj)))
  have e1 : (fun x => rest x + zf x + kc c.kids x) = fun x => rest x + kc c.kids x := by funext x; show rest x + 0 + _ = _; omega
  rw [e1] at hA'
  exact ⟨rfl, O, f, live, {c with vals := c.vals ++ [(q, n, s)]}, _, _, hA', hcv.1, (Fr.of_new (S := Wr O b (.slice A1 c.vals.length c1) k) hd).then_ hcv.2 (fun j hj => .inl hj), fun j hj => .inl hj, by omega, KeepR.refl _ _ _, rfl, rfl, hkl, by rw [hln]; omega, hkn⟩
end Go.Proofs.Ytnipbfhfaefieaa.Pv
/-! pvec: a cell loses its last value; a value of a cell is another one. -/
namespace Go.Proofs.Ytnipbfhfaefieaa.Pv
open Go.RowKit Go Go.Proofs.YtnipbfhfaefieaaW.PrintWords Go.Proofs.YtnipbfhfaefieaaW.PrintMore Go.Proofs.YtnipbfhfaefieaaW.PrintLast Go.Proofs.Ytnipbfhfaefieaa.Bts Go.Proofs.Ytnipbfhfaefieaa.Fra Go.Proofs.Ytnipbfhfaefieaa.ArnP Go.Proofs.Ytnipbfhfaefieaa.Arn Go.Proofs.Ytnipbfhfaefieaa.Ao
set_option maxHeartbeats 2000000 in
set_option maxRecDepth 100000 in
theorem cb_pop {O0 : Nat → Prop} {a : Nat} {f0 : Nat → Cell} {most : Int} {rest : Nat → Nat} {op : Nat → Bool} {c : Cell} (w0 : World) (m : Nat) (hm : c.vals.length = m + 1) (hl : m ≤ 1000) (hkl : c.kids.length ≤ 1000) (hkn : ∀ z ∈ c.kids, 0 ≤ z) :
    Cb 85 (fun p => #[p]) w0 O0 a most rest zf op f0 0 c (fun _ c' => c' = {c with vals := c.vals.take m}) := by
  intro w O f live lo b v k hA hF hO hlo hlo2 hb0 hC hK hS hlm
  obtain ⟨inner, ho⟩ := Kd.R_own hC.vr
  rw [hm] at ho
  obtain ⟨g, c1, e1, hmc, _⟩ := own_some ho (by omega)
  subst e1
  have hd : Below w.heap.size w w.drew := below_drew1 (Below.refl _ _)
  have hCd := hC.below hd
  have hlt := hA.lt
  have p3 := blk_cell hCd.blk 3
  have y3 := blk_frozen hCd.blk 3
  have hcv := hCd.vals (v1 := .slice (some ⟨g, 0, none⟩) m c1) (w1 := w.drew) (vals := c.vals.take m) (fun j hj => by have := hlt j hj; simpa using this) (Fr.refl _ _) (Kd.R_take hCd.vr (by omega)) (fun j hj => .inl hj)
  have HC := Lib.hid hCd
  have HCV := Lib.hid hcv
  have HA := Lib.hid hA
  have HM := Lib.hid hm
  have hmc1 : (m : Int) ≤ (c1 : Int) := by omega
  have hw : wrap64 (m : Int) = (m : Int) := by unfold wrap64; omega
  clear hK hS hF hO hC hCd hA hd hlt hcv hm ho hmc
  go_enter Try.func85, Try.ntmps85
  refine start_ (n := 15) (S := fun w' => w'.cell? ⟨b, 3, none⟩ = some (.slice (some ⟨g, 0, none⟩) (m + 1) c1)) (ds := [14]) #[false, false, false, false, false, false, false, false, false, false, false, false, false, false, false] (by kernel_rfl) rfl rfl (p3) (fun hHeld => ?_)
  refine pure_ (i := 0) (N := some 2) (v := ?_) (a' := ?_) #[true, false, false, false, false, false, false, false, false, false, false, false, false, false, false] rfl rfl (by kernel_rfl) (fun _ _ _ h => h) (Or.inl ⟨by rfl, ?_⟩) ?_ ?_
  rotate_left
  · intro w'
    go_simp
    with_reducible rfl
  rotate_left
  · simp only [Act.put, List.setIfInBounds_toArray, List.set_cons_zero, List.set_cons_succ, i64_w, i32_w]
    rfl
  refine pure_ (i := 1) (N := some 3) (v := ?_) (a' := ?_) #[true, true, false, false, false, false, false, false, false, false, false, false, false, false, false] rfl rfl (by kernel_rfl) (fun _ _ _ h => h) (Or.inl ⟨by rfl, ?_⟩) ?_ ?_
  rotate_left
  · intro w'
    go_simp
    with_reducible rfl
  rotate_left
  · simp only [Act.put, List.setIfInBounds_toArray, List.set_cons_zero, List.set_cons_succ, i64_w, i32_w]
    rfl
  refine pure_ (i := 2) (N := some 4) (v := ?_) (a' := ?_) #[true, true, true, false, false, false, false, false, false, false, false, false, false, false, false] rfl rfl (by kernel_rfl) (fun _ _ _ h => h) (Or.inl ⟨by rfl, ?_⟩) ?_ ?_
  rotate_left
  · intro w'
    go_simp
    with_reducible rfl
  rotate_left
  · simp only [Act.put, List.setIfInBounds_toArray, List.set_cons_zero, List.set_cons_succ, i64_w, i32_w]
    rfl
  refine pure_ (i := 3) (N := some 5) (v := ?_) (a' := ?_) #[true, true, true, true, false, false, false, false, false, false, false, false, false, false, false] rfl rfl (by kernel_rfl) (fun _ _ _ h => h) (Or.inl ⟨by rfl, ?_⟩) ?_ ?_
  rotate_left
  · intro w'
    go_simp
    with_reducible rfl
  rotate_left
  · simp only [Act.put, List.setIfInBounds_toArray, List.set_cons_zero, List.set_cons_succ, i64_w, i32_w]
    rfl
  refine pure_ (i := 5) (N := some 7) (v := ?_) (a' := ?_) #[true, true, true, true, false, true, false, false, false, false, false, false, false, false, false] rfl rfl (by kernel_rfl) (fun _ _ _ h => h) (Or.inl ⟨by rfl, ?_⟩) ?_ ?_
  rotate_left
  · intro w'
    go_simp
    with_reducible rfl
  rotate_left
  · simp only [Act.put, List.setIfInBounds_toArray, List.set_cons_zero, List.set_cons_succ, i64_w, i32_w]
    rfl
  refine pure_ (i := 6) (N := some 8) (v := ?_) (a' := ?_) #[true, true, true, true, false, true, true, false, false, false, false, false, false, false, false] rfl rfl (by kernel_rfl) (fun _ _ _ h => h) (Or.inl ⟨by rfl, ?_⟩) ?_ ?_
  rotate_left
  · intro w'
    go_simp
    with_reducible rfl
  rotate_left
  · simp only [Act.put, List.setIfInBounds_toArray, List.set_cons_zero, List.set_cons_succ, i64_w, i32_w]
    rfl
  refine pure_ (i := 7) (N := some 9) (v := ?_) (a' := ?_) #[true, true, true, true, false, true, true, true, false, false, false, false, false, false, false] rfl rfl (by kernel_rfl) (fun _ _ _ h => h) (Or.inl ⟨by rfl, ?_⟩) ?_ ?_
  rotate_left
  · intro w'
    go_simp
    with_reducible rfl
  rotate_left
  · simp only [Act.put, List.setIfInBounds_toArray, List.set_cons_zero, List.set_cons_succ, i64_w, i32_w]
    rfl
  refine take_ (i := 4) (N := some 6) (v := ?_) (a' := ?_) #[true, true, true, true, true, true, true, true, false, false, false, false, false, false, false] rfl rfl (by kernel_rfl) (fun _ _ _ h => h) (Or.inl ⟨by rfl, ?_⟩) hHeld ?_ ?_
  rotate_left
  · intro w' s0
    go_simp
    with_reducible rfl
  rotate_left
  · simp only [Act.put, List.setIfInBounds_toArray, List.set_cons_zero, List.set_cons_succ, i64_w, i32_w]
    rfl
  refine take_ (i := 8) (N := some 10) (v := ?_) (a' := ?_) #[true, true, true, true, true, true, true, true, true, false, false, false, false, false, false] rfl rfl (by kernel_rfl) (fun _ _ _ h => h) (Or.inl ⟨by rfl, ?_⟩) hHeld ?_ ?_
  rotate_left
  · intro w' s0
    go_simp
    with_reducible rfl
  rotate_left
  · simp only [Act.put, List.setIfInBounds_toArray, List.set_cons_zero, List.set_cons_succ, i64_w, i32_w]
    rfl
  refine pure_ (i := 9) (N := some 11) (v := ?_) (a' := ?_) #[true, true, true, true, true, true, true, true, true, true, false, false, false, false, false] rfl rfl (by kernel_rfl) (fun _ _ _ h => h) (Or.inl ⟨by rfl, ?_⟩) ?_ ?_
  rotate_left
  · intro w'
    go_simp
    with_reducible rfl
  rotate_left
  · simp only [Act.put, List.setIfInBounds_toArray, List.set_cons_zero, List.set_cons_succ, i64_w, i32_w]
    rfl
  refine pure_ (i := 10) (N := some 12) (v := ?_) (a' := ?_) #[true, true, true, true, true, true, true, true, true, true, true, false, false, false, false] rfl rfl (by kernel_rfl) (fun _ _ _ h => h) (Or.inl ⟨by rfl, ?_⟩) ?_ ?_
  rotate_left
  · intro w'
    go_simp
    with_reducible rfl
  rotate_left
  · simp only [Act.put, List.setIfInBounds_toArray, List.set_cons_zero, List.set_cons_succ, i64_w, i32_w]
    rfl
  refine pure_ (i := 11) (N := some 13) (v := ?_) (a' := ?_) #[true, true, true, true, true, true, true, true, true, true, true, true, false, false, false] rfl rfl (by kernel_rfl) (fun _ _ _ h => h) (Or.inl ⟨by rfl, ?_⟩) ?_ ?_
  rotate_left
  · intro w'
    go_simp
    with_reducible rfl
  rotate_left
  · simp only [Act.put, List.setIfInBounds_toArray, List.set_cons_zero, List.set_cons_succ, i64_w, i32_w]
    rfl
  refine pure_ (i := 12) (N := some 14) (v := ?_) (a' := ?_) #[true, true, true, true, true, true, true, true, true, true, true, true, true, false, false] rfl rfl (by kernel_rfl) (fun _ _ _ h => h) (Or.inl ⟨by rfl, ?_⟩) ?_ ?_
  rotate_left
  · intro w'
    go_simp
    with_reducible rfl
  rotate_left
  · simp only [Act.put, List.setIfInBounds_toArray, List.set_cons_zero, List.set_cons_succ, i64_w, i32_w]
    rfl
  refine pure_ (i := 13) (N := some 15) (v := ?_) (a' := ?_) #[true, true, true, true, true, true, true, true, true, true, true, true, true, true, false] rfl rfl (by kernel_rfl) (fun _ _ _ h => h) (Or.inl ⟨by rfl, ?_⟩) ?_ ?_
  rotate_left
  · intro w'
    go_simp
    with_reducible rfl
  rotate_left
  · simp only [Act.put, List.setIfInBounds_toArray, List.set_cons_zero, List.set_cons_succ, i64_w, i32_w]
    rfl
  refine last_ (i := 14) (N := none) #[true, true, true, true, true, true, true, true, true, true, true, true, true, true, true] rfl rfl (by kernel_rfl) (by decide) (fun K hK => ?_)
  refine skip_ (w1 := ?_) (by rfl) rfl ?_ ?_
  rotate_left
  · go_simp
    rfl
  refine hK.out _ _ ?_
  clear hK K
  refine done_ (by kernel_rfl) ?_

  go_end0
  have hd : Below w.heap.size w w.drew := below_drew1 (Below.refl _ _)
  have hb3 : Fr (fun j => j = b) w.drew (w.drew.setCell ⟨b, 3, none⟩ (.slice (some ⟨g, 0, none⟩) m c1)) := Fr.set b 3 _
  have hA' := HA.out.move ((Fr.of_new hd).then_ hb3 (fun j hj => .inl hj)) (fun j hj e => HC.out.no (e ▸ hj))
  have e1 : (fun x => rest x + zf x + kc c.kids x) = fun x => rest x + kc c.kids x := by funext x; show rest x + 0 + _ = _; omega
  rw [e1] at hA'
  have hln : (c.vals.take m).length ≤ 1000000000 := Nat.le_trans (List.length_take_le _ _) (Nat.le_trans hl (by decide))
  exact ⟨rfl, O, f, live, {c with vals := c.vals.take m}, _, _, hA', HCV.out.1, (Fr.of_new (S := Wr O b (.slice (some ⟨g, 0, none⟩) (m + 1) c1) k) hd).then_ HCV.out.2 (fun j hj => .inl hj), fun j hj => .inl hj, by omega, KeepR.refl _ _ _, rfl, rfl, hkl, hln, hkn⟩
end Go.Proofs.Ytnipbfhfaefieaa.Pv
/-! pvec: a value of a cell is another one. -/
namespace Go.Proofs.Ytnipbfhfaefieaa.Pv
open Go.RowKit Go Go.Proofs.YtnipbfhfaefieaaW.PrintWords Go.Proofs.YtnipbfhfaefieaaW.PrintMore Go.Proofs.YtnipbfhfaefieaaW.PrintLast Go.Proofs.Ytnipbfhfaefieaa.Bts Go.Proofs.Ytnipbfhfaefieaa.Fra Go.Proofs.Ytnipbfhfaefieaa.ArnP Go.Proofs.Ytnipbfhfaefieaa.Arn Go.Proofs.Ytnipbfhfaefieaa.Ao
theorem reps_put {R : Int × Int × ByteArray → List Value → Prop} {xs : List (Int × Int × ByteArray)} {cs : List Value} (h : Reps R 3 xs cs) (i : Nat) (x : Int × Int × ByteArray) (a b c : Value) (hi : i < xs.length) (hx : R x [a, b, c]) : Reps R 3 (xs.set i x) (((cs.set (i * 3) a).set (i * 3 + 1) b).set (i * 3 + 2) c) := by
  obtain ⟨h1, h2⟩ := h
  refine ⟨by simp [h1], fun j p hj => ?_⟩
  have hget : ∀ k, k < 3 → (((cs.set (i * 3) a).set (i * 3 + 1) b).set (i * 3 + 2) c)[j * 3 + k]? = if j = i then [a, b, c][k]? else cs[j * 3 + k]? := by
    intro k hk
    by_cases e : j = i
    · subst e
      rw [if_pos rfl]
      rcases (by omega : k = 0 ∨ k = 1 ∨ k = 2) with rfl | rfl | rfl
      · rw [List.getElem?_set_ne (by omega), List.getElem?_set_ne (by omega), Nat.add_zero, List.getElem?_set_self (by omega)]; rfl
      · rw [List.getElem?_set_ne (by omega), List.getElem?_set_self (by simp; omega)]; rfl
      · rw [List.getElem?_set_self (by simp; omega)]; rfl
    · rw [if_neg e, List.getElem?_set_ne (by omega), List.getElem?_set_ne (by omega), List.getElem?_set_ne (by omega)]
  by_cases e : j = i
  · subst e
    rw [List.getElem?_set_self hi] at hj
    obtain rfl := Option.some.inj hj
    have : (((((cs.set (j * 3) a).set (j * 3 + 1) b).set (j * 3 + 2) c).drop (j * 3)).take 3) = [a, b, c] := by
      apply List.ext_getElem?
      intro k
      rw [List.getElem?_take]
      split
      · rename_i hk
        rw [List.getElem?_drop, hget k hk, if_pos rfl]
      · rename_i hk
        rw [List.getElem?_eq_none (by simp; omega)]
    rw [this]
    exact hx
  · rw [List.getElem?_set_ne (fun q => e q.symm)] at hj
    have : (((((cs.set (i * 3) a).set (i * 3 + 1) b).set (i * 3 + 2) c).drop (j * 3)).take 3) = (cs.drop (j * 3)).take 3 := by
      apply List.ext_getElem?
      intro k
      rw [List.getElem?_take, List.getElem?_take]
      split
      · rename_i hk
        rw [List.getElem?_drop, List.getElem?_drop, hget k hk, if_neg e]
      · rfl
    rw [this]
    exact h2 j p hj
theorem VR.put {w : World} {lo g n cap : Nat} {xs : List (Int × Int × ByteArray)} (h : VR w lo (.slice (some ⟨g, 0, none⟩) n cap) xs) (hn : xs.length = n) (i : Nat) (hi : i < xs.length) (q m : Int) (s : ByteArray) :
    VR (((w.setCell ⟨g, i * 3, none⟩ (.int .u8 q)).setCell ⟨g, i * 3 + 1, none⟩ (.int .i64 m)).setCell ⟨g, i * 3 + 2, none⟩ (.string s)) lo (.slice (some ⟨g, 0, none⟩) n cap) (xs.set i (q, m, s)) := by
  subst hn
  obtain ⟨h0, inner, ho, hr⟩ := h
  have h1 := (ho.stored (i * 3) (.int .u8 q)).1
  have h2 := (h1.stored (i * 3 + 1) (.int .i64 m)).1
  have h3 := (h2.stored (i * 3 + 2) (.string s)).1
  exact ⟨h0, _, by rw [List.length_set]; exact h3, reps_put hr i (q, m, s) _ _ _ hi ⟨_, _, rfl, rfl, _, _, rfl, rfl, rfl⟩⟩
/-- A cell's values become others, in their own row. -/
theorem CBO.row {w w1 : World} {O : Nat → Prop} {lo b g n cap : Nat} {k : Value} {c : Cell} {vals : List (Int × Int × ByteArray)} (h : CBO w O lo b (.slice (some ⟨g, 0, none⟩) n cap) k c) (hf : Fr (fun j => j = g) w w1) (hr : VR w1 lo (.slice (some ⟨g, 0, none⟩) n cap) vals) :
    CBO w1 O lo b (.slice (some ⟨g, 0, none⟩) n cap) k {c with vals := vals} :=
  ⟨hf.blk h.blk (fun e => (h.vk g rfl).2.1 e.symm), hr, Kd.R_mono (Kd.R_kept (Kd.R_tight2 (d := Kd.int .i64) rfl h.kr) hf.kept (fun j hj e => by subst e; exact (h.vk j rfl).1 hj.1.symm)) (fun j hj => hj.2), h.vk, h.kk, h.no⟩
theorem fr3w (w : World) (g o : Nat) (x y z : Value) : Fr (fun j => j = g) w (((w.setCell ⟨g, o, none⟩ x).setCell ⟨g, o + 1, none⟩ y).setCell ⟨g, o + 2, none⟩ z) :=
  Fr.put (S := fun k => k = g) (Fr.put (S := fun k => k = g) (Fr.put (S := fun k => k = g) (Fr.refl (fun k => k = g) w) (p := ⟨g, o, none⟩) (.inl rfl) x) (p := ⟨g, o + 1, none⟩) (.inl rfl) y) (p := ⟨g, o + 2, none⟩) (.inl rfl) z
abbrev IntB (w : World) (b : Nat) (i : Int) : Prop := w.heap[b]? = some (.cells #[.int .i64 i] 3 (0, 0))
end Go.Proofs.Ytnipbfhfaefieaa.Pv
/-! pvec: make and change, for set 1. Printed by wip/tools/gen_pvd.py. -/
namespace Go.Proofs.Ytnipbfhfaefieaa.Pv
open Go.RowKit Go Go.Proofs.YtnipbfhfaefieaaW.PrintWords Go.Proofs.YtnipbfhfaefieaaW.PrintMore Go.Proofs.YtnipbfhfaefieaaW.PrintLast Go.Proofs.Ytnipbfhfaefieaa.Bts Go.Proofs.Ytnipbfhfaefieaa.Fra Go.Proofs.Ytnipbfhfaefieaa.ArnP Go.Proofs.Ytnipbfhfaefieaa.Arn Go.Proofs.Ytnipbfhfaefieaa.Ao
end Go.Proofs.Ytnipbfhfaefieaa.Pv
/-! pvec: a value of a leaf is set. -/
namespace Go.Proofs.Ytnipbfhfaefieaa.Pv
open Go.RowKit Go Go.Proofs.YtnipbfhfaefieaaW.PrintWords Go.Proofs.YtnipbfhfaefieaaW.PrintMore Go.Proofs.YtnipbfhfaefieaaW.PrintLast Go.Proofs.Ytnipbfhfaefieaa.Bts Go.Proofs.Ytnipbfhfaefieaa.Fra Go.Proofs.Ytnipbfhfaefieaa.ArnP Go.Proofs.Ytnipbfhfaefieaa.Arn Go.Proofs.Ytnipbfhfaefieaa.Ao
abbrev valV (q n : Int) (s : ByteArray) : Value := .agg #[.int .u8 q, .int .i64 n, .string s]
theorem new2 (w : World) (o1 o2 o3 : Obj) : (((w.alloc o1).alloc o2).alloc o3).heap[w.heap.size + 2]? = some o3 := by
  have h := new1 (w.alloc o1) o2 o3
  have e : (w.alloc o1).heap.size = w.heap.size + 1 := by simp
  rwa [e] at h
theorem new3 (w : World) (o1 o2 o3 o4 : Obj) : ((((w.alloc o1).alloc o2).alloc o3).alloc o4).heap[w.heap.size + 3]? = some o4 := by
  have h := new2 (w.alloc o1) o2 o3 o4
  have e : (w.alloc o1).heap.size = w.heap.size + 1 := by simp
  rwa [e] at h
end Go.Proofs.Ytnipbfhfaefieaa.Pv
/-! pvec: a list of cells' numbers in which one is another. -/
namespace Go.Proofs.Ytnipbfhfaefieaa.Pv
open Go.RowKit Go Go.Proofs.YtnipbfhfaefieaaW.PrintWords Go.Proofs.YtnipbfhfaefieaaW.PrintMore Go.Proofs.YtnipbfhfaefieaaW.PrintLast Go.Proofs.Ytnipbfhfaefieaa.Bts Go.Proofs.Ytnipbfhfaefieaa.Fra Go.Proofs.Ytnipbfhfaefieaa.ArnP Go.Proofs.Ytnipbfhfaefieaa.Arn Go.Proofs.Ytnipbfhfaefieaa.Ao
theorem reps_put1 {R : Int → List Value → Prop} {xs : List Int} {cs : List Value} (h : Reps R 1 xs cs) (i : Nat) (x : Int) (a : Value) (hi : i < xs.length) (hx : R x [a]) : Reps R 1 (xs.set i x) (cs.set i a) := by
  obtain ⟨h1, h2⟩ := h
  refine ⟨by simp [h1], fun j p hj => ?_⟩
  by_cases e : j = i
  · subst e
    rw [List.getElem?_set_self hi] at hj
    obtain rfl := Option.some.inj hj
    have : ((cs.set j a).drop (j * 1)).take 1 = [a] := by
      apply List.ext_getElem?
      intro k
      rw [List.getElem?_take]
      split
      · rename_i hk
        obtain rfl : k = 0 := by omega
        rw [List.getElem?_drop, show j * 1 + 0 = j by omega, List.getElem?_set_self (by omega)]; rfl
      · rename_i hk
        rw [List.getElem?_eq_none (by simp; omega)]
    rw [this]
    exact hx
  · rw [List.getElem?_set_ne (fun q => e q.symm)] at hj
    have : ((cs.set i a).drop (j * 1)).take 1 = (cs.drop (j * 1)).take 1 := by
      apply List.ext_getElem?
      intro k
      rw [List.getElem?_take, List.getElem?_take]
      split
      · rename_i hk
        rw [List.getElem?_drop, List.getElem?_drop, List.getElem?_set_ne (by omega)]
      · rfl
    rw [this]
    exact h2 j p hj
theorem KR.put {w : World} {lo g n cap : Nat} {xs : List Int} (h : KR w lo (.slice (some ⟨g, 0, none⟩) n cap) xs) (hn : xs.length = n) (i : Nat) (hi : i < xs.length) (m : Int) :
    KR (w.setCell ⟨g, i, none⟩ (.int .i64 m)) lo (.slice (some ⟨g, 0, none⟩) n cap) (xs.set i m) := by
  subst hn
  obtain ⟨h0, inner, ho, hr⟩ := h
  have h1 := (ho.stored i (.int .i64 m)).1
  exact ⟨h0, _, by rw [List.length_set]; exact h1, reps_put1 hr i m _ hi rfl⟩
/-- A cell's kids become others, in their own row. -/
theorem CBO.krow {w w1 : World} {O : Nat → Prop} {lo b g n cap : Nat} {v : Value} {c : Cell} {kids : List Int} (h : CBO w O lo b v (.slice (some ⟨g, 0, none⟩) n cap) c) (hf : Fr (fun j => j = g) w w1) (hr : KR w1 lo (.slice (some ⟨g, 0, none⟩) n cap) kids) :
    CBO w1 O lo b v (.slice (some ⟨g, 0, none⟩) n cap) {c with kids := kids} :=
  ⟨hf.blk h.blk (fun e => (h.kk g rfl).1 e.symm), Kd.R_mono (Kd.R_kept (Kd.R_tight2 (d := kVal) rfl h.vr) hf.kept (fun j hj e => by subst e; exact (h.vk j hj.1.symm).1 rfl)) (fun j hj => hj.2), hr, h.vk, h.kk, h.no⟩
/-- The others of a list. -/
def oth (l : List Int) (i : Nat) : List Int := l.take i ++ l.drop (i + 1)
theorem kc_app (a b : List Int) (x : Nat) : kc (a ++ b) x = kc a x + kc b x := by
  unfold kc kidsOf
  rw [List.filter_append, List.map_append, List.count_append]
theorem kc_cons (z : Nat) (l : List Int) (hz : 0 < z) (x : Nat) : kc ((z : Int) :: l) x = kc l x + one z x := by
  unfold kc kidsOf one
  rw [List.filter_cons_of_pos (by simp; omega), List.map_cons, List.count_cons, Int.toNat_natCast]
  by_cases e : x = z
  · subst e; simp
  · rw [if_neg e, if_neg (by simpa using fun q => e q.symm)]
theorem kc_at (l : List Int) (i z : Nat) (hi : i < l.length) (hz : l[i]? = some (z : Int)) (h0 : 0 < z) : kc l = fun x => kc (oth l i) x + one z x := by
  funext x
  have e : l = l.take i ++ (z : Int) :: l.drop (i + 1) := by
    have h1 := List.drop_eq_getElem_cons hi
    have h2 : l[i] = (z : Int) := by rw [List.getElem?_eq_getElem hi] at hz; exact Option.some.inj hz
    rw [h2] at h1
    rw [← h1, List.take_append_drop]
  unfold oth
  conv => lhs; rw [e]
  rw [kc_app, kc_cons z _ h0, kc_app]
  omega
theorem kc_set (l : List Int) (i z : Nat) (hi : i < l.length) (h0 : 0 < z) : kc (l.set i (z : Int)) = fun x => kc (oth l i) x + one z x := by
  funext x
  unfold oth
  rw [List.set_eq_take_append_cons_drop, if_pos hi, kc_app, kc_cons z _ h0, kc_app]
  omega
theorem fr1w (w : World) (g o : Nat) (x : Value) : Fr (fun j => j = g) w (w.setCell ⟨g, o, none⟩ x) :=
  Fr.put (S := fun k => k = g) (Fr.refl (fun k => k = g) w) (p := ⟨g, o, none⟩) (.inl rfl) x
end Go.Proofs.Ytnipbfhfaefieaa.Pv
/-! pvec: set's callback one level up. -/
namespace Go.Proofs.Ytnipbfhfaefieaa.Pv
open Go.RowKit Go Go.Proofs.YtnipbfhfaefieaaW.PrintWords Go.Proofs.YtnipbfhfaefieaaW.PrintMore Go.Proofs.YtnipbfhfaefieaaW.PrintLast Go.Proofs.Ytnipbfhfaefieaa.Bts Go.Proofs.Ytnipbfhfaefieaa.Fra Go.Proofs.Ytnipbfhfaefieaa.ArnP Go.Proofs.Ytnipbfhfaefieaa.Arn Go.Proofs.Ytnipbfhfaefieaa.Ao
theorem kids_pos {l : List Int} (hn : ∀ z ∈ l, 0 ≤ z) {x : Nat} (hx : x ∈ kidsOf l) : 0 < x := by
  unfold kidsOf at hx
  obtain ⟨y, hy, rfl⟩ := List.mem_map.1 hx
  obtain ⟨h1, h2⟩ := List.mem_filter.1 hy
  have h3 := hn y h1
  have h4 : y ≠ 0 := by simpa using h2
  omega
theorem oth_mem {l : List Int} {i z : Nat} (hi : i < l.length) (hz : l[i]? = some (z : Int)) (h0 : 0 < z) {x : Nat} (hx : x ∈ kidsOf (oth l i)) : x ∈ kidsOf l := by
  have h := congrFun (kc_at l i z hi hz h0) x
  have h1 : 0 < kc (oth l i) x := List.count_pos_iff.2 hx
  have h2 : 0 < kc l x := by omega
  exact List.count_pos_iff.1 h2
theorem bnd1 {rest : Nat → Nat} (l : List Int) (hb : ∀ x, rest x ≤ 70000000000) (hl : l.length ≤ 1000) (x : Nat) : rest x + kc l x ≤ 80000000000 :=
  Nat.le_trans (Nat.add_le_add (hb x) (Nat.le_trans (kc_le l x) hl)) (by decide)
theorem oth_len (l : List Int) (i : Nat) (h : l.length ≤ 1000) : (oth l i).length ≤ 1000 := by
  unfold oth
  rw [List.length_append, List.length_take, List.length_drop]
  omega
abbrev WorkB (w : World) (b a : Nat) (o : Int) : Prop := w.heap[b]? = some (.cells #[.pointer (some ⟨a, 0, none⟩), .int .u32 o] 133 (0, 0))
theorem CBO.other {w : World} {O O' : Nat → Prop} {lo b : Nat} {v k : Value} {c : Cell} (h : CBO w O lo b v k c) (hO : ∀ j, O' j → O j ∨ w.heap.size ≤ j) : CBO w O' lo b v k c := by
  obtain ⟨q1, o1⟩ := Kd.R_own h.vr
  obtain ⟨q2, o2⟩ := Kd.R_own h.kr
  have hlt : b < w.heap.size := (Array.getElem?_eq_some_iff.1 h.blk).1
  exact ⟨h.blk, h.vr, h.kr, fun j hj => ⟨(h.vk j hj).1, (h.vk j hj).2.1, fun e => (hO j e).elim (h.vk j hj).2.2 (fun q => by have := own_lt o1 j hj; omega)⟩, fun j hj => ⟨(h.kk j hj).1, fun e => (hO j e).elim (h.kk j hj).2 (fun q => by have := own_lt o2 j hj; omega)⟩, fun e => (hO b e).elim h.no (fun q => by omega)⟩
end Go.Proofs.Ytnipbfhfaefieaa.Pv
/-! pvec: a value in a trunk of one level is set. -/
namespace Go.Proofs.Ytnipbfhfaefieaa.Pv
open Go.RowKit Go Go.Proofs.YtnipbfhfaefieaaW.PrintWords Go.Proofs.YtnipbfhfaefieaaW.PrintMore Go.Proofs.YtnipbfhfaefieaaW.PrintLast Go.Proofs.Ytnipbfhfaefieaa.Bts Go.Proofs.Ytnipbfhfaefieaa.Fra Go.Proofs.Ytnipbfhfaefieaa.ArnP Go.Proofs.Ytnipbfhfaefieaa.Arn Go.Proofs.Ytnipbfhfaefieaa.Ao
theorem bnd_one {rest : Nat → Nat} {A B : Nat} (k : Nat) (hb : ∀ x, rest x ≤ A) (h : A + 1 ≤ B) (x : Nat) : rest x + one k x ≤ B :=
  Nat.le_trans (Nat.add_le_add (hb x) (show one k x ≤ 1 by unfold one; split <;> omega)) h
theorem hro_one {rest : Nat → Nat} {op : Nat → Bool} (k : Nat) (hro : ∀ z, op z = true → 1 ≤ rest z) : ∀ z, (fun x => x == k || op x) z = true → 1 ≤ rest z + one k z := by
  intro z hz
  by_cases e : z = k
  · subst e; have : one z z = 1 := if_pos rfl; omega
  · have hz2 : (z == k || op z) = true := hz
    rw [show (z == k) = false by simpa using e, Bool.false_or] at hz2
    have := hro z hz2
    omega
theorem set_mem {l : List Int} {i z : Nat} (hi : i < l.length) (h0 : 0 < z) {x : Nat} (hx : x ∈ kidsOf (oth l i) ∨ x = z) : x ∈ kidsOf (l.set i (z : Int)) := by
  have h := congrFun (kc_set l i z hi h0) x
  have h2 : 0 < kc (l.set i (z : Int)) x := by
    rcases hx with hx | rfl
    · have h1 : 0 < kc (oth l i) x := List.count_pos_iff.2 hx
      omega
    · have h1 : one x x = 1 := if_pos rfl
      omega
  exact List.count_pos_iff.1 h2
end Go.Proofs.Ytnipbfhfaefieaa.Pv
