/- Texts of this claim, laid together: PvE, PvF, PvG, PvDset, PvH, PvI, PvJ, PvK, PvDhang. -/
import Derived.Test.YtnipbfhfaefieaaUi
/-! pvec: one value more at a cell. -/
namespace Go.Proofs.Ytnipbfhfaefieaa.Pv
open Go.RowKit Go Go.Proofs.YtnipbfhfaefieaaW.PrintWords Go.Proofs.YtnipbfhfaefieaaW.PrintMore Go.Proofs.YtnipbfhfaefieaaW.PrintLast Go.Proofs.Ytnipbfhfaefieaa.Bts Go.Proofs.Ytnipbfhfaefieaa.Fra Go.Proofs.Ytnipbfhfaefieaa.ArnP Go.Proofs.Ytnipbfhfaefieaa.Arn Go.Proofs.Ytnipbfhfaefieaa.Ao
abbrev zf : Nat → Nat := fun _ => 0
abbrev ValB (w : World) (b : Nat) (q n : Int) (s : ByteArray) : Prop := w.heap[b]? = some (.cells #[.int .u8 q, .int .i64 n, .string s] 66 (0, 0))
/-- A cell's values become others, in its own row or a new one. -/
theorem CBO.vals {w w1 : World} {O : Nat → Prop} {lo b : Nat} {v v1 k : Value} {c : Cell} {vals : List (Int × Int × ByteArray)} (h : CBO w O lo b v k c) (hlt : ∀ j, O j → j < w.heap.size) (hf : Fr (fun j => v.ownBlock = some j) w w1) (hr : VR w1 lo v1 vals) (hv : ∀ j, v1.ownBlock = some j → v.ownBlock = some j ∨ w.heap.size ≤ j) :
    CBO (w1.setCell ⟨b, 3, none⟩ v1) O lo b v1 k {c with vals := vals} ∧ Fr (Wr O b v k) w (w1.setCell ⟨b, 3, none⟩ v1) := by
  have hbl := blk_lt h.blk
  have hkl : ∀ j, k.ownBlock = some j → j < w.heap.size := fun j hj => by obtain ⟨q, ho⟩ := Kd.R_own h.kr; exact own_lt ho j hj
  have hb1 := hf.blk h.blk (fun e => (h.vk b e).2.1 rfl)
  have hs : Fr (fun j => j = b) w1 (w1.setCell ⟨b, 3, none⟩ v1) := Fr.set b 3 v1
  have hvb : ∀ j, v1.ownBlock = some j → j ≠ b := fun j hj e => by
    rcases hv j hj with q | q
    · exact (h.vk j q).2.1 e
    · omega
  refine ⟨⟨(blk_put hb1 3 v1 rfl).trans rfl, ?_, ?_, fun j hj => ⟨fun e => ?_, hvb j hj, fun e => ?_⟩, h.kk, h.no⟩, (hf.mono (fun j hj => .inl (.inr (.inr (.inl hj))))).then_ hs (fun j hj => .inl (.inr (.inl hj)))⟩
  · exact Kd.R_mono (Kd.R_kept (Kd.R_tight2 (d := kVal) rfl hr) hs.kept (fun j hj e => hvb j hj.1.symm e)) (fun j hj => hj.2)
  · exact Kd.R_mono (Kd.R_kept (Kd.R_mono (Kd.R_kept (Kd.R_tight2 (d := Kd.int .i64) rfl h.kr) hf.kept (fun j hj e => (h.vk j e).1 hj.1.symm)) (fun j hj => hj)) hs.kept (fun j hj e => (h.kk j hj.1.symm).1 e)) (fun j hj => hj.2)
  · rcases hv j hj with q | q
    · exact (h.vk j q).1 e
    · have := hkl j e; omega
  · rcases hv j hj with q | q
    · exact (h.vk j q).2.2 e
    · have := hlt j e; omega
set_option maxHeartbeats 2000000 in
set_option maxRecDepth 100000 in
theorem cb_push {O0 : Nat → Prop} {a : Nat} {f0 : Nat → Cell} {most : Int} {rest : Nat → Nat} {op : Nat → Bool} {c : Cell} {xb : Nat} {q n : Int} {s : ByteArray} (w0 : World) (hx : ValB w0 xb q n s) (hxO : ¬ O0 xb) (hl : c.vals.length < 1000) (hkl : c.kids.length ≤ 1000) (hkn : ∀ z ∈ c.kids, 0 ≤ z) :
    Cb 79 (fun p => #[p, .pointer (some ⟨xb, 0, none⟩)]) w0 O0 a most rest zf op f0 0 c (fun _ c' => c' = {c with vals := c.vals ++ [(q, n, s)]}) := by
  intro w O f live lo b v k hA hF hO hlo hlo2 hb0 hC hK hS hlm
  have hxl := blk_lt hx
  have hxw := hF.blk hx hxO
  obtain ⟨A1, c1, e1⟩ := Kd.R_slice hC.vr
  subst e1
  have hd : Below w.heap.size w w.drew := below_drew1 (Below.refl _ _)
  have hCd := hC.below hd
  have hxd := blk_below hxw hd
  have hlt := hA.lt
  have p3 := blk_cell hCd.blk 3
  have x0 := blk_cell hxd 0
  have x1 := blk_cell hxd 1
  have x2 := blk_cell hxd 2
  have HC := Lib.hid hCd
  have HX := Lib.hid hxd
  have HA := Lib.hid hA
  have HLT := Lib.hid hlt
  have hsz : w.drew.heap.size = w.heap.size := by simp
  clear hK hS hF hO hC hCd hxw hxd hA hd hlt hx
  go_enter Try.func79, Try.ntmps79
  refine start_ (n := 11) (S := fun w' => w'.cell? ⟨b, 3, none⟩ = some (.slice A1 c.vals.length c1) ∧ w'.cell? ⟨xb, 0, none⟩ = some (.int .u8 q) ∧ w'.cell? ⟨xb, 1, none⟩ = some (.int .i64 n) ∧ w'.cell? ⟨xb, 2, none⟩ = some (.string s)) (ds := [7, 10]) #[false, false, false, false, false, false, false, false, false, false, false] (by kernel_rfl) rfl rfl ⟨p3, x0, x1, x2⟩ (fun hHeld => ?_)
  refine pure_ (i := 0) (N := some 3) (v := ?_) (a' := ?_) #[true, false, false, false, false, false, false, false, false, false, false] rfl rfl (by kernel_rfl) (fun _ _ _ h => h) (Or.inl ⟨by rfl, ?_⟩) ?_ ?_
  rotate_left
  · intro w'
    go_simp
    with_reducible rfl
  rotate_left
  · simp only [Act.put, List.setIfInBounds_toArray, List.set_cons_zero, List.set_cons_succ, i64_w, i32_w]
    rfl
  refine pure_ (i := 1) (N := some 4) (v := ?_) (a' := ?_) #[true, true, false, false, false, false, false, false, false, false, false] rfl rfl (by kernel_rfl) (fun _ _ _ h => h) (Or.inl ⟨by rfl, ?_⟩) ?_ ?_
  rotate_left
  · intro w'
    go_simp
    with_reducible rfl
  rotate_left
  · simp only [Act.put, List.setIfInBounds_toArray, List.set_cons_zero, List.set_cons_succ, i64_w, i32_w]
    rfl
  refine pure_ (i := 2) (N := some 5) (v := ?_) (a' := ?_) #[true, true, true, false, false, false, false, false, false, false, false] rfl rfl (by kernel_rfl) (fun _ _ _ h => h) (Or.inl ⟨by rfl, ?_⟩) ?_ ?_
  rotate_left
  · intro w'
    go_simp
    with_reducible rfl
  rotate_left
  · simp only [Act.put, List.setIfInBounds_toArray, List.set_cons_zero, List.set_cons_succ, i64_w, i32_w]
    rfl
  refine pure_ (i := 3) (N := some 6) (v := ?_) (a' := ?_) #[true, true, true, true, false, false, false, false, false, false, false] rfl rfl (by kernel_rfl) (fun _ _ _ h => h) (Or.inl ⟨by rfl, ?_⟩) ?_ ?_
  rotate_left
  · intro w'
    go_simp
    with_reducible rfl
  rotate_left
  · simp only [Act.put, List.setIfInBounds_toArray, List.set_cons_zero, List.set_cons_succ, i64_w, i32_w]
    rfl
  refine take_ (i := 4) (N := some 7) (v := ?_) (a' := ?_) #[true, true, true, true, true, false, false, false, false, false, false] rfl rfl (by kernel_rfl) (fun _ _ _ h => h) (Or.inl ⟨by rfl, ?_⟩) hHeld ?_ ?_
  rotate_left
  · rintro w' ⟨s0, s1, s2, s3⟩
    go_simp
    with_reducible rfl
  rotate_left
  · simp only [Act.put, List.setIfInBounds_toArray, List.set_cons_zero, List.set_cons_succ, i64_w, i32_w]
    rfl
  refine take_ (i := 5) (N := some 8) (v := ?_) (a' := ?_) #[true, true, true, true, true, true, false, false, false, false, false] rfl rfl (by kernel_rfl) (fun _ _ _ h => h) (Or.inl ⟨by rfl, ?_⟩) hHeld ?_ ?_
  rotate_left
  · rintro w' ⟨s0, s1, s2, s3⟩
    go_simp
    with_reducible rfl
  rotate_left
  · simp only [Act.put, List.setIfInBounds_toArray, List.set_cons_zero, List.set_cons_succ, i64_w, i32_w]
    rfl
  refine one_ (i := 6) (N := some 9) #[true, true, true, true, true, true, true, false, false, false, false] rfl rfl (by kernel_rfl) (by decide) (fun K hK => ?_)
  refine value_ (w1 := ?_) (v := ?_) (by rfl) rfl ?_ ?_
  rotate_left 2
  · go_simp
    constructor
    · rfl
    · rfl
  refine hK.out _ _ ⟨(pw_cell_below (below_alloc (Below.refl w.drew.heap.size w.drew) _) p3), (pw_cell_below (below_alloc (Below.refl w.drew.heap.size w.drew) _) x0), (pw_cell_below (below_alloc (Below.refl w.drew.heap.size w.drew) _) x1), (pw_cell_below (below_alloc (Below.refl w.drew.heap.size w.drew) _) x2)⟩ (fun hHeld => ?_)
  clear hK K
  refine norm_ (a' := ?_) ?_ ?_
  rotate_left
  · show Act.put _ (some 9) _ = _
    simp only [Act.put, List.setIfInBounds_toArray, List.set_cons_zero, List.set_cons_succ, i64_w, i32_w]
    rfl
  refine last_ (i := 7) (N := some 10) #[true, true, true, true, true, true, true, true, false, false, false] rfl rfl (by kernel_rfl) (by decide) (fun K hK => ?_)
  refine Kd.R_append_step kVal (w0 := w.drew) (W := w.drew) lo (by rfl) (.tmp 7) (.tmp 9) 41 66 (.agg #[.int .u8 0, .int .i64 0, .string (⟨#[]⟩ : ByteArray)]) 32 rfl Try.underlying41 ClV.infoVal rfl (by decide) (by decide) (.slice A1 c.vals.length c1) c.vals (q, n, s) [.int .u8 q, .int .i64 n, .string s] (fun j => lo ≤ j) (fun _ => False) rfl rfl ⟨_, _, rfl, rfl, _, _, rfl, rfl, rfl⟩ (fun _ h => h.elim) (fun j hj => by omega) HC.out.vr (Below.refl _ _) (by omega) (by omega) ?_
  intro v7 w7 hR7 hB7 hg7 hat7
  obtain ⟨A7, c7, e7⟩ := Kd.R_slice hR7
  subst e7
  have hcv := HC.out.vals (v1 := .slice A7 (c.vals ++ [(q, n, s)]).length c7) HLT.out (fr_grownBy hg7) hR7 (fun j hj => hat7.elim (fun e => .inl (e ▸ hj)) (fun ⟨b', e, hb'⟩ => .inr (by rw [e] at hj; cases hj; exact hb')))
  have hb7 := (fr_grownBy hg7).blk HC.out.blk (fun e => (HC.out.vk b e).2.1 rfl)
  have r3 := blk_cell hb7 3
  have z3 := blk_frozen hb7 3
  refine hK.out _ _ ?_
  clear hK K
  refine norm_ (a' := ?_) ?_ ?_
  rotate_left
  · show Act.put _ (some 10) _ = _
    simp only [Act.put, List.setIfInBounds_toArray, List.set_cons_zero, List.set_cons_succ, i64_w, i32_w]
    rfl
  refine pure_ (i := 8) (N := some 11) (v := ?_) (a' := ?_) #[true, true, true, true, true, true, true, true, true, false, false] rfl rfl (by kernel_rfl) (fun _ _ _ h => h) (Or.inl ⟨by rfl, ?_⟩) ?_ ?_
  rotate_left
  · intro w'
    go_simp
    with_reducible rfl
  rotate_left
  · simp only [Act.put, List.setIfInBounds_toArray, List.set_cons_zero, List.set_cons_succ, i64_w, i32_w]
    rfl
  refine pure_ (i := 9) (N := some 12) (v := ?_) (a' := ?_) #[true, true, true, true, true, true, true, true, true, true, false] rfl rfl (by kernel_rfl) (fun _ _ _ h => h) (Or.inl ⟨by rfl, ?_⟩) ?_ ?_
  rotate_left
  · intro w'
    go_simp
    with_reducible rfl
  rotate_left
  · simp only [Act.put, List.setIfInBounds_toArray, List.set_cons_zero, List.set_cons_succ, i64_w, i32_w]
    rfl
  refine last_ (i := 10) (N := none) #[true, true, true, true, true, true, true, true, true, true, true] rfl rfl (by kernel_rfl) (by decide) (fun K hK => ?_)
  refine skip_ (w1 := ?_) (by rfl) rfl ?_ ?_
  rotate_left
  · go_simp
    rfl
  refine hK.out _ _ ?_
  clear hK K
  refine done_ (by kernel_rfl) ?_

  go_end0
  have hln : (c.vals ++ [(q, n, s)]).length = c.vals.length + 1 := by simp
  rw [hln] at hcv
  have hd : Below w.heap.size w w.drew := below_drew1 (Below.refl _ _)
  have hb3 : Fr (fun j => j = b) w7 (w7.setCell ⟨b, 3, none⟩ (.slice A7 (c.vals.length + 1) c7)) := Fr.set b 3 _
  have hfa : Fr (fun j => (Value.slice A1 c.vals.length c1).ownBlock = some j ∨ j = b) w (w7.setCell ⟨b, 3, none⟩ (.slice A7 (c.vals.length + 1) c7)) := ((Fr.of_new hd).then_ (fr_grownBy hg7) (fun j hj => .inl (.inl hj))).then_ hb3 (fun j hj => .inl (.inr hj))
  have hA' := HA.out.move hfa (fun j hj e => e.elim (fun e => (HC.out.vk j e).2.2 hj) (fun e => HC.out.no (e ▸ hj)))
  have e1 : (fun x => rest x + zf x + kc c.kids x) = fun x => rest x + kc c.kids x := by funext x; show rest x + 0 + _ = _; omega
  rw [e1] at hA'
  exact ⟨rfl, O, f, live, {c with vals := c.vals ++ [(q, n, s)]}, _, _, hA', hcv.1, (Fr.of_new (S := Wr O b (.slice A1 c.vals.length c1) k) hd).then_ hcv.2 (fun j hj => .inl hj), fun j hj => .inl hj, by omega, KeepR.refl _ _ _, rfl, rfl, hkl, by rw [hln]; omega, hkn⟩
end Go.Proofs.Ytnipbfhfaefieaa.Pv
/-! pvec: a cell loses its last value; a value of a cell is another one. -/
namespace Go.Proofs.Ytnipbfhfaefieaa.Pv
open Go.RowKit Go Go.Proofs.YtnipbfhfaefieaaW.PrintWords Go.Proofs.YtnipbfhfaefieaaW.PrintMore Go.Proofs.YtnipbfhfaefieaaW.PrintLast Go.Proofs.Ytnipbfhfaefieaa.Bts Go.Proofs.Ytnipbfhfaefieaa.Fra Go.Proofs.Ytnipbfhfaefieaa.ArnP Go.Proofs.Ytnipbfhfaefieaa.Arn Go.Proofs.Ytnipbfhfaefieaa.Ao
end Go.Proofs.Ytnipbfhfaefieaa.Pv
/-! pvec: a value of a cell is another one. -/
namespace Go.Proofs.Ytnipbfhfaefieaa.Pv
open Go.RowKit Go Go.Proofs.YtnipbfhfaefieaaW.PrintWords Go.Proofs.YtnipbfhfaefieaaW.PrintMore Go.Proofs.YtnipbfhfaefieaaW.PrintLast Go.Proofs.Ytnipbfhfaefieaa.Bts Go.Proofs.Ytnipbfhfaefieaa.Fra Go.Proofs.Ytnipbfhfaefieaa.ArnP Go.Proofs.Ytnipbfhfaefieaa.Arn Go.Proofs.Ytnipbfhfaefieaa.Ao
theorem reps_put {R : Int × Int × ByteArray → List Value → Prop} {xs : List (Int × Int × ByteArray)} {cs : List Value} (h : Reps R 3 xs cs) (i : Nat) (x : Int × Int × ByteArray) (a b c : Value) (hi : i < xs.length) (hx : R x [a, b, c]) : Reps R 3 (xs.set i x) (((cs.set (i * 3) a).set (i * 3 + 1) b).set (i * 3 + 2) c) := by
  obtain ⟨h1, h2⟩ := h
  refine ⟨by simp [h1], fun j p hj => ?_⟩
  have hget : ∀ k, k < 3 → (((cs.set (i * 3) a).set (i * 3 + 1) b).set (i * 3 + 2) c)[j * 3 + k]? = if j = i then [a, b, c][k]? else cs[j * 3 + k]? := by
    intro k hk
    by_cases e : j = i
    · subst e
      rw [if_pos rfl]
      rcases (by omega : k = 0 ∨ k = 1 ∨ k = 2) with rfl | rfl | rfl
      · rw [List.getElem?_set_ne (by omega), List.getElem?_set_ne (by omega), Nat.add_zero, List.getElem?_set_self (by omega)]; rfl
      · rw [List.getElem?_set_ne (by omega), List.getElem?_set_self (by simp; omega)]; rfl
      · rw [List.getElem?_set_self (by simp; omega)]; rfl
    · rw [if_neg e, List.getElem?_set_ne (by omega), List.getElem?_set_ne (by omega), List.getElem?_set_ne (by omega)]
  by_cases e : j = i
  · subst e
    rw [List.getElem?_set_self hi] at hj
    obtain rfl := Option.some.inj hj
    have : (((((cs.set (j * 3) a).set (j * 3 + 1) b).set (j * 3 + 2) c).drop (j * 3)).take 3) = [a, b, c] := by
      apply List.ext_getElem?
      intro k
      rw [List.getElem?_take]
      split
      · rename_i hk
        rw [List.getElem?_drop, hget k hk, if_pos rfl]
      · rename_i hk
        rw [List.getElem?_eq_none (by simp; omega)]
    rw [this]
    exact hx
  · rw [List.getElem?_set_ne (fun q => e q.symm)] at hj
    have : (((((cs.set (i * 3) a).set (i * 3 + 1) b).set (i * 3 + 2) c).drop (j * 3)).take 3) = (cs.drop (j * 3)).take 3 := by
      apply List.ext_getElem?
      intro k
      rw [List.getElem?_take, List.getElem?_take]
      split
      · rename_i hk
        rw [List.getElem?_drop, List.getElem?_drop, hget k hk, if_neg e]
      · rfl
    rw [this]
    exact h2 j p hj
theorem VR.put {w : World} {lo g n cap : Nat} {xs : List (Int × Int × ByteArray)} (h : VR w lo (.slice (some ⟨g, 0, none⟩) n cap) xs) (hn : xs.length = n) (i : Nat) (hi : i < xs.length) (q m : Int) (s : ByteArray) :
    VR (((w.setCell ⟨g, i * 3, none⟩ (.int .u8 q)).setCell ⟨g, i * 3 + 1, none⟩ (.int .i64 m)).setCell ⟨g, i * 3 + 2, none⟩ (.string s)) lo (.slice (some ⟨g, 0, none⟩) n cap) (xs.set i (q, m, s)) := by
  subst hn
  obtain ⟨h0, inner, ho, hr⟩ := h
  have h1 := (ho.stored (i * 3) (.int .u8 q)).1
  have h2 := (h1.stored (i * 3 + 1) (.int .i64 m)).1
  have h3 := (h2.stored (i * 3 + 2) (.string s)).1
  exact ⟨h0, _, by rw [List.length_set]; exact h3, reps_put hr i (q, m, s) _ _ _ hi ⟨_, _, rfl, rfl, _, _, rfl, rfl, rfl⟩⟩
/-- A cell's values become others, in their own row. -/
theorem CBO.row {w w1 : World} {O : Nat → Prop} {lo b g n cap : Nat} {k : Value} {c : Cell} {vals : List (Int × Int × ByteArray)} (h : CBO w O lo b (.slice (some ⟨g, 0, none⟩) n cap) k c) (hf : Fr (fun j => j = g) w w1) (hr : VR w1 lo (.slice (some ⟨g, 0, none⟩) n cap) vals) :
    CBO w1 O lo b (.slice (some ⟨g, 0, none⟩) n cap) k {c with vals := vals} :=
  ⟨hf.blk h.blk (fun e => (h.vk g rfl).2.1 e.symm), hr, Kd.R_mono (Kd.R_kept (Kd.R_tight2 (d := Kd.int .i64) rfl h.kr) hf.kept (fun j hj e => by subst e; exact (h.vk j rfl).1 hj.1.symm)) (fun j hj => hj.2), h.vk, h.kk, h.no⟩
abbrev IntB (w : World) (b : Nat) (i : Int) : Prop := w.heap[b]? = some (.cells #[.int .i64 i] 3 (0, 0))
end Go.Proofs.Ytnipbfhfaefieaa.Pv
/-! pvec: make and change, for set 1. Printed by wip/tools/gen_pvd.py. -/
namespace Go.Proofs.Ytnipbfhfaefieaa.Pv
open Go.RowKit Go Go.Proofs.YtnipbfhfaefieaaW.PrintWords Go.Proofs.YtnipbfhfaefieaaW.PrintMore Go.Proofs.YtnipbfhfaefieaaW.PrintLast Go.Proofs.Ytnipbfhfaefieaa.Bts Go.Proofs.Ytnipbfhfaefieaa.Fra Go.Proofs.Ytnipbfhfaefieaa.ArnP Go.Proofs.Ytnipbfhfaefieaa.Arn Go.Proofs.Ytnipbfhfaefieaa.Ao
end Go.Proofs.Ytnipbfhfaefieaa.Pv
/-! pvec: a value of a leaf is set. -/
namespace Go.Proofs.Ytnipbfhfaefieaa.Pv
open Go.RowKit Go Go.Proofs.YtnipbfhfaefieaaW.PrintWords Go.Proofs.YtnipbfhfaefieaaW.PrintMore Go.Proofs.YtnipbfhfaefieaaW.PrintLast Go.Proofs.Ytnipbfhfaefieaa.Bts Go.Proofs.Ytnipbfhfaefieaa.Fra Go.Proofs.Ytnipbfhfaefieaa.ArnP Go.Proofs.Ytnipbfhfaefieaa.Arn Go.Proofs.Ytnipbfhfaefieaa.Ao
abbrev valV (q n : Int) (s : ByteArray) : Value := .agg #[.int .u8 q, .int .i64 n, .string s]
theorem new2 (w : World) (o1 o2 o3 : Obj) : (((w.alloc o1).alloc o2).alloc o3).heap[w.heap.size + 2]? = some o3 := by
  have h := new1 (w.alloc o1) o2 o3
  have e : (w.alloc o1).heap.size = w.heap.size + 1 := by simp
  rwa [e] at h
theorem new3 (w : World) (o1 o2 o3 o4 : Obj) : ((((w.alloc o1).alloc o2).alloc o3).alloc o4).heap[w.heap.size + 3]? = some o4 := by
  have h := new2 (w.alloc o1) o2 o3 o4
  have e : (w.alloc o1).heap.size = w.heap.size + 1 := by simp
  rwa [e] at h
end Go.Proofs.Ytnipbfhfaefieaa.Pv
/-! pvec: a list of cells' numbers in which one is another. -/
namespace Go.Proofs.Ytnipbfhfaefieaa.Pv
open Go.RowKit Go Go.Proofs.YtnipbfhfaefieaaW.PrintWords Go.Proofs.YtnipbfhfaefieaaW.PrintMore Go.Proofs.YtnipbfhfaefieaaW.PrintLast Go.Proofs.Ytnipbfhfaefieaa.Bts Go.Proofs.Ytnipbfhfaefieaa.Fra Go.Proofs.Ytnipbfhfaefieaa.ArnP Go.Proofs.Ytnipbfhfaefieaa.Arn Go.Proofs.Ytnipbfhfaefieaa.Ao
theorem reps_put1 {R : Int → List Value → Prop} {xs : List Int} {cs : List Value} (h : Reps R 1 xs cs) (i : Nat) (x : Int) (a : Value) (hi : i < xs.length) (hx : R x [a]) : Reps R 1 (xs.set i x) (cs.set i a) := by
  obtain ⟨h1, h2⟩ := h
  refine ⟨by simp [h1], fun j p hj => ?_⟩
  by_cases e : j = i
  · subst e
    rw [List.getElem?_set_self hi] at hj
    obtain rfl := Option.some.inj hj
    have : ((cs.set j a).drop (j * 1)).take 1 = [a] := by
      apply List.ext_getElem?
      intro k
      rw [List.getElem?_take]
      split
      · rename_i hk
        obtain rfl : k = 0 := by omega
        rw [List.getElem?_drop, show j * 1 + 0 = j by omega, List.getElem?_set_self (by omega)]; rfl
      · rename_i hk
        rw [List.getElem?_eq_none (by simp; omega)]
    rw [this]
    exact hx
  · rw [List.getElem?_set_ne (fun q => e q.symm)] at hj
    have : ((cs.set i a).drop (j * 1)).take 1 = (cs.drop (j * 1)).take 1 := by
      apply List.ext_getElem?
      intro k
      rw [List.getElem?_take, List.getElem?_take]
      split
      · rename_i hk
        rw [List.getElem?_drop, List.getElem?_drop, List.getElem?_set_ne (by omega)]
      · rfl
    rw [this]
    exact h2 j p hj
theorem KR.put {w : World} {lo g n cap : Nat} {xs : List Int} (h : KR w lo (.slice (some ⟨g, 0, none⟩) n cap) xs) (hn : xs.length = n) (i : Nat) (hi : i < xs.length) (m : Int) :
    KR (w.setCell ⟨g, i, none⟩ (.int .i64 m)) lo (.slice (some ⟨g, 0, none⟩) n cap) (xs.set i m) := by
  subst hn
  obtain ⟨h0, inner, ho, hr⟩ := h
  have h1 := (ho.stored i (.int .i64 m)).1
  exact ⟨h0, _, by rw [List.length_set]; exact h1, reps_put1 hr i m _ hi rfl⟩
theorem kc_app (a b : List Int) (x : Nat) : kc (a ++ b) x = kc a x + kc b x := by
  unfold kc kidsOf
  rw [List.filter_append, List.map_append, List.count_append]
theorem kc_cons (z : Nat) (l : List Int) (hz : 0 < z) (x : Nat) : kc ((z : Int) :: l) x = kc l x + one z x := by
  unfold kc kidsOf one
  rw [List.filter_cons_of_pos (by simp; omega), List.map_cons, List.count_cons, Int.toNat_natCast]
  by_cases e : x = z
  · subst e; simp
  · rw [if_neg e, if_neg (by simpa using fun q => e q.symm)]
end Go.Proofs.Ytnipbfhfaefieaa.Pv
/-! pvec: set's callback one level up. -/
namespace Go.Proofs.Ytnipbfhfaefieaa.Pv
open Go.RowKit Go Go.Proofs.YtnipbfhfaefieaaW.PrintWords Go.Proofs.YtnipbfhfaefieaaW.PrintMore Go.Proofs.YtnipbfhfaefieaaW.PrintLast Go.Proofs.Ytnipbfhfaefieaa.Bts Go.Proofs.Ytnipbfhfaefieaa.Fra Go.Proofs.Ytnipbfhfaefieaa.ArnP Go.Proofs.Ytnipbfhfaefieaa.Arn Go.Proofs.Ytnipbfhfaefieaa.Ao
abbrev WorkB (w : World) (b a : Nat) (o : Int) : Prop := w.heap[b]? = some (.cells #[.pointer (some ⟨a, 0, none⟩), .int .u32 o] 133 (0, 0))
end Go.Proofs.Ytnipbfhfaefieaa.Pv
/-! pvec: a value in a trunk of one level is set. -/
namespace Go.Proofs.Ytnipbfhfaefieaa.Pv
open Go.RowKit Go Go.Proofs.YtnipbfhfaefieaaW.PrintWords Go.Proofs.YtnipbfhfaefieaaW.PrintMore Go.Proofs.YtnipbfhfaefieaaW.PrintLast Go.Proofs.Ytnipbfhfaefieaa.Bts Go.Proofs.Ytnipbfhfaefieaa.Fra Go.Proofs.Ytnipbfhfaefieaa.ArnP Go.Proofs.Ytnipbfhfaefieaa.Arn Go.Proofs.Ytnipbfhfaefieaa.Ao
theorem bnd_one {rest : Nat → Nat} {A B : Nat} (k : Nat) (hb : ∀ x, rest x ≤ A) (h : A + 1 ≤ B) (x : Nat) : rest x + one k x ≤ B :=
  Nat.le_trans (Nat.add_le_add (hb x) (show one k x ≤ 1 by unfold one; split <;> omega)) h
theorem hro_one {rest : Nat → Nat} {op : Nat → Bool} (k : Nat) (hro : ∀ z, op z = true → 1 ≤ rest z) : ∀ z, (fun x => x == k || op x) z = true → 1 ≤ rest z + one k z := by
  intro z hz
  by_cases e : z = k
  · subst e; have : one z z = 1 := if_pos rfl; omega
  · have hz2 : (z == k || op z) = true := hz
    rw [show (z == k) = false by simpa using e, Bool.false_or] at hz2
    have := hro z hz2
    omega
end Go.Proofs.Ytnipbfhfaefieaa.Pv
/-! pvec: make and change, for hang 1. Printed by wip/tools/gen_pvd.py. -/
namespace Go.Proofs.Ytnipbfhfaefieaa.Pv
open Go.RowKit Go Go.Proofs.YtnipbfhfaefieaaW.PrintWords Go.Proofs.YtnipbfhfaefieaaW.PrintMore Go.Proofs.YtnipbfhfaefieaaW.PrintLast Go.Proofs.Ytnipbfhfaefieaa.Bts Go.Proofs.Ytnipbfhfaefieaa.Fra Go.Proofs.Ytnipbfhfaefieaa.ArnP Go.Proofs.Ytnipbfhfaefieaa.Arn Go.Proofs.Ytnipbfhfaefieaa.Ao
set_option maxHeartbeats 4000000 in
set_option maxRecDepth 100000 in
theorem make_hang {O O0 : Nat → Prop} {a : Nat} {f f0 : Nat → Cell} {live most need : Int} {rest ex : Nat → Nat} {op : Nat → Bool} {c : Cell} {R : (Nat → Cell) → Cell → Prop} (o : Int) (v k p1 p2 p3 p4 : Value) (lo : Nat) (w0 w : World) (h : AO w O a f live most (fun z => rest z + ex z + kc c.kids z) op) (hv : VR w lo v c.vals) (hk : KR w lo k c.kids) (hvk : ∀ j, v.ownBlock = some j → k.ownBlock ≠ some j) (hno : ∀ j, v.ownBlock = some j ∨ k.ownBlock = some j → ¬ O j)
    (hcb : Cb 103 (fun p => #[p, p1, p2, p3, p4]) w0 O0 a most rest ex op f0 need c R) (hF : Fr O0 w0 w) (hO : ∀ j, O j → O0 j ∨ w0.heap.size ≤ j) (hlo : w0.heap.size ≤ lo) (hlo2 : lo ≤ w.heap.size) (hK : KeepR (fun x => rest x + ex x) op f0 f) (hS : ∀ x ∈ kidsOf c.kids, Same f0 f x) (hlm : live + need < most) (hro : ∀ z, op z = true → 1 ≤ rest z) :
    Calls Try.prog 82 #[workV a o, cellV c.ow c.a c.b v k, .func (.func 103) #[] #[p1, p2, p3, p4]] w fun e w' => ∃ (i : Nat) (O' : Nat → Prop) (f' : Nat → Cell) (live' : Int) (c' : Cell), e = .returned (.int .i64 i) ∧ AO w' O' a (upd f' i {c' with ow := o, r := 1}) live' most (fun z => rest z + one i z) op ∧ live' ≤ live + need + 1 ∧ R f' c' ∧ (∀ x ∈ kidsOf c'.kids, Same f' (upd f' i {c' with ow := o, r := 1}) x) ∧ 0 < i ∧ op i = false ∧ KeepR rest op f (upd f' i {c' with ow := o, r := 1}) ∧ (∀ j, O' j → O j ∨ w.heap.size ≤ j) ∧ Fr (fun j => O j ∨ v.ownBlock = some j ∨ k.ownBlock = some j) w w' := by
  obtain ⟨A1, c1, e1⟩ := Kd.R_slice hv
  obtain ⟨A2, c2, e2⟩ := Kd.R_slice hk
  subst e1 e2
  have hb : Below w.heap.size w ((w.alloc (.cells #[.pointer (some ⟨a, 0, none⟩), .int .u32 o] 133)).alloc (.cells #[.int .u32 c.ow, .int .u32 c.a, .int .u32 c.b, .slice A1 c.vals.length c1, .slice A2 c.kids.length c2] 43)) := below_alloc (below_alloc (Below.refl _ _) _) _
  have hbw := blk_alloc (blk_new w (.cells #[.pointer (some ⟨a, 0, none⟩), .int .u32 o] 133)) (.cells #[.int .u32 c.ow, .int .u32 c.a, .int .u32 c.b, .slice A1 c.vals.length c1, .slice A2 c.kids.length c2] 43)
  have hbc := new1 w (.cells #[.pointer (some ⟨a, 0, none⟩), .int .u32 o] 133) (.cells #[.int .u32 c.ow, .int .u32 c.a, .int .u32 c.b, .slice A1 c.vals.length c1, .slice A2 c.kids.length c2] 43)
  have hlt := h.lt
  have hvl : ∀ j, (Value.slice A1 c.vals.length c1).ownBlock = some j → j < w.heap.size := fun j hj => by obtain ⟨q, ho⟩ := Kd.R_own hv; exact own_lt ho j hj
  have hkl : ∀ j, (Value.slice A2 c.kids.length c2).ownBlock = some j → j < w.heap.size := fun j hj => by obtain ⟨q, ho⟩ := Kd.R_own hk; exact own_lt ho j hj
  have hcbo : CBO _ O lo (w.heap.size + 1) (.slice A1 c.vals.length c1) (.slice A2 c.kids.length c2) c := ⟨hbc, Kd.R_below hv hb, Kd.R_below hk hb, fun j hj => ⟨hvk j hj, by have := hvl j hj; omega, hno j (.inl hj)⟩, fun j hj => ⟨by have := hkl j hj; omega, hno j (.inr hj)⟩, fun e => by have := hlt _ e; omega⟩
  have hnf : ∀ w : World, (binOp .neq 138 (.func (.func 103) #[] #[p1, p2, p3, p4]) .nilFunc).run Try.prog w = .ok (.bool true) w := fun _ => by kernel_rfl
  have HB := Lib.hid hb
  have HBW := Lib.hid hbw
  have HCB := Lib.hid hcbo
  have HA := Lib.hid (h.below hb)
  have HC := Lib.hid hcb
  have HF := Lib.hid (hF.more hb)
  have HO := Lib.hid hO
  have HK := Lib.hid hK
  have HS := Lib.hid hS
  have HVL := Lib.hid hvl
  have HKL := Lib.hid hkl
  have HLT := Lib.hid hlt
  have HSZ := Lib.hid (show w0.heap.size ≤ w.heap.size from hF.size)
  clear h hcb hbc hbw hcbo hb hF hO hK hS hv hk hvl hkl hlt
  go_enter Try.func82, Try.ntmps82
  go_wp2_with (first
    | (go_at_call 21; go_loud (refine (make_ao o _ _ _ _ c3.vals c3.kids _ HA4.out HV4.out HK4.out (fun j hj => hj) HZ3.out.2.2 (by have := HLL3.out; omega) HZ3.out.1 HZ3.out.2.1 hro).mono ?_; rintro e w5 ⟨i, O5, rfl, hA5, h0, hr, hoi, hK5, hO5, hF5⟩; have HA5 := Lib.hid hA5; have HK5 := Lib.hid hK5; have HO5 := Lib.hid hO5; have HF5 := Lib.hid hF5; clear hA5 hK5 hO5 hF5))
    | (go_at_call 103; go_loud (refine (HC.out _ O f live lo (w.heap.size + 1) _ _ HA.out HF.out HO.out hlo (by simp; omega) (by have := HSZ.out; omega) HCB.out HK.out HS.out (by omega)).mono ?_; rintro e w3 ⟨rfl, O3, f3, live3, c3, v3, k3, hA3, hC3, hF3, hO3, hll3, hK3, hR3, how3, hz1, hz2, hz3⟩; have hbw3 := hF3.blk HBW.out (fun e => by rcases e with e | e | e | e; (have := HLT.out _ e; omega); omega; (have := HVL.out _ e; omega); (have := HKL.out _ e; omega)); obtain ⟨A3, d3, e3⟩ := Kd.R_slice hC3.vr; subst e3; obtain ⟨A4, d4, e4⟩ := Kd.R_slice hC3.kr; subst e4; have r0 := blk_cell hC3.blk 0; have r1 := blk_cell hC3.blk 1; have r2 := blk_cell hC3.blk 2; have r3 := blk_cell hC3.blk 3; have r4 := blk_cell hC3.blk 4; have z0 := blk_frozen hC3.blk 0; have q0 := blk_cell hbw3 0; have q1 := blk_cell hbw3 1; have hF4 : Fr (fun j => j = w.heap.size + 1) w3 (w3.setCell ⟨w.heap.size + 1, 0, none⟩ (.int .u32 o)) := Fr.set _ 0 _; have HF4 := Lib.hid hF4; have HA4 := Lib.hid (hA3.move hF4 (fun j hj e => hC3.no (e ▸ hj))); have HV4 := Lib.hid ((row_ne hC3.rows.1 (fun j hj => (hC3.vk j hj).2.1)).fr kVal_K hF4 (fun j hj => hj.2) |>.mono (fun j hj => hj.1)); have HK4 := Lib.hid ((row_ne hC3.rows.2 (fun j hj => (hC3.kk j hj).1)).fr kInt_K hF4 (fun j hj => hj.2) |>.mono (fun j hj => hj.1)); have HZ3 := Lib.hid (show c3.kids.length ≤ 1000 ∧ c3.vals.length ≤ 1000000000 ∧ ∀ z ∈ c3.kids, 0 ≤ z from ⟨hz1, hz2, hz3⟩); have HLL3 := Lib.hid hll3; have HK3 := Lib.hid hK3; have HR3 := Lib.hid hR3; have HF3 := Lib.hid hF3; have HO3 := Lib.hid hO3; clear hA3 hC3 hF3 hO3 hll3 hK3 hR3 hz1 hz2 hz3 hbw3 hF4)))
  go_ret
  have hll := HLL3.out
  have e5 : (⟨o, c3.a, c3.b, c3.vals, c3.kids, 1⟩ : Cell) = {c3 with ow := o, r := 1} := rfl
  refine ⟨i, O5, f3, live3 + 1, c3, rfl, HA5.out, by omega, HR3.out, fun x hx => ?_, h0, hoi, HK3.out.trans HK5.out, fun j hj => ?_, ?_⟩
  · have hA4 := HA4.out
    have hp : 0 < x := by obtain ⟨z, hz1, hz2, rfl⟩ := kidsOf_mem hx; have := HZ3.out.2.2 z hz1; omega
    have hc : 0 < kc c3.kids x := List.count_pos_iff.2 hx
    have hlx := hA4.ext_lv hp (by show 0 < rest x + kc c3.kids x; omega)
    have hox : op x = false := by
      cases hq : op x
      · rfl
      · have := op_kc hA4 hro x hq; omega
    refine same_step hA4 (fun _ => True) (fun y hy _ => ?_) (fun _ _ _ _ _ => trivial) x ⟨hp, hlx, hox⟩ trivial
    rw [upd_ne _ (fun e => by have := hy.2.1; rw [e] at this; omega)]
  · rcases HO5.out j hj with q | q
    · rcases HO3.out j q with q | q
      · exact .inl q
      · exact .inr (Nat.le_trans HB.out.size q)
    · have h1 := HF3.out.size
      have h2 := HB.out.size
      have h3 := HF4.out.size
      exact .inr (by omega)
  · have h2 := HB.out.size
    have hF34 : Fr (Wr O (w.heap.size + 1) (.slice A1 c.vals.length c1) (.slice A2 c.kids.length c2)) _ _ := HF3.out.then_ HF4.out (fun j hj => .inl (.inr (.inl hj)))
    refine ((Fr.of_new (S := fun j => O j ∨ (Value.slice A1 c.vals.length c1).ownBlock = some j ∨ (Value.slice A2 c.kids.length c2).ownBlock = some j) HB.out).then_ hF34 (fun j hj => ?_)).then_ HF5.out (fun j hj => ?_)
    · rcases hj with e | e | e | e
      · exact .inl (.inl e)
      · exact .inr (by omega)
      · exact .inl (.inr (.inl e))
      · exact .inl (.inr (.inr e))
    · rcases HO3.out j hj with q | q
      · exact .inl (.inl q)
      · exact .inr (by omega)
set_option maxHeartbeats 2000000 in
set_option maxRecDepth 100000 in
theorem change_hang {O O0 : Nat → Prop} {a : Nat} {f : Nat → Cell} {live most need : Int} {rest ex : Nat → Nat} {op : Nat → Bool} {R : (Nat → Cell) → Cell → Prop} (o : Int) (i : Nat) (p1 p2 p3 p4 : Value) (w0 w : World) (h : AO w O a f live most (fun z => rest z + ex z + one i z) op) (hi : 0 < i) (ho : op i = false) (hb : ∀ x, rest x + ex x ≤ 80000000000) (hro : ∀ z, op z = true → 1 ≤ rest z)
    (hF : Fr O0 w0 w) (hO : ∀ j, O j → O0 j ∨ w0.heap.size ≤ j) (hc1 : Cb 103 (fun p => #[p, p1, p2, p3, p4]) w0 O0 a most rest ex op f need (f i) R) (hc2 : Cb 103 (fun p => #[p, p1, p2, p3, p4]) w0 O0 a most (fun z => rest z + one i z) ex (fun x => x == i || op x) f need (f i) R) (hlm : live + need < most) :
    Calls Try.prog 78 #[workV a o, .int .i64 i, .func (.func 103) #[] #[p1, p2, p3, p4]] w fun e w' => ∃ (i' : Nat) (O' : Nat → Prop) (f' : Nat → Cell) (live' : Int) (c' : Cell), e = .returned (.int .i64 i') ∧ AO w' O' a (upd f' i' {c' with ow := o, r := 1}) live' most (fun z => rest z + one i' z) op ∧ live' ≤ live + need + 1 ∧ R f' c' ∧ (∀ x ∈ kidsOf c'.kids, Same f' (upd f' i' {c' with ow := o, r := 1}) x) ∧ 0 < i' ∧ op i' = false ∧ KeepR rest op f (upd f' i' {c' with ow := o, r := 1}) ∧ (∀ j, O' j → O j ∨ w.heap.size ≤ j) ∧ Fr O w w' := by
  have hone : one i i = 1 := if_pos rfl
  have hlive : 0 < (f i).r := h.ext_lv hi (by show 0 < rest i + ex i + one i i; omega)
  have hLv : Lv f op i := ⟨hi, hlive, ho⟩
  have hkn := AO.kn h hLv
  have hkl := AO.kl h hlive
  have H := Lib.hid h
  have HF := Lib.hid hF
  have HO := Lib.hid hO
  have HC1 := Lib.hid hc1
  have HC2 := Lib.hid hc2
  have HLT := Lib.hid h.lt
  have HBB := Lib.hid hb
  have HRO := Lib.hid hro
  have HKN := Lib.hid hkn
  have HKL := Lib.hid hkl
  have HSZ := Lib.hid (show w0.heap.size ≤ w.heap.size from hF.size)
  have hnB : ∀ b, w.heap.size ≤ b → ¬ O b := fun b hb e => by have := HLT.out b e; omega
  have HNB := Lib.hid hnB
  clear h hc1 hc2 hkn hkl hF hO hb hro hnB
  by_cases hin : o ≠ 0 ∧ (f i).ow = o ∧ (f i).r = 1
  · obtain ⟨g0, g1, g2⟩ := hin
    have b0 : (o != 0) = true := by simpa using g0
    have b1 : ((f i).ow == o) = true := by simpa using g1
    have b2 : ((f i).r == 1) = true := by simpa using g2
    have hri : rest i = 0 := by
      have h1 : ((rest i + ex i + one i i : Nat) : Int) ≤ (f i).r := H.out.ext_r hi
      omega
    have HG := Lib.hid g1
    have HG2 := Lib.hid g2
    have HRI := Lib.hid hri
    clear g1 g2 hri
    go_enter Try.func78, Try.ntmps78
    go_wp2_with (first
      | (go_at_call 28; go_loud (refine HE.out.mono ?_; rintro e w5 ⟨rfl, O5, hA5, hO5, hF5⟩; have HA5 := Lib.hid hA5; have HO5 := Lib.hid hO5; have HF5 := Lib.hid hF5; clear hA5 hO5 hF5))
      | (go_at_call 103; go_loud (refine (HC2.out _ O f live (w.heap.size + 1) w1.heap.size _ _ HAO.out HF2.out HO.out (by have := HSZ.out; omega) HS2.out.1 (by have := HSZ.out; have := HS2.out.2; omega) HCB2.out (KeepR.refl _ _ _) (fun x _ => Same.refl _ _) (by omega)).mono ?_; rintro e w3 ⟨rfl, O3, f3, live3, c3, v3, k3, hA3, hC3, hF3, hO3, hll3, hK3, hR3, how3, hz1, hz2, hz3⟩; have hbw3 := hF3.blk HBW2.out (HNW.out); have q0 := blk_cell hbw3 0; have q1 := blk_cell hbw3 1; obtain ⟨A3, d3, e3⟩ := Kd.R_slice hC3.vr; subst e3; obtain ⟨A4, d4, e4⟩ := Kd.R_slice hC3.kr; subst e4; have r0 := blk_cell hC3.blk 0; have r1 := blk_cell hC3.blk 1; have r2 := blk_cell hC3.blk 2; have r3 := blk_cell hC3.blk 3; have r4 := blk_cell hC3.blk 4; have hf3i : f3 i = f i := (hK3 i hi (by show 0 < rest i + one i i; omega)).1 (by simp); have HE := Lib.hid (edit_in hA3 hC3 hf3i g0 hi HG2.out HG.out ho hone (fun x => Nat.le_trans (Nat.le_add_right _ _) (HBB.out x)) HRO.out hz1 hz2 hz3); have HA3 := Lib.hid hA3; have HZ3 := Lib.hid (show c3.kids.length ≤ 1000 ∧ c3.vals.length ≤ 1000000000 ∧ ∀ z ∈ c3.kids, 0 ≤ z from ⟨hz1, hz2, hz3⟩); have HLL3 := Lib.hid hll3; have HK3 := Lib.hid hK3; have HR3 := Lib.hid hR3; have HF3 := Lib.hid hF3; have HO3 := Lib.hid hO3; clear how3 hA3 hC3 hF3 hO3 hll3 hK3 hR3 hz1 hz2 hz3 hbw3 hf3i))
      | (go_at_call 26; go_loud (refine (refs_ao i _ (H.out.below HB2.out) hi hlive).mono ?_; rintro e w2 ⟨rfl, hB2⟩; have hb3 := below_step HB2.out hB2; have hbw := blk_below HBW1.out hB2; have q0 := blk_cell hbw 0; have q1 := blk_cell hbw 1; have hcb2 := HCB1.out.below hB2; have HBW2 := Lib.hid hbw; have HCB2 := Lib.hid hcb2; have HF2 := Lib.hid (HF.out.more hb3); have HAO := Lib.hid (open_ex (H.out.below hb3) hi HG2.out ho hone HBB.out); have HS2 := Lib.hid (show w.heap.size + 1 ≤ w2.heap.size ∧ w.heap.size + 1 ≤ w1.heap.size from ⟨by have h1 := hB2.size; simp at h1; have h2 := HS1.out; omega, HS1.out⟩); have HNW := Lib.hid (wr_no HNB.out HVK1.out (show w.heap.size + 1 ≤ w1.heap.size from HS1.out)); have HB3 := Lib.hid hb3; clear hB2 hbw hcb2 hb3))
      | (go_at_call 24; go_loud (refine (get_AO i _ (H.out.below (by repeat (first | (with_reducible first | exact Below.refl _ _ | apply below_alloc | apply pw_below_drewN | apply below_drew1)))) hi hlive).mono ?_; rintro e w1 ⟨v, k, rfl, hv1, hk1, hd1, hB1⟩; obtain ⟨A1, c1, e1⟩ := Kd.R_slice hv1; subst e1; obtain ⟨A2, c2, e2⟩ := Kd.R_slice hk1; subst e2; have HS1 := Lib.hid (show w.heap.size + 1 ≤ w1.heap.size by have := hB1.size; simpa using this); have hb2 := below_alloc (below_step (below_alloc (Below.refl w.heap.size w) (.cells #[.pointer (some ⟨a, 0, none⟩), .int .u32 o] 133)) hB1) (.cells #[.int .u32 (f i).ow, .int .u32 (f i).a, .int .u32 (f i).b, .slice A1 (f i).vals.length c1, .slice A2 (f i).kids.length c2] 43); have HBW1 := Lib.hid (blk_alloc (blk_below (blk_new w (.cells #[.pointer (some ⟨a, 0, none⟩), .int .u32 o] 133)) hB1) (.cells #[.int .u32 (f i).ow, .int .u32 (f i).a, .int .u32 (f i).b, .slice A1 (f i).vals.length c1, .slice A2 (f i).kids.length c2] 43)); have q0 := blk_cell HBW1.out 0; have q1 := blk_cell HBW1.out 1; have HCB1 := Lib.hid (cbo_new hv1 hk1 hd1 HNB.out (by simp) HS1.out); have HVK1 := Lib.hid (rows_from (w := w) hv1 hk1 (by simp)); have HB2 := Lib.hid hb2; clear hv1 hk1 hd1 hB1 hb2)))
    go_ret
    have hll := HLL3.out
    have hA3 := HA3.out
    have hlvE : ∀ j, Lv f3 (fun x => x == i || op x) j → Same f3 (upd f3 i {c3 with ow := o, r := 1}) j := fun j hj => same_step hA3 (fun _ => True) (fun y hy _ => by rw [upd_ne _ (fun (e : y = i) => by have h1 : (y == i || op y) = false := hy.2.2; rw [e] at h1; simp at h1)]) (fun _ _ _ _ _ => trivial) j hj trivial
    have hro' : ∀ z, (fun x => x == i || op x) z = true → 1 ≤ rest z + one i z := by
      intro z hz
      by_cases e : z = i
      · subst e; omega
      · have hz2 : (z == i || op z) = true := hz
        rw [show (z == i) = false by simpa using e, Bool.false_or] at hz2
        have := HRO.out z hz2
        omega
    refine ⟨i, O5, f3, live3, c3, rfl, HA5.out, by omega, HR3.out, fun x hx => ?_, hi, ho, fun j h0 hj => ?_, fun j hj => ?_, ?_⟩
    · have hp : 0 < x := by obtain ⟨z, hz1, hz2, rfl⟩ := kidsOf_mem hx; have := HZ3.out.2.2 z hz1; omega
      have hc : 0 < kc c3.kids x := List.count_pos_iff.2 hx
      refine hlvE x ⟨hp, hA3.ext_lv hp (by show 0 < rest x + one i x + kc c3.kids x; omega), ?_⟩
      cases hq : (fun x => x == i || op x) x
      · rfl
      · have := op_kc (rest := fun z => rest z + one i z) hA3 hro' x hq; omega
    · have hji : j ≠ i := fun e => by have := HRI.out; rw [e] at hj; omega
      have hji' : (j == i) = false := by simpa using hji
      have hk := HK3.out j h0 (by show 0 < rest j + one i j; omega)
      refine ⟨fun hoj => by rw [upd_ne _ hji]; exact hk.1 (by show (j == i || op j) = true; rw [hoj, Bool.or_true]), fun hoj => ?_⟩
      have hoj' : (j == i || op j) = false := by rw [hji', hoj]; rfl
      exact (hk.2 hoj').trans (hlvE j ⟨h0, hA3.ext_lv h0 (by show 0 < rest j + one i j + kc c3.kids j; omega), hoj'⟩)
    · have h1 := HF3.out.size
      have h2 := HB3.out.size
      rcases HO5.out j hj with q | q
      · rcases HO3.out j q with q | q
        · exact .inl q
        · exact .inr (by omega)
      · exact .inr (by omega)
    · have h1 := HS2.out
      have h2 := HB3.out.size
      refine ((Fr.of_new (S := O) HB3.out).then_ HF3.out (fun j hj => ?_)).then_ HF5.out (fun j hj => ?_)
      · rcases hj with e | e | e | e
        · exact .inl e
        · exact .inr (by omega)
        · exact .inr (by have := HVK1.out j (.inl e); omega)
        · exact .inr (by have := HVK1.out j (.inr e); omega)
      · rcases HO3.out j hj with q | q
        · exact .inl q
        · exact .inr (by omega)
  · have hcs : (o != 0) = false ∨ ((o != 0) = true ∧ ((f i).ow == o) = false) ∨ ((o != 0) = true ∧ ((f i).ow == o) = true ∧ ((f i).r == 1) = false) := by
      by_cases g0 : o = 0
      · exact .inl (by simpa using g0)
      · by_cases g1 : (f i).ow = o
        · exact .inr (.inr ⟨by simpa using g0, by simpa using g1, by simpa using fun g2 => hin ⟨g0, g1, g2⟩⟩)
        · exact .inr (.inl ⟨by simpa using g0, by simpa using g1⟩)
    clear hin
    rcases hcs with b0 | ⟨b0, b1⟩ | ⟨b0, b1, b2⟩
    all_goals (
      go_enter Try.func78, Try.ntmps78
      go_wp2_with (first
        | (go_at_call 26; go_loud (refine (refs_ao i _ (H.out.below HB2x.out) hi hlive).mono ?_; rintro e w2 ⟨rfl, hB2⟩; have hb3 := below_step HB2x.out hB2; have hbw := blk_below HBWx.out hB2; have q0 := blk_cell hbw 0; have q1 := blk_cell hbw 1; have HBWx := Lib.hid hbw; have HB2x := Lib.hid hb3; clear hB2 hbw hb3))
        | (go_at_call 24; go_loud (refine (get_AO i _ (H.out.below (by repeat (first | (with_reducible first | exact Below.refl _ _ | apply below_alloc | apply pw_below_drewN | apply below_drew1)))) hi hlive).mono ?_; rintro e w1 ⟨v, k, rfl, hv1, hk1, hd1, hB1⟩; obtain ⟨A1, c1, e1⟩ := Kd.R_slice hv1; subst e1; obtain ⟨A2, c2, e2⟩ := Kd.R_slice hk1; subst e2; have hb2 := below_alloc (below_step (below_alloc (Below.refl w.heap.size w) (.cells #[.pointer (some ⟨a, 0, none⟩), .int .u32 o] 133)) hB1) (.cells #[.int .u32 (f i).ow, .int .u32 (f i).a, .int .u32 (f i).b, .slice A1 (f i).vals.length c1, .slice A2 (f i).kids.length c2] 43); have HBWx := Lib.hid (blk_alloc (blk_below (blk_new w (.cells #[.pointer (some ⟨a, 0, none⟩), .int .u32 o] 133)) hB1) (.cells #[.int .u32 (f i).ow, .int .u32 (f i).a, .int .u32 (f i).b, .slice A1 (f i).vals.length c1, .slice A2 (f i).kids.length c2] 43)); have q0 := blk_cell HBWx.out 0; have q1 := blk_cell HBWx.out 1; have HB2x := Lib.hid hb2; clear hv1 hk1 hd1 hB1 hb2)))
      have hbd := below_drew1 HB2x.out
      have hAd := H.out.below hbd
      have hbwd := blk_drew HBWx.out
      have HBD := Lib.hid hbd
      have HAD := Lib.hid hAd
      have HBWD := Lib.hid hbwd
      have HBB9 := Lib.hid (fun x => Nat.le_trans (HBB.out x) (show 80000000000 ≤ 90000000000 by decide))
      clear hbd hAd hbwd q0 q1
      refine start_ (n := 7) (S := fun w' => w'.cell? ⟨w.heap.size, 0, none⟩ = some (.pointer (some ⟨a, 0, none⟩)) ∧ w'.cell? ⟨w.heap.size, 1, none⟩ = some (.int .u32 o)) (ds := [5]) #[false, false, false, false, false, false, false] (by kernel_rfl) rfl rfl ⟨(blk_cell HBWD.out 0), (blk_cell HBWD.out 1)⟩ (fun hHeld => ?_)
      refine pure_ (i := 2) (N := some 45) (v := ?_) (a' := ?_) #[false, false, true, false, false, false, false] rfl rfl (by kernel_rfl) (fun _ _ _ h => h) (Or.inl ⟨by rfl, ?_⟩) ?_ ?_
      rotate_left
      · intro w'
        go_simp
        with_reducible rfl
      rotate_left
      · simp only [Act.put, List.setIfInBounds_toArray, List.set_cons_zero, List.set_cons_succ, i64_w, i32_w]
        rfl
      refine pure_ (i := 4) (N := some 47) (v := ?_) (a' := ?_) #[false, false, true, false, true, false, false] rfl rfl (by kernel_rfl) (fun _ _ _ h => h) (Or.inl ⟨by rfl, ?_⟩) ?_ ?_
      rotate_left
      · intro w'
        go_simp
        with_reducible rfl
      rotate_left
      · simp only [Act.put, List.setIfInBounds_toArray, List.set_cons_zero, List.set_cons_succ, i64_w, i32_w]
        rfl
      refine take_ (i := 0) (N := some 43) (v := ?_) (a' := ?_) #[true, false, true, false, true, false, false] rfl rfl (by kernel_rfl) (fun _ _ _ h => h) (Or.inl ⟨by rfl, ?_⟩) hHeld ?_ ?_
      rotate_left
      · rintro w' ⟨s0, s1⟩
        go_simp
        with_reducible rfl
      rotate_left
      · simp only [Act.put, List.setIfInBounds_toArray, List.set_cons_zero, List.set_cons_succ, i64_w, i32_w]
        rfl
      refine take_ (i := 1) (N := some 44) (v := ?_) (a' := ?_) #[true, true, true, false, true, false, false] rfl rfl (by kernel_rfl) (fun _ _ _ h => h) (Or.inl ⟨by rfl, ?_⟩) hHeld ?_ ?_
      rotate_left
      · rintro w' ⟨s0, s1⟩
        go_simp
        with_reducible rfl
      rotate_left
      · simp only [Act.put, List.setIfInBounds_toArray, List.set_cons_zero, List.set_cons_succ, i64_w, i32_w]
        rfl
      refine one_ (i := 3) (N := some 46) #[true, true, true, true, true, false, false] rfl rfl (by kernel_rfl) (by decide) (fun K hK => ?_)
      refine goes_ Try.func87 (by kernel_rfl) rfl #[workV a o, .int .i64 i] (by rfl) rfl rfl (by simp only [List.map_toArray, List.map_cons, List.map_nil]; rfl) ?_
      with_reducible refine (open_calls o i _ HAD.out hi ho HBB9.out).mono ?_
      rintro e w3 ⟨v3, k3, O3, f3, live3, rfl, hv3, hk3, hd3, hn3, hA3, hK3, hS3, hll3, hO3, hF3⟩
      refine ⟨_, rfl, ?_⟩
      have hbw3 := hF3.blk HBWD.out (HNB.out _ (Nat.le_refl _))
      refine hK.out _ _ ⟨(blk_cell hbw3 0), (blk_cell hbw3 1)⟩ (fun hHeld => ?_)
      clear hK K
      refine norm_ (a' := ?_) ?_ ?_
      rotate_left
      · show Act.put _ (some 46) _ = _
        simp only [Act.put, List.setIfInBounds_toArray, List.set_cons_zero, List.set_cons_succ, i64_w, i32_w]
        rfl
      refine last_ (i := 5) (N := some 48) #[true, true, true, true, true, true, false] rfl rfl (by kernel_rfl) (by decide) (fun K hK => ?_)
      refine goes_ Try.func82 (by kernel_rfl) rfl #[workV a o, cellV (f i).ow (f i).a (f i).b v3 k3, .func (.func 103) #[] #[p1, p2, p3, p4]] (by rfl) rfl rfl (by simp only [List.map_toArray, List.map_cons, List.map_nil]; rfl) ?_
      with_reducible refine (make_hang o v3 k3 p1 p2 p3 p4 _ w0 _ hA3 hv3 hk3 hd3 hn3 HC1.out ((HF.out.more HBD.out).then_ hF3 (fun j hj => HO.out j hj)) (fun j hj => (hO3 j hj).elim (HO.out j) (fun q => .inr (Nat.le_trans HSZ.out (Nat.le_trans HBD.out.size q)))) (Nat.le_trans HSZ.out HBD.out.size) hF3.size hK3 hS3 (by omega) HRO.out).mono ?_
      rintro e w4 ⟨i4, O4, f4, live4, c4, rfl, hA4, hll4, hR4, hk4, hi4, ho4, hK4, hO4, hF4⟩
      refine ⟨_, rfl, ?_⟩
      refine hK.out _ _ ?_
      clear hK K
      refine norm_ (a' := ?_) ?_ ?_
      rotate_left
      · show Act.put _ (some 48) _ = _
        simp only [Act.put, List.setIfInBounds_toArray, List.set_cons_zero, List.set_cons_succ, i64_w, i32_w]
        rfl
      refine pure_ (i := 6) (N := some 6) (v := ?_) (a' := ?_) #[true, true, true, true, true, true, true] rfl rfl (by kernel_rfl) (fun _ _ _ h => h) (Or.inl ⟨by rfl, ?_⟩) ?_ ?_
      rotate_left
      · intro w'
        go_simp
        with_reducible rfl
      rotate_left
      · simp only [Act.put, List.setIfInBounds_toArray, List.set_cons_zero, List.set_cons_succ, i64_w, i32_w]
        rfl
      refine done_ (by kernel_rfl) ?_

      have HA4 := Lib.hid hA4
      have HR4 := Lib.hid hR4
      have HKS4 := Lib.hid hk4
      have HK4 := Lib.hid ((hK3.mono (rest' := rest) (fun j hj => by show 0 < rest j + ex j; omega)).trans hK4)
      have HLL4 := Lib.hid (show live4 ≤ live + need + 1 by omega)
      have HO4 := Lib.hid (show ∀ j, O4 j → O j ∨ w.heap.size ≤ j from fun j hj => by
        have h1 := HBD.out.size
        have h2 := hF3.size
        rcases hO4 j hj with q | q
        · rcases hO3 j q with q | q
          · exact .inl q
          · exact .inr (by omega)
        · exact .inr (by omega))
      have HF4 := Lib.hid (show Fr O w w4 from ((Fr.of_new (S := O) HBD.out).trans hF3).then_ hF4 (fun j hj => by
        have h1 := HBD.out.size
        rcases hj with q | q | q
        · rcases hO3 j q with q | q
          · exact .inl q
          · exact .inr (by omega)
        · obtain ⟨q1, o1⟩ := Kd.R_own hv3
          have := own_base o1 j q
          exact .inr (by omega)
        · obtain ⟨q1, o1⟩ := Kd.R_own hk3
          have := own_base o1 j q
          exact .inr (by omega)))
      clear hHeld hA4 hR4 hk4 hK3 hK4 hll3 hll4 hO3 hO4 hF3 hF4 hA3 hv3 hk3 hd3 hn3 hS3 hbw3
      go_wp2
      go_ret
      exact ⟨i4, O4, f4, live4, c4, rfl, HA4.out, HLL4.out, HR4.out, HKS4.out, hi4, ho4, HK4.out, HO4.out, HF4.out⟩)
end Go.Proofs.Ytnipbfhfaefieaa.Pv
