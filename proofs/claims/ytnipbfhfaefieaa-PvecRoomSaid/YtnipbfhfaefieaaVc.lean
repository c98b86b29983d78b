/- Texts of this claim, laid together: PvJ, PvK, PvDhang, PvL, PvM, PvN, PvO, ArAr, PvP, As, PvQ, PvR, PvS, PvT, PvU, PvDpush, PvV, PvW. -/
import Derived.Test.YtnipbfhfaefieaaVb
/-! pvec: set's callback one level up. -/
namespace Go.Proofs.Ytnipbfhfaefieaa.Pv
open Go.RowKit Go Go.Proofs.YtnipbfhfaefieaaW.PrintWords Go.Proofs.YtnipbfhfaefieaaW.PrintMore Go.Proofs.YtnipbfhfaefieaaW.PrintLast Go.Proofs.Ytnipbfhfaefieaa.Bts Go.Proofs.Ytnipbfhfaefieaa.Fra Go.Proofs.Ytnipbfhfaefieaa.ArnP Go.Proofs.Ytnipbfhfaefieaa.Arn Go.Proofs.Ytnipbfhfaefieaa.Ao
theorem kids_pos {l : List Int} (hn : ∀ z ∈ l, 0 ≤ z) {x : Nat} (hx : x ∈ kidsOf l) : 0 < x := by
  unfold kidsOf at hx
  obtain ⟨y, hy, rfl⟩ := List.mem_map.1 hx
  obtain ⟨h1, h2⟩ := List.mem_filter.1 hy
  have h3 := hn y h1
  have h4 : y ≠ 0 := by simpa using h2
  omega
theorem oth_mem {l : List Int} {i z : Nat} (hi : i < l.length) (hz : l[i]? = some (z : Int)) (h0 : 0 < z) {x : Nat} (hx : x ∈ kidsOf (oth l i)) : x ∈ kidsOf l := by
  have h := congrFun (kc_at l i z hi hz h0) x
  have h1 : 0 < kc (oth l i) x := List.count_pos_iff.2 hx
  have h2 : 0 < kc l x := by omega
  exact List.count_pos_iff.1 h2
theorem bnd1 {rest : Nat → Nat} (l : List Int) (hb : ∀ x, rest x ≤ 70000000000) (hl : l.length ≤ 1000) (x : Nat) : rest x + kc l x ≤ 80000000000 :=
  Nat.le_trans (Nat.add_le_add (hb x) (Nat.le_trans (kc_le l x) hl)) (by decide)
theorem oth_len (l : List Int) (i : Nat) (h : l.length ≤ 1000) : (oth l i).length ≤ 1000 := by
  unfold oth
  rw [List.length_append, List.length_take, List.length_drop]
  omega
abbrev WorkB (w : World) (b a : Nat) (o : Int) : Prop := w.heap[b]? = some (.cells #[.pointer (some ⟨a, 0, none⟩), .int .u32 o] 133 (0, 0))
theorem CBO.other {w : World} {O O' : Nat → Prop} {lo b : Nat} {v k : Value} {c : Cell} (h : CBO w O lo b v k c) (hO : ∀ j, O' j → O j ∨ w.heap.size ≤ j) : CBO w O' lo b v k c := by
  obtain ⟨q1, o1⟩ := Kd.R_own h.vr
  obtain ⟨q2, o2⟩ := Kd.R_own h.kr
  have hlt : b < w.heap.size := (Array.getElem?_eq_some_iff.1 h.blk).1
  exact ⟨h.blk, h.vr, h.kr, fun j hj => ⟨(h.vk j hj).1, (h.vk j hj).2.1, fun e => (hO j e).elim (h.vk j hj).2.2 (fun q => by have := own_lt o1 j hj; omega)⟩, fun j hj => ⟨(h.kk j hj).1, fun e => (hO j e).elim (h.kk j hj).2 (fun q => by have := own_lt o2 j hj; omega)⟩, fun e => (hO b e).elim h.no (fun q => by omega)⟩
set_option maxHeartbeats 2000000 in
set_option maxRecDepth 100000 in
theorem cb_set1 {O0 : Nat → Prop} {a : Nat} {f0 : Nat → Cell} {most : Int} {rest : Nat → Nat} {op : Nat → Bool} {c : Cell} {lb xb ib wb : Nat} {q n : Int} {s : ByteArray} (o : Int) (i r z : Nat) (w0 : World) (hL : IntB w0 lb 1) (hx : ValB w0 xb q n s) (hI : IntB w0 ib i) (hW : WorkB w0 wb a o) (hO0 : ¬ O0 lb ∧ ¬ O0 xb ∧ ¬ O0 ib ∧ ¬ O0 wb) (hil : i ≤ 1023) (hr : i / 32 = r) (hi : r < c.kids.length) (hz : c.kids[r]? = some (z : Int)) (hz0 : 0 < z) (hv : i % 32 < (f0 z).vals.length) (hvl : (f0 z).vals.length ≤ 1000) (hcl : c.vals.length ≤ 1000000000) (hkl : c.kids.length ≤ 1000) (hkn : ∀ z ∈ c.kids, 0 ≤ z) (hb : ∀ x, rest x ≤ 70000000000) (hro : ∀ z, op z = true → 1 ≤ rest z) :
    Cb 98 (fun p => #[p, .pointer (some ⟨lb, 0, none⟩), .pointer (some ⟨xb, 0, none⟩), .pointer (some ⟨ib, 0, none⟩), .pointer (some ⟨wb, 0, none⟩)]) w0 O0 a most rest zf op f0 1 c (fun f' c' => ∃ z' : Nat, 0 < z' ∧ c' = {c with kids := c.kids.set r (z' : Int)} ∧ f' z' = {f0 z with vals := (f0 z).vals.set (i % 32) (q, n, s), ow := o, r := 1} ∧ ∀ x ∈ kidsOf (oth c.kids r), Same f0 f' x) := by
  intro w O f live lo b v k hA hF hO hlo hlo2 hb0 hC hK hS hlm
  have e1 : (fun x => rest x + zf x + kc c.kids x) = fun x => rest x + kc c.kids x := by funext x; show rest x + 0 + _ = _; omega
  rw [e1] at hA
  have hopk := op_kc hA hro
  have hkc := kc_at c.kids r z hi hz hz0
  have hopz : op z = false := by
    cases hq : op z with
    | false => rfl
    | true =>
      have h1 := hopk z hq
      rw [hkc] at h1
      have h1 : kc (oth c.kids r) z + one z z = 0 := h1
      have h2 : one z z = 1 := if_pos rfl
      omega
  have hzk : z ∈ kidsOf c.kids := by
    have := mem_kidsOf (List.mem_of_getElem? hz) (by omega)
    rwa [Int.toNat_natCast] at this
  have hfz := (hS z hzk).at_
  have e2 : (fun x => rest x + kc c.kids x) = fun x => (rest x + kc (oth c.kids r) x) + one z x := by funext x; rw [hkc]; show rest x + (_ + _) = _; omega
  rw [e2] at hA
  have hLw := hF.blk hL hO0.1
  have hxw := hF.blk hx hO0.2.1
  have hIw := hF.blk hI hO0.2.2.1
  have hWw := hF.blk hW hO0.2.2.2
  have hlt0 : ∀ b o, w0.heap[b]? = some o → b < w0.heap.size := fun b o h => (Array.getElem?_eq_some_iff.1 h).1
  have nO : ∀ b, b < w0.heap.size → ¬ O0 b → ¬ O b := fun b h1 h2 h3 => (hO b h3).elim h2 (fun h => by omega)
  have nL := nO lb (hlt0 _ _ hL) hO0.1
  have nX := nO xb (hlt0 _ _ hx) hO0.2.1
  have nI := nO ib (hlt0 _ _ hI) hO0.2.2.1
  have nW := nO wb (hlt0 _ _ hW) hO0.2.2.2
  have hil' : (i : Int) ≤ 1023 := by omega
  obtain ⟨_, inner, ho, hrk⟩ := id hC.kr
  obtain ⟨g, c1, e1, hmc, _⟩ := own_some ho (by omega)
  subst e1
  obtain ⟨V, hV⟩ : ∃ V, w.drew = V := ⟨_, rfl⟩
  have hd : Below w.heap.size w V := by rw [← hV]; exact below_drew1 (Below.refl _ _)
  have HD := Lib.hid hd
  have hAd := hA.below hd
  have hCd := hC.below hd
  have hxd := blk_below hxw hd
  have hId := blk_below hIw hd
  have hWd := blk_below hWw hd
  have hLd := blk_below hLw hd
  have l0 := blk_cell hLw 0
  have i0 := blk_cell hIw 0
  have p4 := blk_cell hCd.blk 4
  have x0 := blk_cell hxd 0
  have x1 := blk_cell hxd 1
  have x2 := blk_cell hxd 2
  have w0' := blk_cell hWd 0
  have w1' := blk_cell hWd 1
  have l0' := blk_cell hLd 0
  have i0' := blk_cell hId 0
  have hin : inner.length = c.kids.length * 1 := ho.1
  have hod := own_fr ho (Fr.of_new (S := fun _ => False) hd) (fun _ _ => id)
  have hval : inner[r]? = some (.int .i64 (z : Int)) := by
    have h3 : (inner.drop (r * 1)).take 1 = [.int .i64 (z : Int)] := hrk.2 r _ hz
    have h4 := congrArg (fun l : List Value => l[0]?) h3
    simpa using h4
  have t0 : V.cell? ⟨g, r, none⟩ = some (.int .i64 (z : Int)) := by
    have := (hod.cellAt r (by show r < c.kids.length * 1; omega)).trans hval
    exact this
  have hcall := set0_calls o z i q n s V hAd hz0 hopz (bnd1 _ hb (oth_len _ _ hkl)) (fun z hz => Nat.le_trans (hro z hz) (Nat.le_add_right _ _)) (by omega) (by rw [hfz]; exact hv) (by rw [hfz]; exact hvl) (by omega)
  have u0 := hod.frozenAt r
  have hkd : (i : Int).tdiv 32 = (r : Int) := by rw [Int.tdiv_eq_ediv_of_nonneg (by omega)]; omega
  have hkd2 : (i : Int) / 32 = (r : Int) := by omega
  have hr32 : r < 32 := by omega
  have hrl : (r : Int) < (c.kids.length : Int) := by omega
  have hw0 : (0 : Int) = wrap64 0 := by unfold wrap64; omega
  obtain ⟨l9, hl9⟩ : ∃ l : Value, l = .int .i64 (wrap64 0) := ⟨_, rfl⟩
  have hl0 : Value.int .i64 0 = l9 := by rw [hl9, ← hw0]
  rw [hl0, hl9] at hcall
  have HCALL := Lib.hid hcall
  clear hw0 hl0 hl9
  have HC := Lib.hid hCd
  have HOD := Lib.hid hod
  have HVAL := Lib.hid hval
  have HN := Lib.hid (And.intro nL (And.intro nX (And.intro nI nW)))
  have HF := Lib.hid hF
  have HX := Lib.hid hxd
  have HI := Lib.hid hId
  have HW := Lib.hid hWd
  have HL := Lib.hid hLd
  have HZ := Lib.hid hz
  have HFZ := Lib.hid hfz
  have HRK := Lib.hid hrk
  have HK := Lib.hid hK
  have HS := Lib.hid hS
  have HO := Lib.hid hO
  have HOPK := Lib.hid hopk
  have HKC := Lib.hid hkc
  have HR := Lib.hid hr
  have HRL := Lib.hid hi
  have HB := Lib.hid hb
  clear hcall hCd hod hval nL nX nI nW hF hxd hId hWd hLd hz hfz hrk hK hS hO hopk hkc hr hi hb hL hx hI hW hLw hxw hIw hWw hA hAd hC ho hmc hin e2 e1 hd hlt0 nO
  go_enter Try.func98, Try.ntmps98
  go_wp2_with (go_at_call 61; go_loud (refine (at_zero r hr32 _).mono ?_; rintro e w4 ⟨rfl, hw4⟩; subst w4))
  refine start_ (n := 20) (S := fun w' => w'.cell? ⟨b, 4, none⟩ = some (.slice (some ⟨g, 0, none⟩) c.kids.length c1) ∧ w'.cell? ⟨g, r, none⟩ = some (.int .i64 (z : Int)) ∧ w'.cell? ⟨wb, 0, none⟩ = some (.pointer (some ⟨a, 0, none⟩)) ∧ w'.cell? ⟨wb, 1, none⟩ = some (.int .u32 o) ∧ w'.cell? ⟨lb, 0, none⟩ = some (.int .i64 1) ∧ w'.cell? ⟨ib, 0, none⟩ = some (.int .i64 (i : Int)) ∧ w'.cell? ⟨xb, 0, none⟩ = some (.int .u8 q) ∧ w'.cell? ⟨xb, 1, none⟩ = some (.int .i64 n) ∧ w'.cell? ⟨xb, 2, none⟩ = some (.string s)) (ds := [19]) #[false, false, false, false, false, false, false, false, false, false, false, false, false, false, false, false, false, false, false, false] (by kernel_rfl) rfl rfl ⟨(by rw [hV]; exact p4), (by rw [hV]; exact t0), (by rw [hV]; exact w0'), (by rw [hV]; exact w1'), (by rw [hV]; exact l0'), (by rw [hV]; exact i0'), (by rw [hV]; exact x0), (by rw [hV]; exact x1), (by rw [hV]; exact x2)⟩ (fun hHeld => ?_)
  refine pure_ (i := 0) (N := some 23) (v := ?_) (a' := ?_) #[true, false, false, false, false, false, false, false, false, false, false, false, false, false, false, false, false, false, false, false] rfl rfl (by kernel_rfl) (fun _ _ _ h => h) (Or.inl ⟨by rfl, ?_⟩) ?_ ?_
  rotate_left
  · intro w'
    go_simp
    with_reducible rfl
  rotate_left
  · simp only [Act.put, List.setIfInBounds_toArray, List.set_cons_zero, List.set_cons_succ, i64_w, i32_w]
    rfl
  refine pure_ (i := 1) (N := some 24) (v := ?_) (a' := ?_) #[true, true, false, false, false, false, false, false, false, false, false, false, false, false, false, false, false, false, false, false] rfl rfl (by kernel_rfl) (fun _ _ _ h => h) (Or.inl ⟨by rfl, ?_⟩) ?_ ?_
  rotate_left
  · intro w'
    go_simp
    with_reducible rfl
  rotate_left
  · simp only [Act.put, List.setIfInBounds_toArray, List.set_cons_zero, List.set_cons_succ, i64_w, i32_w]
    rfl
  refine pure_ (i := 2) (N := some 25) (v := ?_) (a' := ?_) #[true, true, true, false, false, false, false, false, false, false, false, false, false, false, false, false, false, false, false, false] rfl rfl (by kernel_rfl) (fun _ _ _ h => h) (Or.inl ⟨by rfl, ?_⟩) ?_ ?_
  rotate_left
  · intro w'
    go_simp
    with_reducible rfl
  rotate_left
  · simp only [Act.put, List.setIfInBounds_toArray, List.set_cons_zero, List.set_cons_succ, i64_w, i32_w]
    rfl
  refine pure_ (i := 4) (N := some 27) (v := ?_) (a' := ?_) #[true, true, true, false, true, false, false, false, false, false, false, false, false, false, false, false, false, false, false, false] rfl rfl (by kernel_rfl) (fun _ _ _ h => h) (Or.inl ⟨by rfl, ?_⟩) ?_ ?_
  rotate_left
  · intro w'
    go_simp
    with_reducible rfl
  rotate_left
  · simp only [Act.put, List.setIfInBounds_toArray, List.set_cons_zero, List.set_cons_succ, i64_w, i32_w]
    rfl
  refine pure_ (i := 6) (N := some 29) (v := ?_) (a' := ?_) #[true, true, true, false, true, false, true, false, false, false, false, false, false, false, false, false, false, false, false, false] rfl rfl (by kernel_rfl) (fun _ _ _ h => h) (Or.inl ⟨by rfl, ?_⟩) ?_ ?_
  rotate_left
  · intro w'
    go_simp
    with_reducible rfl
  rotate_left
  · simp only [Act.put, List.setIfInBounds_toArray, List.set_cons_zero, List.set_cons_succ, i64_w, i32_w]
    rfl
  refine pure_ (i := 7) (N := some 30) (v := ?_) (a' := ?_) #[true, true, true, false, true, false, true, true, false, false, false, false, false, false, false, false, false, false, false, false] rfl rfl (by kernel_rfl) (fun _ _ _ h => h) (Or.inl ⟨by rfl, ?_⟩) ?_ ?_
  rotate_left
  · intro w'
    go_simp
    with_reducible rfl
  rotate_left
  · simp only [Act.put, List.setIfInBounds_toArray, List.set_cons_zero, List.set_cons_succ, i64_w, i32_w]
    rfl
  refine pure_ (i := 8) (N := some 31) (v := ?_) (a' := ?_) #[true, true, true, false, true, false, true, true, true, false, false, false, false, false, false, false, false, false, false, false] rfl rfl (by kernel_rfl) (fun _ _ _ h => h) (Or.inl ⟨by rfl, ?_⟩) ?_ ?_
  rotate_left
  · intro w'
    go_simp
    with_reducible rfl
  rotate_left
  · simp only [Act.put, List.setIfInBounds_toArray, List.set_cons_zero, List.set_cons_succ, i64_w, i32_w]
    rfl
  refine pure_ (i := 10) (N := some 33) (v := ?_) (a' := ?_) #[true, true, true, false, true, false, true, true, true, false, true, false, false, false, false, false, false, false, false, false] rfl rfl (by kernel_rfl) (fun _ _ _ h => h) (Or.inl ⟨by rfl, ?_⟩) ?_ ?_
  rotate_left
  · intro w'
    go_simp
    with_reducible rfl
  rotate_left
  · simp only [Act.put, List.setIfInBounds_toArray, List.set_cons_zero, List.set_cons_succ, i64_w, i32_w]
    rfl
  refine take_ (i := 3) (N := some 26) (v := ?_) (a' := ?_) #[true, true, true, true, true, false, true, true, true, false, true, false, false, false, false, false, false, false, false, false] rfl rfl (by kernel_rfl) (fun _ _ _ h => h) (Or.inl ⟨by rfl, ?_⟩) hHeld ?_ ?_
  rotate_left
  · rintro w' ⟨s0, s1, s2, s3, s4, s5, s6, s7, s8⟩
    go_simp
    with_reducible rfl
  rotate_left
  · simp only [Act.put, List.setIfInBounds_toArray, List.set_cons_zero, List.set_cons_succ, i64_w, i32_w]
    rfl
  refine take_ (i := 5) (N := some 28) (v := ?_) (a' := ?_) #[true, true, true, true, true, true, true, true, true, false, true, false, false, false, false, false, false, false, false, false] rfl rfl (by kernel_rfl) (fun _ _ _ h => h) (Or.inl ⟨by rfl, ?_⟩) hHeld ?_ ?_
  rotate_left
  · rintro w' ⟨s0, s1, s2, s3, s4, s5, s6, s7, s8⟩
    go_simp
    with_reducible rfl
  rotate_left
  · simp only [Act.put, List.setIfInBounds_toArray, List.set_cons_zero, List.set_cons_succ, i64_w, i32_w]
    rfl
  refine take_ (i := 9) (N := some 32) (v := ?_) (a' := ?_) #[true, true, true, true, true, true, true, true, true, true, true, false, false, false, false, false, false, false, false, false] rfl rfl (by kernel_rfl) (fun _ _ _ h => h) (Or.inl ⟨by rfl, ?_⟩) hHeld ?_ ?_
  rotate_left
  · rintro w' ⟨s0, s1, s2, s3, s4, s5, s6, s7, s8⟩
    go_simp
    with_reducible rfl
  rotate_left
  · simp only [Act.put, List.setIfInBounds_toArray, List.set_cons_zero, List.set_cons_succ, i64_w, i32_w]
    rfl
  refine pure_ (i := 11) (N := some 34) (v := ?_) (a' := ?_) #[true, true, true, true, true, true, true, true, true, true, true, true, false, false, false, false, false, false, false, false] rfl rfl (by kernel_rfl) (fun _ _ _ h => h) (Or.inl ⟨by rfl, ?_⟩) ?_ ?_
  rotate_left
  · intro w'
    go_simp
    with_reducible rfl
  rotate_left
  · simp only [Act.put, List.setIfInBounds_toArray, List.set_cons_zero, List.set_cons_succ, i64_w, i32_w]
    rfl
  refine take_ (i := 12) (N := some 35) (v := ?_) (a' := ?_) #[true, true, true, true, true, true, true, true, true, true, true, true, true, false, false, false, false, false, false, false] rfl rfl (by kernel_rfl) (fun _ _ _ h => h) (Or.inl ⟨by rfl, ?_⟩) hHeld ?_ ?_
  rotate_left
  · rintro w' ⟨s0, s1, s2, s3, s4, s5, s6, s7, s8⟩
    go_simp
    with_reducible rfl
  rotate_left
  · simp only [Act.put, List.setIfInBounds_toArray, List.set_cons_zero, List.set_cons_succ, i64_w, i32_w]
    rfl
  refine take_ (i := 13) (N := some 36) (v := ?_) (a' := ?_) #[true, true, true, true, true, true, true, true, true, true, true, true, true, true, false, false, false, false, false, false] rfl rfl (by kernel_rfl) (fun _ _ _ h => h) (Or.inl ⟨by rfl, ?_⟩) hHeld ?_ ?_
  rotate_left
  · rintro w' ⟨s0, s1, s2, s3, s4, s5, s6, s7, s8⟩
    go_simp
    with_reducible rfl
  rotate_left
  · simp only [Act.put, List.setIfInBounds_toArray, List.set_cons_zero, List.set_cons_succ, i64_w, i32_w]
    rfl
  refine pure_ (i := 14) (N := some 37) (v := ?_) (a' := ?_) #[true, true, true, true, true, true, true, true, true, true, true, true, true, true, true, false, false, false, false, false] rfl rfl (by kernel_rfl) (fun _ _ _ h => h) (Or.inl ⟨by rfl, ?_⟩) ?_ ?_
  rotate_left
  · intro w'
    go_simp
    with_reducible rfl
  rotate_left
  · simp only [Act.put, List.setIfInBounds_toArray, List.set_cons_zero, List.set_cons_succ, i64_w, i32_w]
    rfl
  refine take_ (i := 15) (N := some 38) (v := ?_) (a' := ?_) #[true, true, true, true, true, true, true, true, true, true, true, true, true, true, true, true, false, false, false, false] rfl rfl (by kernel_rfl) (fun _ _ _ h => h) (Or.inl ⟨by rfl, ?_⟩) hHeld ?_ ?_
  rotate_left
  · rintro w' ⟨s0, s1, s2, s3, s4, s5, s6, s7, s8⟩
    go_simp
    with_reducible rfl
  rotate_left
  · simp only [Act.put, List.setIfInBounds_toArray, List.set_cons_zero, List.set_cons_succ, i64_w, i32_w]
    rfl
  refine take_ (i := 16) (N := some 39) (v := ?_) (a' := ?_) #[true, true, true, true, true, true, true, true, true, true, true, true, true, true, true, true, true, false, false, false] rfl rfl (by kernel_rfl) (fun _ _ _ h => h) (Or.inl ⟨by rfl, ?_⟩) hHeld ?_ ?_
  rotate_left
  · rintro w' ⟨s0, s1, s2, s3, s4, s5, s6, s7, s8⟩
    go_simp
    with_reducible rfl
  rotate_left
  · simp only [Act.put, List.setIfInBounds_toArray, List.set_cons_zero, List.set_cons_succ, i64_w, i32_w]
    rfl
  refine one_ (i := 17) (N := some 40) #[true, true, true, true, true, true, true, true, true, true, true, true, true, true, true, true, true, true, false, false] rfl rfl (by kernel_rfl) (by decide) (fun K hK => ?_)
  refine goes_ Try.func83 (by kernel_rfl) rfl #[workV a o, .int .i64 z, .int .i64 (wrap64 0), .int .i64 i, valV q n s] (by rfl) rfl rfl (by simp only [List.map_toArray, List.map_cons, List.map_nil]; rfl) ?_
  with_reducible refine ((hV ▸ HCALL.out)).mono ?_
  rintro e w5 ⟨z5, O5, f5, live5, rfl, hA5, hll5, hz5, _, h05, ho5, hK5, hO5, hF5⟩
  refine ⟨_, rfl, ?_⟩
  have HA5 := Lib.hid hA5
  have HZ5 := Lib.hid hz5
  have HF5 : Hid (Fr O V w5) := Lib.hid (hV ▸ hF5)
  clear hz5 hA5
  have hod5 := own_fr HOD.out HF5.out (fun j hj => (HC.out.kk j hj).2)
  have s0 := (hod5.cellAt r (by show r < c.kids.length * 1; omega)).trans HVAL.out
  have u5 := hod5.frozenAt r
  have HOD5 := Lib.hid hod5
  clear hod5
  refine hK.out _ _ ⟨(blk_cell (HF5.out.blk HC.out.blk HC.out.no) 4), s0, (blk_cell (HF5.out.blk HW.out HN.out.2.2.2) 0), (blk_cell (HF5.out.blk HW.out HN.out.2.2.2) 1), (blk_cell (HF5.out.blk HL.out HN.out.1) 0), (blk_cell (HF5.out.blk HI.out HN.out.2.2.1) 0), (blk_cell (HF5.out.blk HX.out HN.out.2.1) 0), (blk_cell (HF5.out.blk HX.out HN.out.2.1) 1), (blk_cell (HF5.out.blk HX.out HN.out.2.1) 2)⟩ (fun hHeld => ?_)
  clear hK K
  refine norm_ (a' := ?_) ?_ ?_
  rotate_left
  · show Act.put _ (some 40) _ = _
    simp only [Act.put, List.setIfInBounds_toArray, List.set_cons_zero, List.set_cons_succ, i64_w, i32_w]
    rfl
  refine pure_ (i := 18) (N := some 41) (v := ?_) (a' := ?_) #[true, true, true, true, true, true, true, true, true, true, true, true, true, true, true, true, true, true, true, false] rfl rfl (by kernel_rfl) (fun _ _ _ h => h) (Or.inl ⟨by rfl, ?_⟩) ?_ ?_
  rotate_left
  · intro w'
    go_simp
    with_reducible rfl
  rotate_left
  · simp only [Act.put, List.setIfInBounds_toArray, List.set_cons_zero, List.set_cons_succ, i64_w, i32_w]
    rfl
  refine last_ (i := 19) (N := none) #[true, true, true, true, true, true, true, true, true, true, true, true, true, true, true, true, true, true, true, true] rfl rfl (by kernel_rfl) (by decide) (fun K hK => ?_)
  refine skip_ (w1 := ?_) (by rfl) rfl ?_ ?_
  rotate_left
  · go_simp
    rfl
  refine hK.out _ _ ?_
  clear hK K
  refine done_ (by kernel_rfl) ?_

  go_end0
  have hd := HD.out
  have hf5 := HF5.out
  rw [hV] at hO5
  have hf6 := fr1w w5 g r (.int .i64 (z5 : Int))
  have hC5 := (HC.out.other hO5).move hf5 HC.out.no (fun j hj => (HC.out.vk j hj).2.2) (fun j hj => (HC.out.kk j hj).2)
  have hC6 := hC5.krow hf6 (KR.put hC5.kr rfl r HRL.out (z5 : Int))
  have hA6 := HA5.out.move hf6 (fun j hj e => by subst e; exact (hC5.kk j rfl).2 hj)
  have e3 : (fun x => rest x + kc (oth c.kids r) x + one z5 x) = fun x => rest x + kc (c.kids.set r (z5 : Int)) x := by
    funext x
    rw [kc_set c.kids r z5 HRL.out h05]
    show _ = rest x + (_ + _)
    omega
  rw [e3] at hA6
  have hkl' : (c.kids.set r (z5 : Int)).length ≤ 1000 := by rw [List.length_set]; exact hkl
  have hsz := hd.size
  refine ⟨rfl, O5, f5, live5, {c with kids := c.kids.set r (z5 : Int)}, _, _, hA6, hC6, ((Fr.of_new (S := Wr O b v (.slice (some ⟨g, 0, none⟩) c.kids.length c1)) hd).then_ hf5 (fun j hj => .inl (.inl hj))).then_ hf6 (fun j hj => .inl (.inr (.inr (.inr (by rw [hj]; rfl))))), fun j hj => (hO5 j hj).imp id (fun q => by omega), hll5, hK5.mono (fun j h => Nat.lt_of_lt_of_le h (Nat.le_add_right _ _)), ⟨z5, h05, rfl, by rw [HZ5.out, HFZ.out], fun x hx => ?_⟩, rfl, hkl', hcl, fun y hy => ?_⟩
  · have hx2 := oth_mem HRL.out HZ.out hz0 hx
    have hpos : 0 < kc (oth c.kids r) x := List.count_pos_iff.2 hx
    refine (HS.out x hx2).trans ((hK5 x (kids_pos hkn hx2) (Nat.lt_of_lt_of_le hpos (Nat.le_add_left _ _))).2 ?_)
    cases hq : op x with
    | false => rfl
    | true =>
      have h1 := HOPK.out x hq
      have h2 : 0 < kc c.kids x := List.count_pos_iff.2 hx2
      omega
  · rcases List.mem_or_eq_of_mem_set hy with h | h
    · exact hkn y h
    · rw [h]; exact Int.natCast_nonneg _
end Go.Proofs.Ytnipbfhfaefieaa.Pv
/-! pvec: a value in a trunk of one level is set. -/
namespace Go.Proofs.Ytnipbfhfaefieaa.Pv
open Go.RowKit Go Go.Proofs.YtnipbfhfaefieaaW.PrintWords Go.Proofs.YtnipbfhfaefieaaW.PrintMore Go.Proofs.YtnipbfhfaefieaaW.PrintLast Go.Proofs.Ytnipbfhfaefieaa.Bts Go.Proofs.Ytnipbfhfaefieaa.Fra Go.Proofs.Ytnipbfhfaefieaa.ArnP Go.Proofs.Ytnipbfhfaefieaa.Arn Go.Proofs.Ytnipbfhfaefieaa.Ao
theorem bnd_one {rest : Nat → Nat} {A B : Nat} (k : Nat) (hb : ∀ x, rest x ≤ A) (h : A + 1 ≤ B) (x : Nat) : rest x + one k x ≤ B :=
  Nat.le_trans (Nat.add_le_add (hb x) (show one k x ≤ 1 by unfold one; split <;> omega)) h
theorem hro_one {rest : Nat → Nat} {op : Nat → Bool} (k : Nat) (hro : ∀ z, op z = true → 1 ≤ rest z) : ∀ z, (fun x => x == k || op x) z = true → 1 ≤ rest z + one k z := by
  intro z hz
  by_cases e : z = k
  · subst e; have : one z z = 1 := if_pos rfl; omega
  · have hz2 : (z == k || op z) = true := hz
    rw [show (z == k) = false by simpa using e, Bool.false_or] at hz2
    have := hro z hz2
    omega
theorem set_mem {l : List Int} {i z : Nat} (hi : i < l.length) (h0 : 0 < z) {x : Nat} (hx : x ∈ kidsOf (oth l i) ∨ x = z) : x ∈ kidsOf (l.set i (z : Int)) := by
  have h := congrFun (kc_set l i z hi h0) x
  have h2 : 0 < kc (l.set i (z : Int)) x := by
    rcases hx with hx | rfl
    · have h1 : 0 < kc (oth l i) x := List.count_pos_iff.2 hx
      omega
    · have h1 : one x x = 1 := if_pos rfl
      omega
  exact List.count_pos_iff.1 h2
set_option maxHeartbeats 2000000 in
set_option maxRecDepth 100000 in
theorem set1_calls {O : Nat → Prop} {a : Nat} {f : Nat → Cell} {live most : Int} {rest : Nat → Nat} {op : Nat → Bool} (o : Int) (k i r z : Nat) (q n : Int) (s : ByteArray) (w : World) (h : AO w O a f live most (fun z => rest z + one k z) op) (hk : 0 < k) (ho : op k = false) (hb : ∀ x, rest x ≤ 60000000000) (hro : ∀ z, op z = true → 1 ≤ rest z) (hil : i ≤ 1023) (hr : i / 32 = r) (hi : r < (f k).kids.length) (hz : (f k).kids[r]? = some (z : Int)) (hz0 : 0 < z) (hv : i % 32 < (f z).vals.length) (hvl : (f z).vals.length ≤ 1000) (hlm : live + 1 < most) :
    Calls Try.prog 83 #[workV a o, .int .i64 k, .int .i64 1, .int .i64 i, valV q n s] w fun e w' => ∃ (k' : Nat) (O' : Nat → Prop) (f' : Nat → Cell) (live' : Int) (z' : Nat), e = .returned (.int .i64 k') ∧ AO w' O' a f' live' most (fun z => rest z + one k' z) op ∧ live' ≤ live + 2 ∧ 0 < z' ∧ f' k' = {f k with kids := (f k).kids.set r (z' : Int), ow := o, r := 1} ∧ f' z' = {f z with vals := (f z).vals.set (i % 32) (q, n, s), ow := o, r := (f' z').r} ∧ (∀ x ∈ kidsOf (oth (f k).kids r), Same f f' x) ∧ 0 < k' ∧ op k' = false ∧ KeepR rest op f f' ∧ (∀ j, O' j → O j ∨ w.heap.size ≤ j) ∧ Fr O w w' := by
  have hlive : 0 < (f k).r := h.ext_lv hk (by show 0 < rest k + one k k; unfold one; rw [if_pos rfl]; omega)
  have hkl := (AO.kl h hlive).1
  have hcl := (AO.kl h hlive).2
  have hkn := AO.kn h ⟨hk, hlive, ho⟩
  have hlt := h.lt
  have hbx := below_alloc (below_alloc (below_alloc (below_alloc (Below.refl w.heap.size w) (.cells #[.pointer (some ⟨a, 0, none⟩), .int .u32 o] 133)) (.cells #[.int .i64 1] 3)) (.cells #[.int .i64 (i : Int)] 3)) (.cells #[.int .u8 q, .int .i64 n, .string s] 66)
  have hX : ValB _ (w.heap.size + 3) q n s := new3 w (.cells #[.pointer (some ⟨a, 0, none⟩), .int .u32 o] 133) (.cells #[.int .i64 1] 3) (.cells #[.int .i64 (i : Int)] 3) (.cells #[.int .u8 q, .int .i64 n, .string s] 66)
  have hI : IntB _ (w.heap.size + 2) (i : Int) := blk_alloc (new2 w (.cells #[.pointer (some ⟨a, 0, none⟩), .int .u32 o] 133) (.cells #[.int .i64 1] 3) (.cells #[.int .i64 (i : Int)] 3)) (.cells #[.int .u8 q, .int .i64 n, .string s] 66)
  have hL : IntB _ (w.heap.size + 1) 1 := blk_alloc (blk_alloc (new1 w (.cells #[.pointer (some ⟨a, 0, none⟩), .int .u32 o] 133) (.cells #[.int .i64 1] 3)) (.cells #[.int .i64 (i : Int)] 3)) (.cells #[.int .u8 q, .int .i64 n, .string s] 66)
  have hWk : WorkB _ w.heap.size a o := blk_alloc (blk_alloc (blk_alloc (blk_new w (.cells #[.pointer (some ⟨a, 0, none⟩), .int .u32 o] 133)) (.cells #[.int .i64 1] 3)) (.cells #[.int .i64 (i : Int)] 3)) (.cells #[.int .u8 q, .int .i64 n, .string s] 66)
  have hA := h.below hbx
  obtain ⟨W, hW⟩ : ∃ W, ((((w.alloc (.cells #[.pointer (some ⟨a, 0, none⟩), .int .u32 o] 133)).alloc (.cells #[.int .i64 1] 3)).alloc (.cells #[.int .i64 (i : Int)] 3)).alloc (.cells #[.int .u8 q, .int .i64 n, .string s] 66)) = W := ⟨_, rfl⟩
  have hnB : ∀ b, w.heap.size ≤ b → ¬ O b := fun b hb e => by have := hlt b e; omega
  rw [hW] at hX hI hL hWk
  have hA' : AO W O a f live most (fun z => rest z + zf z + one k z) op := by rw [← hW]; exact hA
  have hbW : Below w.heap.size w W := by rw [← hW]; exact hbx
  have hO4 : ¬ O (w.heap.size + 1) ∧ ¬ O (w.heap.size + 3) ∧ ¬ O (w.heap.size + 2) ∧ ¬ O w.heap.size := ⟨hnB _ (by omega), hnB _ (by omega), hnB _ (by omega), hnB _ (by omega)⟩
  have hch := change_set (need := 1) o k (.pointer (some ⟨w.heap.size + 1, 0, none⟩)) (.pointer (some ⟨w.heap.size + 3, 0, none⟩)) (.pointer (some ⟨w.heap.size + 2, 0, none⟩)) (.pointer (some ⟨w.heap.size, 0, none⟩)) W W hA' hk ho (fun x => Nat.le_trans (hb x) (by decide)) hro (Fr.refl O W) (fun j hj => .inl hj)
    (cb_set1 o i r z W hL hX hI hWk hO4 hil hr hi hz hz0 hv hvl hcl hkl hkn (fun x => Nat.le_trans (hb x) (by decide)) hro)
    (cb_set1 o i r z W hL hX hI hWk hO4 hil hr hi hz hz0 hv hvl hcl hkl hkn (bnd_one k hb (by decide)) (hro_one k hro)) (by omega)
  rw [← hW] at hch
  have HC := Lib.hid hch
  have HB := Lib.hid hbW
  have HW := Lib.hid hW
  have HI := Lib.hid hi
  have HZ := Lib.hid hz
  clear hch hA hA' hbW hbx hX hI hL hWk h hW hi hz
  go_enter Try.func83, Try.ntmps83
  go_wp2_with (go_at_call 78; go_loud (refine HC.out.mono ?_; rintro e w5 ⟨k', O5, f5, live5, c5, rfl, hA5, hll5, hR5, hS5, hk5, ho5, hK5, hO5, hF5⟩; have HR5 := Lib.hid hR5; clear hR5))
  go_ret
  obtain ⟨z', hz', rfl, hfz, hoth⟩ := HR5.out
  have hF6 : Fr O w w5 := by
    have h1 := HB.out
    rw [← HW.out] at h1
    exact (Fr.of_new h1).trans hF5
  have hzS := (hS5 z' (set_mem HI.out hz' (.inr rfl))).at_
  refine ⟨k', O5, _, live5, z', rfl, hA5, by omega, hz', upd_eq _ _ _, by rw [hfz] at hzS; exact hzS, fun x hx => (hoth x hx).trans (hS5 x (set_mem HI.out hz' (.inl hx))), hk5, ho5, hK5, fun j hj => (hO5 j hj).imp id (fun q => ?_), hF6⟩
  have h1 := HB.out.size
  rw [← HW.out] at h1
  omega
end Go.Proofs.Ytnipbfhfaefieaa.Pv
/-! pvec: make and change, for hang 1. Printed by wip/tools/gen_pvd.py. -/
namespace Go.Proofs.Ytnipbfhfaefieaa.Pv
open Go.RowKit Go Go.Proofs.YtnipbfhfaefieaaW.PrintWords Go.Proofs.YtnipbfhfaefieaaW.PrintMore Go.Proofs.YtnipbfhfaefieaaW.PrintLast Go.Proofs.Ytnipbfhfaefieaa.Bts Go.Proofs.Ytnipbfhfaefieaa.Fra Go.Proofs.Ytnipbfhfaefieaa.ArnP Go.Proofs.Ytnipbfhfaefieaa.Arn Go.Proofs.Ytnipbfhfaefieaa.Ao
set_option maxHeartbeats 4000000 in
set_option maxRecDepth 100000 in
theorem make_hang {O O0 : Nat → Prop} {a : Nat} {f f0 : Nat → Cell} {live most need : Int} {rest ex : Nat → Nat} {op : Nat → Bool} {c : Cell} {R : (Nat → Cell) → Cell → Prop} (o : Int) (v k p1 p2 p3 p4 : Value) (lo : Nat) (w0 w : World) (h : AO w O a f live most (fun z => rest z + ex z + kc c.kids z) op) (hv : VR w lo v c.vals) (hk : KR w lo k c.kids) (hvk : ∀ j, v.ownBlock = some j → k.ownBlock ≠ some j) (hno : ∀ j, v.ownBlock = some j ∨ k.ownBlock = some j → ¬ O j)
    (hcb : Cb 103 (fun p => #[p, p1, p2, p3, p4]) w0 O0 a most rest ex op f0 need c R) (hF : Fr O0 w0 w) (hO : ∀ j, O j → O0 j ∨ w0.heap.size ≤ j) (hlo : w0.heap.size ≤ lo) (hlo2 : lo ≤ w.heap.size) (hK : KeepR (fun x => rest x + ex x) op f0 f) (hS : ∀ x ∈ kidsOf c.kids, Same f0 f x) (hlm : live + need < most) (hro : ∀ z, op z = true → 1 ≤ rest z) :
    Calls Try.prog 82 #[workV a o, cellV c.ow c.a c.b v k, .func (.func 103) #[] #[p1, p2, p3, p4]] w fun e w' => ∃ (i : Nat) (O' : Nat → Prop) (f' : Nat → Cell) (live' : Int) (c' : Cell), e = .returned (.int .i64 i) ∧ AO w' O' a (upd f' i {c' with ow := o, r := 1}) live' most (fun z => rest z + one i z) op ∧ live' ≤ live + need + 1 ∧ R f' c' ∧ (∀ x ∈ kidsOf c'.kids, Same f' (upd f' i {c' with ow := o, r := 1}) x) ∧ 0 < i ∧ op i = false ∧ KeepR rest op f (upd f' i {c' with ow := o, r := 1}) ∧ (∀ j, O' j → O j ∨ w.heap.size ≤ j) ∧ Fr (fun j => O j ∨ v.ownBlock = some j ∨ k.ownBlock = some j) w w' := by
  obtain ⟨A1, c1, e1⟩ := Kd.R_slice hv
  obtain ⟨A2, c2, e2⟩ := Kd.R_slice hk
  subst e1 e2
  have hb : Below w.heap.size w ((w.alloc (.cells #[.pointer (some ⟨a, 0, none⟩), .int .u32 o] 133)).alloc (.cells #[.int .u32 c.ow, .int .u32 c.a, .int .u32 c.b, .slice A1 c.vals.length c1, .slice A2 c.kids.length c2] 43)) := below_alloc (below_alloc (Below.refl _ _) _) _
  have hbw := blk_alloc (blk_new w (.cells #[.pointer (some ⟨a, 0, none⟩), .int .u32 o] 133)) (.cells #[.int .u32 c.ow, .int .u32 c.a, .int .u32 c.b, .slice A1 c.vals.length c1, .slice A2 c.kids.length c2] 43)
  have hbc := new1 w (.cells #[.pointer (some ⟨a, 0, none⟩), .int .u32 o] 133) (.cells #[.int .u32 c.ow, .int .u32 c.a, .int .u32 c.b, .slice A1 c.vals.length c1, .slice A2 c.kids.length c2] 43)
  have hlt := h.lt
  have hvl : ∀ j, (Value.slice A1 c.vals.length c1).ownBlock = some j → j < w.heap.size := fun j hj => by obtain ⟨q, ho⟩ := Kd.R_own hv; exact own_lt ho j hj
  have hkl : ∀ j, (Value.slice A2 c.kids.length c2).ownBlock = some j → j < w.heap.size := fun j hj => by obtain ⟨q, ho⟩ := Kd.R_own hk; exact own_lt ho j hj
  have hcbo : CBO _ O lo (w.heap.size + 1) (.slice A1 c.vals.length c1) (.slice A2 c.kids.length c2) c := ⟨hbc, Kd.R_below hv hb, Kd.R_below hk hb, fun j hj => ⟨hvk j hj, by have := hvl j hj; omega, hno j (.inl hj)⟩, fun j hj => ⟨by have := hkl j hj; omega, hno j (.inr hj)⟩, fun e => by have := hlt _ e; omega⟩
  have hnf : ∀ w : World, (binOp .neq 138 (.func (.func 103) #[] #[p1, p2, p3, p4]) .nilFunc).run Try.prog w = .ok (.bool true) w := fun _ => by kernel_rfl
  have HB := Lib.hid hb
  have HBW := Lib.hid hbw
  have HCB := Lib.hid hcbo
  have HA := Lib.hid (h.below hb)
  have HC := Lib.hid hcb
  have HF := Lib.hid (hF.more hb)
  have HO := Lib.hid hO
  have HK := Lib.hid hK
  have HS := Lib.hid hS
  have HVL := Lib.hid hvl
  have HKL := Lib.hid hkl
  have HLT := Lib.hid hlt
  have HSZ := Lib.hid (show w0.heap.size ≤ w.heap.size from hF.size)
  clear h hcb hbc hbw hcbo hb hF hO hK hS hv hk hvl hkl hlt
  go_enter Try.func82, Try.ntmps82
  go_wp2_with (first
    | (go_at_call 21; go_loud (refine (make_ao o _ _ _ _ c3.vals c3.kids _ HA4.out HV4.out HK4.out (fun j hj => hj) HZ3.out.2.2 (by have := HLL3.out; omega) HZ3.out.1 HZ3.out.2.1 hro).mono ?_; rintro e w5 ⟨i, O5, rfl, hA5, h0, hr, hoi, hK5, hO5, hF5⟩; have HA5 := Lib.hid hA5; have HK5 := Lib.hid hK5; have HO5 := Lib.hid hO5; have HF5 := Lib.hid hF5; clear hA5 hK5 hO5 hF5))
    | (go_at_call 103; go_loud (refine (HC.out _ O f live lo (w.heap.size + 1) _ _ HA.out HF.out HO.out hlo (by simp; omega) (by have := HSZ.out; omega) HCB.out HK.out HS.out (by omega)).mono ?_; rintro e w3 ⟨rfl, O3, f3, live3, c3, v3, k3, hA3, hC3, hF3, hO3, hll3, hK3, hR3, how3, hz1, hz2, hz3⟩; have hbw3 := hF3.blk HBW.out (fun e => by rcases e with e | e | e | e; (have := HLT.out _ e; omega); omega; (have := HVL.out _ e; omega); (have := HKL.out _ e; omega)); obtain ⟨A3, d3, e3⟩ := Kd.R_slice hC3.vr; subst e3; obtain ⟨A4, d4, e4⟩ := Kd.R_slice hC3.kr; subst e4; have r0 := blk_cell hC3.blk 0; have r1 := blk_cell hC3.blk 1; have r2 := blk_cell hC3.blk 2; have r3 := blk_cell hC3.blk 3; have r4 := blk_cell hC3.blk 4; have z0 := blk_frozen hC3.blk 0; have q0 := blk_cell hbw3 0; have q1 := blk_cell hbw3 1; have hF4 : Fr (fun j => j = w.heap.size + 1) w3 (w3.setCell ⟨w.heap.size + 1, 0, none⟩ (.int .u32 o)) := Fr.set _ 0 _; have HF4 := Lib.hid hF4; have HA4 := Lib.hid (hA3.move hF4 (fun j hj e => hC3.no (e ▸ hj))); have HV4 := Lib.hid ((row_ne hC3.rows.1 (fun j hj => (hC3.vk j hj).2.1)).fr kVal_K hF4 (fun j hj => hj.2) |>.mono (fun j hj => hj.1)); have HK4 := Lib.hid ((row_ne hC3.rows.2 (fun j hj => (hC3.kk j hj).1)).fr kInt_K hF4 (fun j hj => hj.2) |>.mono (fun j hj => hj.1)); have HZ3 := Lib.hid (show c3.kids.length ≤ 1000 ∧ c3.vals.length ≤ 1000000000 ∧ ∀ z ∈ c3.kids, 0 ≤ z from ⟨hz1, hz2, hz3⟩); have HLL3 := Lib.hid hll3; have HK3 := Lib.hid hK3; have HR3 := Lib.hid hR3; have HF3 := Lib.hid hF3; have HO3 := Lib.hid hO3; clear hA3 hC3 hF3 hO3 hll3 hK3 hR3 hz1 hz2 hz3 hbw3 hF4)))
  go_ret
  have hll := HLL3.out
  have e5 : (⟨o, c3.a, c3.b, c3.vals, c3.kids, 1⟩ : Cell) = {c3 with ow := o, r := 1} := rfl
  refine ⟨i, O5, f3, live3 + 1, c3, rfl, HA5.out, by omega, HR3.out, fun x hx => ?_, h0, hoi, HK3.out.trans HK5.out, fun j hj => ?_, ?_⟩
  · have hA4 := HA4.out
    have hp : 0 < x := by obtain ⟨z, hz1, hz2, rfl⟩ := kidsOf_mem hx; have := HZ3.out.2.2 z hz1; omega
    have hc : 0 < kc c3.kids x := List.count_pos_iff.2 hx
    have hlx := hA4.ext_lv hp (by show 0 < rest x + kc c3.kids x; omega)
    have hox : op x = false := by
      cases hq : op x
      · rfl
      · have := op_kc hA4 hro x hq; omega
    refine same_step hA4 (fun _ => True) (fun y hy _ => ?_) (fun _ _ _ _ _ => trivial) x ⟨hp, hlx, hox⟩ trivial
    rw [upd_ne _ (fun e => by have := hy.2.1; rw [e] at this; omega)]
  · rcases HO5.out j hj with q | q
    · rcases HO3.out j q with q | q
      · exact .inl q
      · exact .inr (Nat.le_trans HB.out.size q)
    · have h1 := HF3.out.size
      have h2 := HB.out.size
      have h3 := HF4.out.size
      exact .inr (by omega)
  · have h2 := HB.out.size
    have hF34 : Fr (Wr O (w.heap.size + 1) (.slice A1 c.vals.length c1) (.slice A2 c.kids.length c2)) _ _ := HF3.out.then_ HF4.out (fun j hj => .inl (.inr (.inl hj)))
    refine ((Fr.of_new (S := fun j => O j ∨ (Value.slice A1 c.vals.length c1).ownBlock = some j ∨ (Value.slice A2 c.kids.length c2).ownBlock = some j) HB.out).then_ hF34 (fun j hj => ?_)).then_ HF5.out (fun j hj => ?_)
    · rcases hj with e | e | e | e
      · exact .inl (.inl e)
      · exact .inr (by omega)
      · exact .inl (.inr (.inl e))
      · exact .inl (.inr (.inr e))
    · rcases HO3.out j hj with q | q
      · exact .inl (.inl q)
      · exact .inr (by omega)
set_option maxHeartbeats 2000000 in
set_option maxRecDepth 100000 in
theorem change_hang {O O0 : Nat → Prop} {a : Nat} {f : Nat → Cell} {live most need : Int} {rest ex : Nat → Nat} {op : Nat → Bool} {R : (Nat → Cell) → Cell → Prop} (o : Int) (i : Nat) (p1 p2 p3 p4 : Value) (w0 w : World) (h : AO w O a f live most (fun z => rest z + ex z + one i z) op) (hi : 0 < i) (ho : op i = false) (hb : ∀ x, rest x + ex x ≤ 80000000000) (hro : ∀ z, op z = true → 1 ≤ rest z)
    (hF : Fr O0 w0 w) (hO : ∀ j, O j → O0 j ∨ w0.heap.size ≤ j) (hc1 : Cb 103 (fun p => #[p, p1, p2, p3, p4]) w0 O0 a most rest ex op f need (f i) R) (hc2 : Cb 103 (fun p => #[p, p1, p2, p3, p4]) w0 O0 a most (fun z => rest z + one i z) ex (fun x => x == i || op x) f need (f i) R) (hlm : live + need < most) :
    Calls Try.prog 78 #[workV a o, .int .i64 i, .func (.func 103) #[] #[p1, p2, p3, p4]] w fun e w' => ∃ (i' : Nat) (O' : Nat → Prop) (f' : Nat → Cell) (live' : Int) (c' : Cell), e = .returned (.int .i64 i') ∧ AO w' O' a (upd f' i' {c' with ow := o, r := 1}) live' most (fun z => rest z + one i' z) op ∧ live' ≤ live + need + 1 ∧ R f' c' ∧ (∀ x ∈ kidsOf c'.kids, Same f' (upd f' i' {c' with ow := o, r := 1}) x) ∧ 0 < i' ∧ op i' = false ∧ KeepR rest op f (upd f' i' {c' with ow := o, r := 1}) ∧ (∀ j, O' j → O j ∨ w.heap.size ≤ j) ∧ Fr O w w' := by
  have hone : one i i = 1 := if_pos rfl
  have hlive : 0 < (f i).r := h.ext_lv hi (by show 0 < rest i + ex i + one i i; omega)
  have hLv : Lv f op i := ⟨hi, hlive, ho⟩
  have hkn := AO.kn h hLv
  have hkl := AO.kl h hlive
  have H := Lib.hid h
  have HF := Lib.hid hF
  have HO := Lib.hid hO
  have HC1 := Lib.hid hc1
  have HC2 := Lib.hid hc2
  have HLT := Lib.hid h.lt
  have HBB := Lib.hid hb
  have HRO := Lib.hid hro
  have HKN := Lib.hid hkn
  have HKL := Lib.hid hkl
  have HSZ := Lib.hid (show w0.heap.size ≤ w.heap.size from hF.size)
  have hnB : ∀ b, w.heap.size ≤ b → ¬ O b := fun b hb e => by have := HLT.out b e; omega
  have HNB := Lib.hid hnB
  clear h hc1 hc2 hkn hkl hF hO hb hro hnB
  by_cases hin : o ≠ 0 ∧ (f i).ow = o ∧ (f i).r = 1
  · obtain ⟨g0, g1, g2⟩ := hin
    have b0 : (o != 0) = true := by simpa using g0
    have b1 : ((f i).ow == o) = true := by simpa using g1
    have b2 : ((f i).r == 1) = true := by simpa using g2
    have hri : rest i = 0 := by
      have h1 : ((rest i + ex i + one i i : Nat) : Int) ≤ (f i).r := H.out.ext_r hi
      omega
    have HG := Lib.hid g1
    have HG2 := Lib.hid g2
    have HRI := Lib.hid hri
    clear g1 g2 hri
    go_enter Try.func78, Try.ntmps78
    go_wp2_with (first
      | (go_at_call 28; go_loud (refine HE.out.mono ?_; rintro e w5 ⟨rfl, O5, hA5, hO5, hF5⟩; have HA5 := Lib.hid hA5; have HO5 := Lib.hid hO5; have HF5 := Lib.hid hF5; clear hA5 hO5 hF5))
      | (go_at_call 103; go_loud (refine (HC2.out _ O f live (w.heap.size + 1) w1.heap.size _ _ HAO.out HF2.out HO.out (by have := HSZ.out; omega) HS2.out.1 (by have := HSZ.out; have := HS2.out.2; omega) HCB2.out (KeepR.refl _ _ _) (fun x _ => Same.refl _ _) (by omega)).mono ?_; rintro e w3 ⟨rfl, O3, f3, live3, c3, v3, k3, hA3, hC3, hF3, hO3, hll3, hK3, hR3, how3, hz1, hz2, hz3⟩; have hbw3 := hF3.blk HBW2.out (HNW.out); have q0 := blk_cell hbw3 0; have q1 := blk_cell hbw3 1; obtain ⟨A3, d3, e3⟩ := Kd.R_slice hC3.vr; subst e3; obtain ⟨A4, d4, e4⟩ := Kd.R_slice hC3.kr; subst e4; have r0 := blk_cell hC3.blk 0; have r1 := blk_cell hC3.blk 1; have r2 := blk_cell hC3.blk 2; have r3 := blk_cell hC3.blk 3; have r4 := blk_cell hC3.blk 4; have hf3i : f3 i = f i := (hK3 i hi (by show 0 < rest i + one i i; omega)).1 (by simp); have HE := Lib.hid (edit_in hA3 hC3 hf3i g0 hi HG2.out HG.out ho hone (fun x => Nat.le_trans (Nat.le_add_right _ _) (HBB.out x)) HRO.out hz1 hz2 hz3); have HA3 := Lib.hid hA3; have HZ3 := Lib.hid (show c3.kids.length ≤ 1000 ∧ c3.vals.length ≤ 1000000000 ∧ ∀ z ∈ c3.kids, 0 ≤ z from ⟨hz1, hz2, hz3⟩); have HLL3 := Lib.hid hll3; have HK3 := Lib.hid hK3; have HR3 := Lib.hid hR3; have HF3 := Lib.hid hF3; have HO3 := Lib.hid hO3; clear how3 hA3 hC3 hF3 hO3 hll3 hK3 hR3 hz1 hz2 hz3 hbw3 hf3i))
      | (go_at_call 26; go_loud (refine (refs_ao i _ (H.out.below HB2.out) hi hlive).mono ?_; rintro e w2 ⟨rfl, hB2⟩; have hb3 := below_step HB2.out hB2; have hbw := blk_below HBW1.out hB2; have q0 := blk_cell hbw 0; have q1 := blk_cell hbw 1; have hcb2 := HCB1.out.below hB2; have HBW2 := Lib.hid hbw; have HCB2 := Lib.hid hcb2; have HF2 := Lib.hid (HF.out.more hb3); have HAO := Lib.hid (open_ex (H.out.below hb3) hi HG2.out ho hone HBB.out); have HS2 := Lib.hid (show w.heap.size + 1 ≤ w2.heap.size ∧ w.heap.size + 1 ≤ w1.heap.size from ⟨by have h1 := hB2.size; simp at h1; have h2 := HS1.out; omega, HS1.out⟩); have HNW := Lib.hid (wr_no HNB.out HVK1.out (show w.heap.size + 1 ≤ w1.heap.size from HS1.out)); have HB3 := Lib.hid hb3; clear hB2 hbw hcb2 hb3))
      | (go_at_call 24; go_loud (refine (get_AO i _ (H.out.below (by repeat (first | (with_reducible first | exact Below.refl _ _ | apply below_alloc | apply pw_below_drewN | apply below_drew1)))) hi hlive).mono ?_; rintro e w1 ⟨v, k, rfl, hv1, hk1, hd1, hB1⟩; obtain ⟨A1, c1, e1⟩ := Kd.R_slice hv1; subst e1; obtain ⟨A2, c2, e2⟩ := Kd.R_slice hk1; subst e2; have HS1 := Lib.hid (show w.heap.size + 1 ≤ w1.heap.size by have := hB1.size; simpa using this); have hb2 := below_alloc (below_step (below_alloc (Below.refl w.heap.size w) (.cells #[.pointer (some ⟨a, 0, none⟩), .int .u32 o] 133)) hB1) (.cells #[.int .u32 (f i).ow, .int .u32 (f i).a, .int .u32 (f i).b, .slice A1 (f i).vals.length c1, .slice A2 (f i).kids.length c2] 43); have HBW1 := Lib.hid (blk_alloc (blk_below (blk_new w (.cells #[.pointer (some ⟨a, 0, none⟩), .int .u32 o] 133)) hB1) (.cells #[.int .u32 (f i).ow, .int .u32 (f i).a, .int .u32 (f i).b, .slice A1 (f i).vals.length c1, .slice A2 (f i).kids.length c2] 43)); have q0 := blk_cell HBW1.out 0; have q1 := blk_cell HBW1.out 1; have HCB1 := Lib.hid (cbo_new hv1 hk1 hd1 HNB.out (by simp) HS1.out); have HVK1 := Lib.hid (rows_from (w := w) hv1 hk1 (by simp)); have HB2 := Lib.hid hb2; clear hv1 hk1 hd1 hB1 hb2)))
    go_ret
    have hll := HLL3.out
    have hA3 := HA3.out
    have hlvE : ∀ j, Lv f3 (fun x => x == i || op x) j → Same f3 (upd f3 i {c3 with ow := o, r := 1}) j := fun j hj => same_step hA3 (fun _ => True) (fun y hy _ => by rw [upd_ne _ (fun (e : y = i) => by have h1 : (y == i || op y) = false := hy.2.2; rw [e] at h1; simp at h1)]) (fun _ _ _ _ _ => trivial) j hj trivial
    have hro' : ∀ z, (fun x => x == i || op x) z = true → 1 ≤ rest z + one i z := by
      intro z hz
      by_cases e : z = i
      · subst e; omega
      · have hz2 : (z == i || op z) = true := hz
        rw [show (z == i) = false by simpa using e, Bool.false_or] at hz2
        have := HRO.out z hz2
        omega
    refine ⟨i, O5, f3, live3, c3, rfl, HA5.out, by omega, HR3.out, fun x hx => ?_, hi, ho, fun j h0 hj => ?_, fun j hj => ?_, ?_⟩
    · have hp : 0 < x := by obtain ⟨z, hz1, hz2, rfl⟩ := kidsOf_mem hx; have := HZ3.out.2.2 z hz1; omega
      have hc : 0 < kc c3.kids x := List.count_pos_iff.2 hx
      refine hlvE x ⟨hp, hA3.ext_lv hp (by show 0 < rest x + one i x + kc c3.kids x; omega), ?_⟩
      cases hq : (fun x => x == i || op x) x
      · rfl
      · have := op_kc (rest := fun z => rest z + one i z) hA3 hro' x hq; omega
    · have hji : j ≠ i := fun e => by have := HRI.out; rw [e] at hj; omega
      have hji' : (j == i) = false := by simpa using hji
      have hk := HK3.out j h0 (by show 0 < rest j + one i j; omega)
      refine ⟨fun hoj => by rw [upd_ne _ hji]; exact hk.1 (by show (j == i || op j) = true; rw [hoj, Bool.or_true]), fun hoj => ?_⟩
      have hoj' : (j == i || op j) = false := by rw [hji', hoj]; rfl
      exact (hk.2 hoj').trans (hlvE j ⟨h0, hA3.ext_lv h0 (by show 0 < rest j + one i j + kc c3.kids j; omega), hoj'⟩)
    · have h1 := HF3.out.size
      have h2 := HB3.out.size
      rcases HO5.out j hj with q | q
      · rcases HO3.out j q with q | q
        · exact .inl q
        · exact .inr (by omega)
      · exact .inr (by omega)
    · have h1 := HS2.out
      have h2 := HB3.out.size
      refine ((Fr.of_new (S := O) HB3.out).then_ HF3.out (fun j hj => ?_)).then_ HF5.out (fun j hj => ?_)
      · rcases hj with e | e | e | e
        · exact .inl e
        · exact .inr (by omega)
        · exact .inr (by have := HVK1.out j (.inl e); omega)
        · exact .inr (by have := HVK1.out j (.inr e); omega)
      · rcases HO3.out j hj with q | q
        · exact .inl q
        · exact .inr (by omega)
  · have hcs : (o != 0) = false ∨ ((o != 0) = true ∧ ((f i).ow == o) = false) ∨ ((o != 0) = true ∧ ((f i).ow == o) = true ∧ ((f i).r == 1) = false) := by
      by_cases g0 : o = 0
      · exact .inl (by simpa using g0)
      · by_cases g1 : (f i).ow = o
        · exact .inr (.inr ⟨by simpa using g0, by simpa using g1, by simpa using fun g2 => hin ⟨g0, g1, g2⟩⟩)
        · exact .inr (.inl ⟨by simpa using g0, by simpa using g1⟩)
    clear hin
    rcases hcs with b0 | ⟨b0, b1⟩ | ⟨b0, b1, b2⟩
    all_goals (
      go_enter Try.func78, Try.ntmps78
      go_wp2_with (first
        | (go_at_call 26; go_loud (refine (refs_ao i _ (H.out.below HB2x.out) hi hlive).mono ?_; rintro e w2 ⟨rfl, hB2⟩; have hb3 := below_step HB2x.out hB2; have hbw := blk_below HBWx.out hB2; have q0 := blk_cell hbw 0; have q1 := blk_cell hbw 1; have HBWx := Lib.hid hbw; have HB2x := Lib.hid hb3; clear hB2 hbw hb3))
        | (go_at_call 24; go_loud (refine (get_AO i _ (H.out.below (by repeat (first | (with_reducible first | exact Below.refl _ _ | apply below_alloc | apply pw_below_drewN | apply below_drew1)))) hi hlive).mono ?_; rintro e w1 ⟨v, k, rfl, hv1, hk1, hd1, hB1⟩; obtain ⟨A1, c1, e1⟩ := Kd.R_slice hv1; subst e1; obtain ⟨A2, c2, e2⟩ := Kd.R_slice hk1; subst e2; have hb2 := below_alloc (below_step (below_alloc (Below.refl w.heap.size w) (.cells #[.pointer (some ⟨a, 0, none⟩), .int .u32 o] 133)) hB1) (.cells #[.int .u32 (f i).ow, .int .u32 (f i).a, .int .u32 (f i).b, .slice A1 (f i).vals.length c1, .slice A2 (f i).kids.length c2] 43); have HBWx := Lib.hid (blk_alloc (blk_below (blk_new w (.cells #[.pointer (some ⟨a, 0, none⟩), .int .u32 o] 133)) hB1) (.cells #[.int .u32 (f i).ow, .int .u32 (f i).a, .int .u32 (f i).b, .slice A1 (f i).vals.length c1, .slice A2 (f i).kids.length c2] 43)); have q0 := blk_cell HBWx.out 0; have q1 := blk_cell HBWx.out 1; have HB2x := Lib.hid hb2; clear hv1 hk1 hd1 hB1 hb2)))
      have hbd := below_drew1 HB2x.out
      have hAd := H.out.below hbd
      have hbwd := blk_drew HBWx.out
      have HBD := Lib.hid hbd
      have HAD := Lib.hid hAd
      have HBWD := Lib.hid hbwd
      have HBB9 := Lib.hid (fun x => Nat.le_trans (HBB.out x) (show 80000000000 ≤ 90000000000 by decide))
      clear hbd hAd hbwd q0 q1
      refine start_ (n := 7) (S := fun w' => w'.cell? ⟨w.heap.size, 0, none⟩ = some (.pointer (some ⟨a, 0, none⟩)) ∧ w'.cell? ⟨w.heap.size, 1, none⟩ = some (.int .u32 o)) (ds := [5]) #[false, false, false, false, false, false, false] (by kernel_rfl) rfl rfl ⟨(blk_cell HBWD.out 0), (blk_cell HBWD.out 1)⟩ (fun hHeld => ?_)
      refine pure_ (i := 2) (N := some 45) (v := ?_) (a' := ?_) #[false, false, true, false, false, false, false] rfl rfl (by kernel_rfl) (fun _ _ _ h => h) (Or.inl ⟨by rfl, ?_⟩) ?_ ?_
      rotate_left
      · intro w'
        go_simp
        with_reducible rfl
      rotate_left
      · simp only [Act.put, List.setIfInBounds_toArray, List.set_cons_zero, List.set_cons_succ, i64_w, i32_w]
        rfl
      refine pure_ (i := 4) (N := some 47) (v := ?_) (a' := ?_) #[false, false, true, false, true, false, false] rfl rfl (by kernel_rfl) (fun _ _ _ h => h) (Or.inl ⟨by rfl, ?_⟩) ?_ ?_
      rotate_left
      · intro w'
        go_simp
        with_reducible rfl
      rotate_left
      · simp only [Act.put, List.setIfInBounds_toArray, List.set_cons_zero, List.set_cons_succ, i64_w, i32_w]
        rfl
      refine take_ (i := 0) (N := some 43) (v := ?_) (a' := ?_) #[true, false, true, false, true, false, false] rfl rfl (by kernel_rfl) (fun _ _ _ h => h) (Or.inl ⟨by rfl, ?_⟩) hHeld ?_ ?_
      rotate_left
      · rintro w' ⟨s0, s1⟩
        go_simp
        with_reducible rfl
      rotate_left
      · simp only [Act.put, List.setIfInBounds_toArray, List.set_cons_zero, List.set_cons_succ, i64_w, i32_w]
        rfl
      refine take_ (i := 1) (N := some 44) (v := ?_) (a' := ?_) #[true, true, true, false, true, false, false] rfl rfl (by kernel_rfl) (fun _ _ _ h => h) (Or.inl ⟨by rfl, ?_⟩) hHeld ?_ ?_
      rotate_left
      · rintro w' ⟨s0, s1⟩
        go_simp
        with_reducible rfl
      rotate_left
      · simp only [Act.put, List.setIfInBounds_toArray, List.set_cons_zero, List.set_cons_succ, i64_w, i32_w]
        rfl
      refine one_ (i := 3) (N := some 46) #[true, true, true, true, true, false, false] rfl rfl (by kernel_rfl) (by decide) (fun K hK => ?_)
      refine goes_ Try.func87 (by kernel_rfl) rfl #[workV a o, .int .i64 i] (by rfl) rfl rfl (by simp only [List.map_toArray, List.map_cons, List.map_nil]; rfl) ?_
      with_reducible refine (open_calls o i _ HAD.out hi ho HBB9.out).mono ?_
      rintro e w3 ⟨v3, k3, O3, f3, live3, rfl, hv3, hk3, hd3, hn3, hA3, hK3, hS3, hll3, hO3, hF3⟩
      refine ⟨_, rfl, ?_⟩
      have hbw3 := hF3.blk HBWD.out (HNB.out _ (Nat.le_refl _))
      refine hK.out _ _ ⟨(blk_cell hbw3 0), (blk_cell hbw3 1)⟩ (fun hHeld => ?_)
      clear hK K
      refine norm_ (a' := ?_) ?_ ?_
      rotate_left
      · show Act.put _ (some 46) _ = _
        simp only [Act.put, List.setIfInBounds_toArray, List.set_cons_zero, List.set_cons_succ, i64_w, i32_w]
        rfl
      refine last_ (i := 5) (N := some 48) #[true, true, true, true, true, true, false] rfl rfl (by kernel_rfl) (by decide) (fun K hK => ?_)
      refine goes_ Try.func82 (by kernel_rfl) rfl #[workV a o, cellV (f i).ow (f i).a (f i).b v3 k3, .func (.func 103) #[] #[p1, p2, p3, p4]] (by rfl) rfl rfl (by simp only [List.map_toArray, List.map_cons, List.map_nil]; rfl) ?_
      with_reducible refine (make_hang o v3 k3 p1 p2 p3 p4 _ w0 _ hA3 hv3 hk3 hd3 hn3 HC1.out ((HF.out.more HBD.out).then_ hF3 (fun j hj => HO.out j hj)) (fun j hj => (hO3 j hj).elim (HO.out j) (fun q => .inr (Nat.le_trans HSZ.out (Nat.le_trans HBD.out.size q)))) (Nat.le_trans HSZ.out HBD.out.size) hF3.size hK3 hS3 (by omega) HRO.out).mono ?_
      rintro e w4 ⟨i4, O4, f4, live4, c4, rfl, hA4, hll4, hR4, hk4, hi4, ho4, hK4, hO4, hF4⟩
      refine ⟨_, rfl, ?_⟩
      refine hK.out _ _ ?_
      clear hK K
      refine norm_ (a' := ?_) ?_ ?_
      rotate_left
      · show Act.put _ (some 48) _ = _
        simp only [Act.put, List.setIfInBounds_toArray, List.set_cons_zero, List.set_cons_succ, i64_w, i32_w]
        rfl
      refine pure_ (i := 6) (N := some 6) (v := ?_) (a' := ?_) #[true, true, true, true, true, true, true] rfl rfl (by kernel_rfl) (fun _ _ _ h => h) (Or.inl ⟨by rfl, ?_⟩) ?_ ?_
      rotate_left
      · intro w'
        go_simp
        with_reducible rfl
      rotate_left
      · simp only [Act.put, List.setIfInBounds_toArray, List.set_cons_zero, List.set_cons_succ, i64_w, i32_w]
        rfl
      refine done_ (by kernel_rfl) ?_

      have HA4 := Lib.hid hA4
      have HR4 := Lib.hid hR4
      have HKS4 := Lib.hid hk4
      have HK4 := Lib.hid ((hK3.mono (rest' := rest) (fun j hj => by show 0 < rest j + ex j; omega)).trans hK4)
      have HLL4 := Lib.hid (show live4 ≤ live + need + 1 by omega)
      have HO4 := Lib.hid (show ∀ j, O4 j → O j ∨ w.heap.size ≤ j from fun j hj => by
        have h1 := HBD.out.size
        have h2 := hF3.size
        rcases hO4 j hj with q | q
        · rcases hO3 j q with q | q
          · exact .inl q
          · exact .inr (by omega)
        · exact .inr (by omega))
      have HF4 := Lib.hid (show Fr O w w4 from ((Fr.of_new (S := O) HBD.out).trans hF3).then_ hF4 (fun j hj => by
        have h1 := HBD.out.size
        rcases hj with q | q | q
        · rcases hO3 j q with q | q
          · exact .inl q
          · exact .inr (by omega)
        · obtain ⟨q1, o1⟩ := Kd.R_own hv3
          have := own_base o1 j q
          exact .inr (by omega)
        · obtain ⟨q1, o1⟩ := Kd.R_own hk3
          have := own_base o1 j q
          exact .inr (by omega)))
      clear hHeld hA4 hR4 hk4 hK3 hK4 hll3 hll4 hO3 hO4 hF3 hF4 hA3 hv3 hk3 hd3 hn3 hS3 hbw3
      go_wp2
      go_ret
      exact ⟨i4, O4, f4, live4, c4, rfl, HA4.out, HLL4.out, HR4.out, HKS4.out, hi4, ho4, HK4.out, HO4.out, HF4.out⟩)
end Go.Proofs.Ytnipbfhfaefieaa.Pv
/-! pvec: a path of no levels; a cell's kids become others. -/
namespace Go.Proofs.Ytnipbfhfaefieaa.Pv
open Go.RowKit Go Go.Proofs.YtnipbfhfaefieaaW.PrintWords Go.Proofs.YtnipbfhfaefieaaW.PrintMore Go.Proofs.YtnipbfhfaefieaaW.PrintLast Go.Proofs.Ytnipbfhfaefieaa.Bts Go.Proofs.Ytnipbfhfaefieaa.Fra Go.Proofs.Ytnipbfhfaefieaa.ArnP Go.Proofs.Ytnipbfhfaefieaa.Arn Go.Proofs.Ytnipbfhfaefieaa.Ao
theorem path0_calls (a : Nat) (o leaf : Int) (w : World) : Calls Try.prog 96 #[workV a o, .int .i64 0, .int .i64 leaf] w fun e w' => e = .returned (.int .i64 leaf) ∧ Below w.heap.size w w' := by
  go_enter Try.func96, Try.ntmps96
  go_wp2
  go_loopw [2, 8] (fun x y wr => x = .int .i64 leaf ∧ y = .int .i64 0 ∧ wr = w.alloc (.cells #[.pointer (some ⟨a, 0, none⟩), .int .u32 o] 133)) (fun _ _ _ => 0)
  case atStart => exact ⟨rfl, rfl, rfl⟩
  case round =>
    obtain ⟨rfl, rfl, rfl⟩ := hrel
    go_wp2
    go_ret
    exact ⟨rfl, below_alloc (Below.refl _ _) _⟩
/-- A cell's kids become others, in its own row or a new one. -/
theorem CBO.kidz {w w1 : World} {O : Nat → Prop} {lo b : Nat} {v k k1 : Value} {c : Cell} {kids : List Int} (h : CBO w O lo b v k c) (hlt : ∀ j, O j → j < w.heap.size) (hf : Fr (fun j => k.ownBlock = some j) w w1) (hr : KR w1 lo k1 kids) (hv : ∀ j, k1.ownBlock = some j → k.ownBlock = some j ∨ w.heap.size ≤ j) :
    CBO (w1.setCell ⟨b, 4, none⟩ k1) O lo b v k1 {c with kids := kids} ∧ Fr (Wr O b v k) w (w1.setCell ⟨b, 4, none⟩ k1) := by
  have hbl := blk_lt h.blk
  have hvl : ∀ j, v.ownBlock = some j → j < w.heap.size := fun j hj => by obtain ⟨q, ho⟩ := Kd.R_own h.vr; exact own_lt ho j hj
  have hb1 := hf.blk h.blk (fun e => (h.kk b e).1 rfl)
  have hs : Fr (fun j => j = b) w1 (w1.setCell ⟨b, 4, none⟩ k1) := Fr.set b 4 k1
  have hvb : ∀ j, k1.ownBlock = some j → j ≠ b := fun j hj e => by
    rcases hv j hj with q | q
    · exact (h.kk j q).1 e
    · omega
  refine ⟨⟨(blk_put hb1 4 k1 rfl).trans rfl, ?_, ?_, fun j hj => ⟨fun e => ?_, (h.vk j hj).2⟩, fun j hj => ⟨hvb j hj, fun e => ?_⟩, h.no⟩, (hf.mono (fun j hj => .inl (.inr (.inr (.inr hj))))).then_ hs (fun j hj => .inl (.inr (.inl hj)))⟩
  · exact Kd.R_mono (Kd.R_kept (Kd.R_mono (Kd.R_kept (Kd.R_tight2 (d := kVal) rfl h.vr) hf.kept (fun j hj e => (h.vk j hj.1.symm).1 e)) (fun j hj => hj)) hs.kept (fun j hj e => (h.vk j hj.1.symm).2.1 e)) (fun j hj => hj.2)
  · exact Kd.R_mono (Kd.R_kept (Kd.R_tight2 (d := Kd.int .i64) rfl hr) hs.kept (fun j hj e => hvb j hj.1.symm e)) (fun j hj => hj.2)
  · rcases hv j e with q | q
    · exact (h.vk j hj).1 q
    · have := hvl j hj; omega
  · rcases hv j hj with q | q
    · exact (h.kk j q).2 e
    · have := hlt j e; omega
theorem kc_snoc (l : List Int) (z : Nat) (hz : 0 < z) : kc (l ++ [(z : Int)]) = fun x => one z x + kc l x := by
  funext x
  rw [kc_app, kc_cons z _ hz]
  show kc l x + (0 + one z x) = _
  omega
end Go.Proofs.Ytnipbfhfaefieaa.Pv
/-! pvec: a leaf is hung into a trunk of one level. -/
namespace Go.Proofs.Ytnipbfhfaefieaa.Pv
open Go.RowKit Go Go.Proofs.YtnipbfhfaefieaaW.PrintWords Go.Proofs.YtnipbfhfaefieaaW.PrintMore Go.Proofs.YtnipbfhfaefieaaW.PrintLast Go.Proofs.Ytnipbfhfaefieaa.Bts Go.Proofs.Ytnipbfhfaefieaa.Fra Go.Proofs.Ytnipbfhfaefieaa.ArnP Go.Proofs.Ytnipbfhfaefieaa.Arn Go.Proofs.Ytnipbfhfaefieaa.Ao
theorem infoInt : (Try.prog.info? 3).map (fun i => (i.zero, i.size, i.bytes)) = some (some (.int .i64 0), 1, 8) := by kernel_rfl
theorem path0w_calls (a : Nat) (o leaf : Int) (w : World) : Calls Try.prog 96 #[workV a o, .int .i64 (wrap64 0), .int .i64 leaf] w fun e w' => e = .returned (.int .i64 leaf) ∧ Below w.heap.size w w' := by
  have e : wrap64 0 = 0 := by unfold wrap64; omega
  rw [e]
  exact path0_calls a o leaf w
set_option maxHeartbeats 2000000 in
set_option maxRecDepth 100000 in
theorem cb_hang {O0 : Nat → Prop} {a : Nat} {f0 : Nat → Cell} {most : Int} {rest : Nat → Nat} {op : Nat → Bool} {c : Cell} {nb lb wb fb : Nat} (o : Int) (m lf : Nat) (w0 : World) (hN : IntB w0 nb (m : Int)) (hL : IntB w0 lb 1) (hW : WorkB w0 wb a o) (hL2 : IntB w0 fb (lf : Int)) (hO0 : ¬ O0 nb ∧ ¬ O0 lb ∧ ¬ O0 wb ∧ ¬ O0 fb) (hm : c.kids.length = m) (hm32 : m < 32) (hlf : 0 < lf) (hcl : c.vals.length ≤ 1000000000) (hkn : ∀ z ∈ c.kids, 0 ≤ z) (hro : ∀ z, op z = true → 1 ≤ rest z) :
    Cb 103 (fun p => #[p, .pointer (some ⟨nb, 0, none⟩), .pointer (some ⟨lb, 0, none⟩), .pointer (some ⟨wb, 0, none⟩), .pointer (some ⟨fb, 0, none⟩)]) w0 O0 a most rest (one lf) op f0 0 c (fun f' c' => c' = {c with kids := c.kids ++ [(lf : Int)]} ∧ ∀ x ∈ kidsOf (c.kids ++ [(lf : Int)]), Same f0 f' x) := by
  intro w O f live lo b v k hA hF hO hlo hlo2 hb0 hC hK hS hlm
  have hll : one lf lf = 1 := if_pos rfl
  have hop : op lf = false := by
    cases hq : op lf with
    | false => rfl
    | true =>
      have h1 := (hA.op_r hq).2.1
      have h2 := hro lf hq
      have h1 : rest lf + one lf lf + kc c.kids lf = 1 := h1
      omega
  have hsame : ∀ x ∈ kidsOf (c.kids ++ [(lf : Int)]), Same f0 f x := by
    intro x hx
    have h1 : 0 < kc (c.kids ++ [(lf : Int)]) x := List.count_pos_iff.2 hx
    rw [kc_snoc c.kids lf hlf] at h1
    have h1 : 0 < one lf x + kc c.kids x := h1
    by_cases e : x = lf
    · subst e
      exact (hK x hlf (by show 0 < rest x + one x x; omega)).2 hop
    · have h2 : one lf x = 0 := if_neg e
      exact hS x (List.count_pos_iff.1 (show 0 < kc c.kids x by omega))
  have HSM := Lib.hid hsame
  clear hsame
  have hNw := hF.blk hN hO0.1
  have hLw := hF.blk hL hO0.2.1
  have hWw := hF.blk hW hO0.2.2.1
  have hFw := hF.blk hL2 hO0.2.2.2
  obtain ⟨A1, c1, e1⟩ := Kd.R_slice hC.kr
  rw [hm] at e1
  subst e1
  obtain ⟨V, hV⟩ : ∃ V, w.drew = V := ⟨_, rfl⟩
  have hd : Below w.heap.size w V := by rw [← hV]; exact below_drew1 (Below.refl _ _)
  have HD := Lib.hid hd
  have hCd := hC.below hd
  have hWd := blk_below hWw hd
  have hLd := blk_below hLw hd
  have hFd := blk_below hFw hd
  have n0 := blk_cell hNw 0
  have l0 := blk_cell hLw 0
  have p4w := blk_cell hC.blk 4
  have p4 := blk_cell hCd.blk 4
  have w0' := blk_cell hWd 0
  have w1' := blk_cell hWd 1
  have l0' := blk_cell hLd 0
  have f0' := blk_cell hFd 0
  have hsz := hd.size
  have hlt := (hA.below hd).lt
  have HC := Lib.hid hCd
  have HA := Lib.hid hA
  have HW := Lib.hid hWd
  have HL := Lib.hid hLd
  have HFB := Lib.hid hFd
  have HLT := Lib.hid hlt
  have HM := Lib.hid hm
  clear hK hS hF hO hC hCd hA hd hlt hNw hLw hWw hFw hWd hLd hFd hN hL hW hL2 hm
  go_enter Try.func103, Try.ntmps103
  go_wp2_with (go_at_call 61; go_loud (refine (at_zero m hm32 _).mono ?_; rintro e w4 ⟨rfl, hw4⟩; subst w4))
  refine start_ (n := 15) (S := fun w' => w'.cell? ⟨b, 4, none⟩ = some (.slice A1 m c1) ∧ w'.cell? ⟨wb, 0, none⟩ = some (.pointer (some ⟨a, 0, none⟩)) ∧ w'.cell? ⟨wb, 1, none⟩ = some (.int .u32 o) ∧ w'.cell? ⟨lb, 0, none⟩ = some (.int .i64 1) ∧ w'.cell? ⟨fb, 0, none⟩ = some (.int .i64 (lf : Int))) (ds := [11, 14]) #[false, false, false, false, false, false, false, false, false, false, false, false, false, false, false] (by kernel_rfl) rfl rfl ⟨(by rw [hV]; exact p4), (by rw [hV]; exact w0'), (by rw [hV]; exact w1'), (by rw [hV]; exact l0'), (by rw [hV]; exact f0')⟩ (fun hHeld => ?_)
  refine pure_ (i := 0) (N := some 19) (v := ?_) (a' := ?_) #[true, false, false, false, false, false, false, false, false, false, false, false, false, false, false] rfl rfl (by kernel_rfl) (fun _ _ _ h => h) (Or.inl ⟨by rfl, ?_⟩) ?_ ?_
  rotate_left
  · intro w'
    go_simp
    with_reducible rfl
  rotate_left
  · simp only [Act.put, List.setIfInBounds_toArray, List.set_cons_zero, List.set_cons_succ, i64_w, i32_w]
    rfl
  refine pure_ (i := 1) (N := some 20) (v := ?_) (a' := ?_) #[true, true, false, false, false, false, false, false, false, false, false, false, false, false, false] rfl rfl (by kernel_rfl) (fun _ _ _ h => h) (Or.inl ⟨by rfl, ?_⟩) ?_ ?_
  rotate_left
  · intro w'
    go_simp
    with_reducible rfl
  rotate_left
  · simp only [Act.put, List.setIfInBounds_toArray, List.set_cons_zero, List.set_cons_succ, i64_w, i32_w]
    rfl
  refine pure_ (i := 2) (N := some 21) (v := ?_) (a' := ?_) #[true, true, true, false, false, false, false, false, false, false, false, false, false, false, false] rfl rfl (by kernel_rfl) (fun _ _ _ h => h) (Or.inl ⟨by rfl, ?_⟩) ?_ ?_
  rotate_left
  · intro w'
    go_simp
    with_reducible rfl
  rotate_left
  · simp only [Act.put, List.setIfInBounds_toArray, List.set_cons_zero, List.set_cons_succ, i64_w, i32_w]
    rfl
  refine pure_ (i := 3) (N := some 22) (v := ?_) (a' := ?_) #[true, true, true, true, false, false, false, false, false, false, false, false, false, false, false] rfl rfl (by kernel_rfl) (fun _ _ _ h => h) (Or.inl ⟨by rfl, ?_⟩) ?_ ?_
  rotate_left
  · intro w'
    go_simp
    with_reducible rfl
  rotate_left
  · simp only [Act.put, List.setIfInBounds_toArray, List.set_cons_zero, List.set_cons_succ, i64_w, i32_w]
    rfl
  refine take_ (i := 4) (N := some 23) (v := ?_) (a' := ?_) #[true, true, true, true, true, false, false, false, false, false, false, false, false, false, false] rfl rfl (by kernel_rfl) (fun _ _ _ h => h) (Or.inl ⟨by rfl, ?_⟩) hHeld ?_ ?_
  rotate_left
  · rintro w' ⟨s0, s1, s2, s3, s4⟩
    go_simp
    with_reducible rfl
  rotate_left
  · simp only [Act.put, List.setIfInBounds_toArray, List.set_cons_zero, List.set_cons_succ, i64_w, i32_w]
    rfl
  refine take_ (i := 5) (N := some 24) (v := ?_) (a' := ?_) #[true, true, true, true, true, true, false, false, false, false, false, false, false, false, false] rfl rfl (by kernel_rfl) (fun _ _ _ h => h) (Or.inl ⟨by rfl, ?_⟩) hHeld ?_ ?_
  rotate_left
  · rintro w' ⟨s0, s1, s2, s3, s4⟩
    go_simp
    with_reducible rfl
  rotate_left
  · simp only [Act.put, List.setIfInBounds_toArray, List.set_cons_zero, List.set_cons_succ, i64_w, i32_w]
    rfl
  refine take_ (i := 6) (N := some 25) (v := ?_) (a' := ?_) #[true, true, true, true, true, true, true, false, false, false, false, false, false, false, false] rfl rfl (by kernel_rfl) (fun _ _ _ h => h) (Or.inl ⟨by rfl, ?_⟩) hHeld ?_ ?_
  rotate_left
  · rintro w' ⟨s0, s1, s2, s3, s4⟩
    go_simp
    with_reducible rfl
  rotate_left
  · simp only [Act.put, List.setIfInBounds_toArray, List.set_cons_zero, List.set_cons_succ, i64_w, i32_w]
    rfl
  refine pure_ (i := 7) (N := some 26) (v := ?_) (a' := ?_) #[true, true, true, true, true, true, true, true, false, false, false, false, false, false, false] rfl rfl (by kernel_rfl) (fun _ _ _ h => h) (Or.inl ⟨by rfl, ?_⟩) ?_ ?_
  rotate_left
  · intro w'
    go_simp
    with_reducible rfl
  rotate_left
  · simp only [Act.put, List.setIfInBounds_toArray, List.set_cons_zero, List.set_cons_succ, i64_w, i32_w]
    rfl
  refine take_ (i := 8) (N := some 27) (v := ?_) (a' := ?_) #[true, true, true, true, true, true, true, true, true, false, false, false, false, false, false] rfl rfl (by kernel_rfl) (fun _ _ _ h => h) (Or.inl ⟨by rfl, ?_⟩) hHeld ?_ ?_
  rotate_left
  · rintro w' ⟨s0, s1, s2, s3, s4⟩
    go_simp
    with_reducible rfl
  rotate_left
  · simp only [Act.put, List.setIfInBounds_toArray, List.set_cons_zero, List.set_cons_succ, i64_w, i32_w]
    rfl
  refine one_ (i := 9) (N := some 28) #[true, true, true, true, true, true, true, true, true, true, false, false, false, false, false] rfl rfl (by kernel_rfl) (by decide) (fun K hK => ?_)
  refine goes_ Try.func96 (by kernel_rfl) rfl #[workV a o, .int .i64 (wrap64 0), .int .i64 lf] (by rfl) rfl rfl (by simp only [List.map_toArray, List.map_cons, List.map_nil]; rfl) ?_
  with_reducible refine (path0w_calls a o lf _).mono ?_
  rintro e w5 ⟨rfl, hB5⟩
  refine ⟨_, rfl, ?_⟩
  have hB5 : Below V.heap.size V w5 := hV ▸ hB5
  have HB5 := Lib.hid hB5
  have hsz5 := hB5.size
  refine hK.out _ _ ⟨(blk_cell (blk_below HC.out.blk HB5.out) 4), (blk_cell (blk_below HW.out HB5.out) 0), (blk_cell (blk_below HW.out HB5.out) 1), (blk_cell (blk_below HL.out HB5.out) 0), (blk_cell (blk_below HFB.out HB5.out) 0)⟩ (fun hHeld => ?_)
  clear hK K
  refine norm_ (a' := ?_) ?_ ?_
  rotate_left
  · show Act.put _ (some 28) _ = _
    simp only [Act.put, List.setIfInBounds_toArray, List.set_cons_zero, List.set_cons_succ, i64_w, i32_w]
    rfl
  refine one_ (i := 10) (N := some 29) #[true, true, true, true, true, true, true, true, true, true, true, false, false, false, false] rfl rfl (by kernel_rfl) (by decide) (fun K hK => ?_)
  refine value_ (w1 := ?_) (v := ?_) (by rfl) rfl ?_ ?_
  rotate_left 2
  · go_simp
    constructor
    · rfl
    · rfl
  refine hK.out _ _ ⟨(pw_cell_below (below_alloc (Below.refl w5.heap.size w5) _) (blk_cell (blk_below HC.out.blk HB5.out) 4)), (pw_cell_below (below_alloc (Below.refl w5.heap.size w5) _) (blk_cell (blk_below HW.out HB5.out) 0)), (pw_cell_below (below_alloc (Below.refl w5.heap.size w5) _) (blk_cell (blk_below HW.out HB5.out) 1)), (pw_cell_below (below_alloc (Below.refl w5.heap.size w5) _) (blk_cell (blk_below HL.out HB5.out) 0)), (pw_cell_below (below_alloc (Below.refl w5.heap.size w5) _) (blk_cell (blk_below HFB.out HB5.out) 0))⟩ (fun hHeld => ?_)
  clear hK K
  refine norm_ (a' := ?_) ?_ ?_
  rotate_left
  · show Act.put _ (some 29) _ = _
    simp only [Act.put, List.setIfInBounds_toArray, List.set_cons_zero, List.set_cons_succ, i64_w, i32_w]
    rfl
  refine last_ (i := 11) (N := some 30) #[true, true, true, true, true, true, true, true, true, true, true, true, false, false, false] rfl rfl (by kernel_rfl) (by decide) (fun K hK => ?_)
  have hC5 := HC.out.below HB5.out
  have hkr5 := hC5.kr
  refine Kd.R_append_step (Kd.int .i64) (w0 := w5) (W := w5) lo (by rfl) (.tmp 23) (.tmp 29) 27 3 (.int .i64 0) 8 rfl Try.underlying27 infoInt rfl (by decide) (by decide) (.slice A1 m c1) c.kids (lf : Int) [.int .i64 (lf : Int)] (fun j => lo ≤ j) (fun _ => False) rfl rfl rfl (fun _ h => h.elim) (fun j hj => by omega) hkr5 (Below.refl _ _) (by omega) (by have := HM.out; omega) ?_
  intro v7 w7 hR7 hB7 hg7 hat7
  obtain ⟨A7, c7, e7⟩ := Kd.R_slice hR7
  subst e7
  have hcv := hC5.kidz (v := v) (k1 := .slice A7 (c.kids ++ [(lf : Int)]).length c7) (fun j hj => Nat.lt_of_lt_of_le (HLT.out j hj) hsz5) (fr_grownBy hg7) hR7 (fun j hj => hat7.elim (fun e => .inl (e ▸ hj)) (fun ⟨b', e, hb'⟩ => .inr (by rw [e] at hj; cases hj; exact hb')))
  have HG7 := Lib.hid (fr_grownBy hg7)
  have hb7 := (fr_grownBy hg7).blk hC5.blk (fun e => (hC5.kk b e).1 rfl)
  have r4 := blk_cell hb7 4
  have z4 := blk_frozen hb7 4
  have HCV := Lib.hid hcv
  clear hcv
  refine hK.out _ _ ?_
  clear hK K
  refine norm_ (a' := ?_) ?_ ?_
  rotate_left
  · show Act.put _ (some 30) _ = _
    simp only [Act.put, List.setIfInBounds_toArray, List.set_cons_zero, List.set_cons_succ, i64_w, i32_w]
    rfl
  refine pure_ (i := 12) (N := some 31) (v := ?_) (a' := ?_) #[true, true, true, true, true, true, true, true, true, true, true, true, true, false, false] rfl rfl (by kernel_rfl) (fun _ _ _ h => h) (Or.inl ⟨by rfl, ?_⟩) ?_ ?_
  rotate_left
  · intro w'
    go_simp
    with_reducible rfl
  rotate_left
  · simp only [Act.put, List.setIfInBounds_toArray, List.set_cons_zero, List.set_cons_succ, i64_w, i32_w]
    rfl
  refine pure_ (i := 13) (N := some 32) (v := ?_) (a' := ?_) #[true, true, true, true, true, true, true, true, true, true, true, true, true, true, false] rfl rfl (by kernel_rfl) (fun _ _ _ h => h) (Or.inl ⟨by rfl, ?_⟩) ?_ ?_
  rotate_left
  · intro w'
    go_simp
    with_reducible rfl
  rotate_left
  · simp only [Act.put, List.setIfInBounds_toArray, List.set_cons_zero, List.set_cons_succ, i64_w, i32_w]
    rfl
  refine last_ (i := 14) (N := none) #[true, true, true, true, true, true, true, true, true, true, true, true, true, true, true] rfl rfl (by kernel_rfl) (by decide) (fun K hK => ?_)
  refine skip_ (w1 := ?_) (by rfl) rfl ?_ ?_
  rotate_left
  · go_simp
    rfl
  refine hK.out _ _ ?_
  clear hK K
  refine done_ (by kernel_rfl) ?_

  go_end0
  have hcv := HCV.out
  have hln : (c.kids ++ [(lf : Int)]).length = c.kids.length + 1 := by simp
  rw [hln] at hcv
  have hd := HD.out
  have hmm := HM.out
  have hb4 : Fr (fun j => j = b) w7 (w7.setCell ⟨b, 4, none⟩ (.slice A7 (c.kids.length + 1) c7)) := Fr.set b 4 _
  have hfa : Fr (fun j => (Value.slice A1 m c1).ownBlock = some j ∨ j = b) w (w7.setCell ⟨b, 4, none⟩ (.slice A7 (c.kids.length + 1) c7)) := (((Fr.of_new hd).then_ (Fr.of_new (S := fun _ => False) HB5.out) (fun j hj => hj.elim)).then_ HG7.out (fun j hj => .inl (.inl hj))).then_ hb4 (fun j hj => .inl (.inr hj))
  have hA' := HA.out.move hfa (fun j hj e => e.elim (fun e => (HC.out.kk j e).2 hj) (fun e => HC.out.no (e ▸ hj)))
  have e1 : (fun x => rest x + one lf x + kc c.kids x) = fun x => rest x + kc (c.kids ++ [(lf : Int)]) x := by
    funext x
    rw [kc_snoc c.kids lf hlf]
    show _ = rest x + (_ + _)
    omega
  rw [e1] at hA'
  have hkl' : (c.kids ++ [(lf : Int)]).length ≤ 1000 := by rw [hln]; omega
  refine ⟨rfl, O, f, live, {c with kids := c.kids ++ [(lf : Int)]}, _, _, hA', hcv.1, ((Fr.of_new (S := Wr O b v (.slice A1 m c1)) hd).then_ (Fr.of_new (S := fun _ => False) HB5.out) (fun j hj => hj.elim)).then_ hcv.2 (fun j hj => .inl hj), fun j hj => .inl hj, by omega, KeepR.refl _ _ _, ⟨rfl, HSM.out⟩, rfl, hkl', hcl, fun y hy => ?_⟩
  rcases List.mem_append.1 hy with h | h
  · exact hkn y h
  · rw [List.mem_singleton.1 h]; exact Int.natCast_nonneg _
end Go.Proofs.Ytnipbfhfaefieaa.Pv
/-! pvec: a leaf is hung into a trunk of one level. -/
namespace Go.Proofs.Ytnipbfhfaefieaa.Pv
open Go.RowKit Go Go.Proofs.YtnipbfhfaefieaaW.PrintWords Go.Proofs.YtnipbfhfaefieaaW.PrintMore Go.Proofs.YtnipbfhfaefieaaW.PrintLast Go.Proofs.Ytnipbfhfaefieaa.Bts Go.Proofs.Ytnipbfhfaefieaa.Fra Go.Proofs.Ytnipbfhfaefieaa.ArnP Go.Proofs.Ytnipbfhfaefieaa.Arn Go.Proofs.Ytnipbfhfaefieaa.Ao
set_option maxHeartbeats 2000000 in
set_option maxRecDepth 100000 in
theorem hang_calls {O : Nat → Prop} {a : Nat} {f : Nat → Cell} {live most : Int} {rest : Nat → Nat} {op : Nat → Bool} (o : Int) (k m lf : Nat) (w : World) (h : AO w O a f live most (fun z => rest z + one lf z + one k z) op) (hk : 0 < k) (ho : op k = false) (hb : ∀ x, rest x ≤ 60000000000) (hro : ∀ z, op z = true → 1 ≤ rest z) (hm : (f k).kids.length = m) (hm32 : m < 32) (hlf : 0 < lf) (hlm : live < most) :
    Calls Try.prog 97 #[workV a o, .int .i64 k, .int .i64 1, .int .i64 m, .int .i64 lf] w fun e w' => ∃ (k' : Nat) (O' : Nat → Prop) (f' : Nat → Cell) (live' : Int), e = .returned (.int .i64 k') ∧ AO w' O' a f' live' most (fun z => rest z + one k' z) op ∧ live' ≤ live + 1 ∧ f' k' = {f k with kids := (f k).kids ++ [(lf : Int)], ow := o, r := 1} ∧ (∀ x ∈ kidsOf ((f k).kids ++ [(lf : Int)]), Same f f' x) ∧ 0 < k' ∧ op k' = false ∧ KeepR rest op f f' ∧ (∀ j, O' j → O j ∨ w.heap.size ≤ j) ∧ Fr O w w' := by
  have hlive : 0 < (f k).r := h.ext_lv hk (by show 0 < rest k + one lf k + one k k; have : one k k = 1 := if_pos rfl; omega)
  have hkl := (AO.kl h hlive).1
  have hcl := (AO.kl h hlive).2
  have hkn := AO.kn h ⟨hk, hlive, ho⟩
  have hlt := h.lt
  have hbx := below_alloc (below_alloc (below_alloc (below_alloc (Below.refl w.heap.size w) (.cells #[.pointer (some ⟨a, 0, none⟩), .int .u32 o] 133)) (.cells #[.int .i64 1] 3)) (.cells #[.int .i64 (m : Int)] 3)) (.cells #[.int .i64 (lf : Int)] 3)
  have hX : IntB _ (w.heap.size + 3) (lf : Int) := new3 w (.cells #[.pointer (some ⟨a, 0, none⟩), .int .u32 o] 133) (.cells #[.int .i64 1] 3) (.cells #[.int .i64 (m : Int)] 3) (.cells #[.int .i64 (lf : Int)] 3)
  have hI : IntB _ (w.heap.size + 2) (m : Int) := blk_alloc (new2 w (.cells #[.pointer (some ⟨a, 0, none⟩), .int .u32 o] 133) (.cells #[.int .i64 1] 3) (.cells #[.int .i64 (m : Int)] 3)) (.cells #[.int .i64 (lf : Int)] 3)
  have hL : IntB _ (w.heap.size + 1) 1 := blk_alloc (blk_alloc (new1 w (.cells #[.pointer (some ⟨a, 0, none⟩), .int .u32 o] 133) (.cells #[.int .i64 1] 3)) (.cells #[.int .i64 (m : Int)] 3)) (.cells #[.int .i64 (lf : Int)] 3)
  have hWk : WorkB _ w.heap.size a o := blk_alloc (blk_alloc (blk_alloc (blk_new w (.cells #[.pointer (some ⟨a, 0, none⟩), .int .u32 o] 133)) (.cells #[.int .i64 1] 3)) (.cells #[.int .i64 (m : Int)] 3)) (.cells #[.int .i64 (lf : Int)] 3)
  have hA := h.below hbx
  obtain ⟨W, hW⟩ : ∃ W, ((((w.alloc (.cells #[.pointer (some ⟨a, 0, none⟩), .int .u32 o] 133)).alloc (.cells #[.int .i64 1] 3)).alloc (.cells #[.int .i64 (m : Int)] 3)).alloc (.cells #[.int .i64 (lf : Int)] 3)) = W := ⟨_, rfl⟩
  have hnB : ∀ b, w.heap.size ≤ b → ¬ O b := fun b hb e => by have := hlt b e; omega
  rw [hW] at hX hI hL hWk
  have hA' : AO W O a f live most (fun z => rest z + one lf z + one k z) op := by rw [← hW]; exact hA
  have hbW : Below w.heap.size w W := by rw [← hW]; exact hbx
  have hO4 : ¬ O (w.heap.size + 2) ∧ ¬ O (w.heap.size + 1) ∧ ¬ O w.heap.size ∧ ¬ O (w.heap.size + 3) := ⟨hnB _ (by omega), hnB _ (by omega), hnB _ (by omega), hnB _ (by omega)⟩
  have hch := change_hang (need := 0) o k (.pointer (some ⟨w.heap.size + 2, 0, none⟩)) (.pointer (some ⟨w.heap.size + 1, 0, none⟩)) (.pointer (some ⟨w.heap.size, 0, none⟩)) (.pointer (some ⟨w.heap.size + 3, 0, none⟩)) W W hA' hk ho (bnd_one lf hb (by decide)) hro (Fr.refl O W) (fun j hj => .inl hj)
    (cb_hang o m lf W hI hL hWk hX hO4 hm hm32 hlf hcl hkn hro)
    (cb_hang o m lf W hI hL hWk hX hO4 hm hm32 hlf hcl hkn (hro_one k hro)) (by omega)
  rw [← hW] at hch
  have HC := Lib.hid hch
  have HB := Lib.hid hbW
  have HW := Lib.hid hW
  have HM := Lib.hid hm
  clear hch hA hA' hbW hbx hX hI hL hWk h hW hm
  go_enter Try.func97, Try.ntmps97
  go_wp2_with (go_at_call 78; go_loud (refine HC.out.mono ?_; rintro e w5 ⟨k', O5, f5, live5, c5, rfl, hA5, hll5, hR5, hS5, hk5, ho5, hK5, hO5, hF5⟩; have HR5 := Lib.hid hR5; clear hR5))
  go_ret
  obtain ⟨rfl, hoth⟩ := HR5.out
  have hF6 : Fr O w w5 := by
    have h1 := HB.out
    rw [← HW.out] at h1
    exact (Fr.of_new h1).trans hF5
  refine ⟨k', O5, _, live5, rfl, hA5, by omega, upd_eq _ _ _, fun x hx => (hoth x hx).trans (hS5 x hx), hk5, ho5, hK5, fun j hj => (hO5 j hj).imp id (fun q => ?_), hF6⟩
  have h1 := HB.out.size
  rw [← HW.out] at h1
  omega
end Go.Proofs.Ytnipbfhfaefieaa.Pv
/-! pvec: a trunk grows: by its first leaf, and where it has room. -/
namespace Go.Proofs.Ytnipbfhfaefieaa.Pv
open Go.RowKit Go Go.Proofs.YtnipbfhfaefieaaW.PrintWords Go.Proofs.YtnipbfhfaefieaaW.PrintMore Go.Proofs.YtnipbfhfaefieaaW.PrintLast Go.Proofs.Ytnipbfhfaefieaa.Bts Go.Proofs.Ytnipbfhfaefieaa.Fra Go.Proofs.Ytnipbfhfaefieaa.ArnP Go.Proofs.Ytnipbfhfaefieaa.Arn Go.Proofs.Ytnipbfhfaefieaa.Ao
theorem grow0_calls (a : Nat) (o at_ leaf : Int) (w : World) : Calls Try.prog 80 #[workV a o, .int .i64 at_, .int .i64 0, .int .i64 leaf] w fun e w' => e = .returned (.int .i64 leaf) ∧ Below w.heap.size w w' := by
  go_enter Try.func80, Try.ntmps80
  go_wp2
  go_ret
  exact ⟨rfl, below_alloc (Below.refl _ _) _⟩
set_option maxHeartbeats 2000000 in
set_option maxRecDepth 100000 in
theorem grow2_calls {O : Nat → Prop} {a : Nat} {f : Nat → Cell} {live most : Int} {rest : Nat → Nat} {op : Nat → Bool} (o : Int) (k m lf : Nat) (w : World) (h : AO w O a f live most (fun z => rest z + one lf z + one k z) op) (hk : 0 < k) (ho : op k = false) (hb : ∀ x, rest x ≤ 60000000000) (hro : ∀ z, op z = true → 1 ≤ rest z) (hm : (f k).kids.length = m) (hm2 : 2 ≤ m) (hm32 : m < 32) (hlf : 0 < lf) (hlm : live < most) :
    Calls Try.prog 80 #[workV a o, .int .i64 k, .int .i64 m, .int .i64 lf] w fun e w' => ∃ (k' : Nat) (O' : Nat → Prop) (f' : Nat → Cell) (live' : Int), e = .returned (.int .i64 k') ∧ AO w' O' a f' live' most (fun z => rest z + one k' z) op ∧ live' ≤ live + 1 ∧ f' k' = {f k with kids := (f k).kids ++ [(lf : Int)], ow := o, r := 1} ∧ (∀ x ∈ kidsOf ((f k).kids ++ [(lf : Int)]), Same f f' x) ∧ 0 < k' ∧ op k' = false ∧ KeepR rest op f f' ∧ (∀ j, O' j → O j ∨ w.heap.size ≤ j) ∧ Fr O w w' := by
  have hbx := below_alloc (Below.refl w.heap.size w) (.cells #[.pointer (some ⟨a, 0, none⟩), .int .u32 o] 133)
  have hA := h.below hbx
  have hh := hang_calls o k m lf _ hA hk ho hb hro hm hm32 hlf hlm
  have l1 : lev m = 1 := by unfold lev; rw [if_neg (by omega)]
  have l2 : lev (m + 1) = 1 := by unfold lev; rw [if_neg (by omega)]
  have c1 : ∀ w, Calls Try.prog 62 #[.int .i64 (m : Int)] w fun e w' => e = .returned (.int .i64 1) ∧ w' = w := fun w => by
    have := levels_calls m (by omega) w
    rwa [l1] at this
  have c2 : ∀ w, Calls Try.prog 62 #[.int .i64 ((m : Int) + 1)] w fun e w' => e = .returned (.int .i64 1) ∧ w' = w := fun w => by
    have := levels_calls (m + 1) (by omega) w
    rwa [l2] at this
  have hne : ¬ (m : Int) = 0 := by omega
  have hm' : (m : Int) ≤ 31 := by omega
  have HH := Lib.hid hh
  have HB := Lib.hid hbx
  have LV := Lib.hid (show ∀ x : Int, (x = (m : Int) ∨ x = (m : Int) + 1) → ∀ w, Calls Try.prog 62 #[.int .i64 x] w fun e w' => e = .returned (.int .i64 1) ∧ w' = w from fun x hx w => hx.elim (fun e => e ▸ c1 w) (fun e => e ▸ c2 w))
  clear hh hA h hbx c1 c2 l1 l2 hm
  go_enter Try.func80, Try.ntmps80
  go_wp2_with (first
    | (go_at_call 62; refine (LV.out _ (by first | exact .inl rfl | exact .inr rfl) _).mono ?_; rintro e w4 ⟨rfl, hw4⟩; subst w4)
    | (go_at_call 97; refine HH.out.mono ?_; rintro e w5 ⟨k', O5, f5, live5, rfl, hA5, hll5, hR5, hS5, hk5, ho5, hK5, hO5, hF5⟩; have HR5 := Lib.hid hR5; clear hR5))
  go_ret
  have hsz := HB.out.size
  exact ⟨k', O5, f5, live5, rfl, hA5, hll5, HR5.out, hS5, hk5, ho5, hK5, fun j hj => (hO5 j hj).imp id (fun q => by omega), (Fr.of_new HB.out).trans hF5⟩
end Go.Proofs.Ytnipbfhfaefieaa.Pv
/-! arena: the law ArenaArgs, walked. -/
namespace Go.Proofs.Ytnipbfhfaefieaa.ArAr
open Go.RowKit Go Go.Proofs.YtnipbfhfaefieaaW.PrintWords Go.Proofs.YtnipbfhfaefieaaW.PrintMore Go.Proofs.YtnipbfhfaefieaaW.PrintLast Go.Proofs.Ytnipbfhfaefieaa.Bts Go.Proofs.Ytnipbfhfaefieaa.Fra Go.Proofs.Ytnipbfhfaefieaa.ArnP Go.Proofs.Ytnipbfhfaefieaa.Arn
/-- Numbers in a block of their own. -/
theorem row_lit (w : World) (l : List Int) (cs : Array Value) (hcs : cs.toList = nums .i64 l) (hl : l.length ≤ 1000) : RowIn (Kd.int .i64) (w.alloc (.cells cs 3)) (fun j => w.heap.size ≤ j) (.slice (some ⟨w.heap.size, 0, none⟩) l.length l.length) l := by
  have hs : cs.size = l.length * 1 := by rw [← Array.length_toList, hcs, nums_length]; omega
  have h := World.ownsRow_lit (base := w.heap.size) (e := 3) (size := 1) w cs l.length (Nat.le_refl _) (by unfold maxLen; omega) hs
  rw [hcs] at h
  exact RowIn.of_R (Kd.R_of_own (enc := Value.int .i64) (h1 := fun _ => rfl) (ok := fun _ => True) h (fun _ _ => trivial))
theorem bad2 (x : Int) : badC [nobC] [0, x] = (x != 0) := by
  have h : ∀ y, isC [nobC] y = false := by
    intro y
    cases hq : isC [nobC] y
    · rfl
    · obtain ⟨k, c, _, e2, e3, e4⟩ := isC_inv hq
      match k, e3 with
      | 0, e3 => omega
      | k + 1, e3 => simp at e3
  unfold badC
  simp [h]
set_option maxHeartbeats 4000000 in
set_option maxRecDepth 100000 in
theorem bad_walk (x0 x1 : Int) (w : World) (h : ¬ (1 ≤ x0 ∧ x0 ≤ 1048576)) : Calls Try.prog 5 #[.int .i64 x0, .int .i64 x1] w fun e w' => e = .returned (.bool true) ∧ Below w.heap.size w w' := by
  have HB := Lib.hid (Below.refl w.heap.size w)
  have HN := Lib.hid (fun V => new_err x0 V h)
  have t1 : (decide (1 ≤ x0) && decide (x0 ≤ 1048576)) = false := by simpa using h
  have HT := Lib.hid t1
  by_cases h1 : 1 ≤ x0
  · have h2 : decide (x0 ≤ 1048576) = false := by simp; omega
    clear h t1
    go_enter Try.func5, Try.ntmps5
    go_wp2_with (first
      | (go_at_call 28; go_loud (refine (edit_nil _ _ _ _ _ _ _ _ ⟨_, _, _, rfl⟩ ⟨_, _, _, rfl⟩).mono ?_; rintro e w9 ⟨rfl, hb9⟩; have HB9 := Lib.hid (below_step HB8.out hb9); clear hb9))
      | (go_at_call 23; go_loud (refine (drop_nil _ _).mono ?_; rintro e w8 ⟨rfl, hb8⟩; have HB8 := Lib.hid (below_step HB7.out hb8); clear hb8))
      | (go_at_call 27; go_loud (refine (keep_nil _ _).mono ?_; rintro e w7 ⟨rfl, hb7⟩; have HB7 := Lib.hid (below_step HB6.out hb7); clear hb7))
      | (go_at_call 26; go_loud (refine (refs_nil _ _).mono ?_; rintro e w6 ⟨rfl, hb6⟩; have HB6 := Lib.hid (below_step (below_step HB4.out (by repeat (first | (with_reducible first | exact Below.refl _ _ | apply below_alloc | apply pw_below_drewN | apply below_drew1)))) hb6); clear hb6))
      | (go_at_call 25; go_loud (refine (room_nil _).mono ?_; rintro e w5 ⟨rfl, rfl⟩))
      | (go_at_call 22; go_loud (refine (live_nil _).mono ?_; rintro e w5 ⟨rfl, rfl⟩))
      | (go_at_call 24; go_loud (refine (get_nil _ _).mono ?_; rintro e w4 ⟨rfl, hb4⟩; have HB4 := Lib.hid (below_step HB3.out hb4); clear hb4))
      | (go_at_call 21; go_loud (refine (make_nil _ _ _ _ _ _ ⟨_, _, _, rfl⟩ ⟨_, _, _, rfl⟩).mono ?_; rintro e w3 ⟨rfl, hb3⟩; have HB3 := Lib.hid (below_step HB2.out hb3); clear hb3))
      | (go_at_call 20; go_loud (refine (HN.out _).mono ?_; rintro e w2 ⟨rfl, hb2⟩; have HB2 := Lib.hid (below_step HB1.out hb2); clear hb2))
      | (go_at_call 19; go_loud (refine (lives_calls _).mono ?_; rintro e w1 ⟨rfl, hb1⟩; have HB1 := Lib.hid hb1; clear hb1)))
    go_ret
    exact ⟨rfl, HB9.out⟩
  · have h2 : decide (1 ≤ x0) = false := by simp; omega
    clear h t1
    go_enter Try.func5, Try.ntmps5
    go_wp2_with (first
      | (go_at_call 28; go_loud (refine (edit_nil _ _ _ _ _ _ _ _ ⟨_, _, _, rfl⟩ ⟨_, _, _, rfl⟩).mono ?_; rintro e w9 ⟨rfl, hb9⟩; have HB9 := Lib.hid (below_step HB8.out hb9); clear hb9))
      | (go_at_call 23; go_loud (refine (drop_nil _ _).mono ?_; rintro e w8 ⟨rfl, hb8⟩; have HB8 := Lib.hid (below_step HB7.out hb8); clear hb8))
      | (go_at_call 27; go_loud (refine (keep_nil _ _).mono ?_; rintro e w7 ⟨rfl, hb7⟩; have HB7 := Lib.hid (below_step HB6.out hb7); clear hb7))
      | (go_at_call 26; go_loud (refine (refs_nil _ _).mono ?_; rintro e w6 ⟨rfl, hb6⟩; have HB6 := Lib.hid (below_step (below_step HB4.out (by repeat (first | (with_reducible first | exact Below.refl _ _ | apply below_alloc | apply pw_below_drewN | apply below_drew1)))) hb6); clear hb6))
      | (go_at_call 25; go_loud (refine (room_nil _).mono ?_; rintro e w5 ⟨rfl, rfl⟩))
      | (go_at_call 22; go_loud (refine (live_nil _).mono ?_; rintro e w5 ⟨rfl, rfl⟩))
      | (go_at_call 24; go_loud (refine (get_nil _ _).mono ?_; rintro e w4 ⟨rfl, hb4⟩; have HB4 := Lib.hid (below_step HB3.out hb4); clear hb4))
      | (go_at_call 21; go_loud (refine (make_nil _ _ _ _ _ _ ⟨_, _, _, rfl⟩ ⟨_, _, _, rfl⟩).mono ?_; rintro e w3 ⟨rfl, hb3⟩; have HB3 := Lib.hid (below_step HB2.out hb3); clear hb3))
      | (go_at_call 20; go_loud (refine (HN.out _).mono ?_; rintro e w2 ⟨rfl, hb2⟩; have HB2 := Lib.hid (below_step HB1.out hb2); clear hb2))
      | (go_at_call 19; go_loud (refine (lives_calls _).mono ?_; rintro e w1 ⟨rfl, hb1⟩; have HB1 := Lib.hid hb1; clear hb1)))
    go_ret
    exact ⟨rfl, HB9.out⟩
set_option maxHeartbeats 4000000 in
set_option maxRecDepth 100000 in
theorem ok_walk (x0 x1 : Int) (w : World) (h1 : 1 ≤ x0) (h2 : x0 ≤ 1048576) : Calls Try.prog 5 #[.int .i64 x0, .int .i64 x1] w fun e w' => e = .returned (.bool true) ∧ Below w.heap.size w w' := by
  by_cases hx : x1 = 0
  · subst hx
    go_enter Try.func5, Try.ntmps5
    go_wp2_with (first
      | (go_at_call 28; go_loud (refine (edit_nil _ _ _ _ _ _ _ _ ⟨_, _, _, rfl⟩ ⟨_, _, _, rfl⟩).mono ?_; rintro e w9 ⟨rfl, hb9⟩; have HB9 := Lib.hid (below_step HB8.out hb9); have HA9 := Lib.hid (HA.out.below (below_step HC8.out hb9)); clear hb9))
      | (go_at_call 23; go_loud (refine (drop_nil _ _).mono ?_; rintro e w8 ⟨rfl, hb8⟩; have HB8 := Lib.hid (below_step HB7.out hb8); have HC8 := Lib.hid (below_step HC7.out hb8); clear hb8))
      | (go_at_call 27; go_loud (refine (keep_nil _ _).mono ?_; rintro e w7 ⟨rfl, hb7⟩; have HB7 := Lib.hid (below_step HB6.out hb7); have HC7 := Lib.hid (below_step HC6.out hb7); clear hb7))
      | (go_at_call 26; go_loud (refine (refs_nil _ _).mono ?_; rintro e w6 ⟨rfl, hb6⟩; have HB6 := Lib.hid (below_step (below_step HB4.out (by repeat (first | (with_reducible first | exact Below.refl _ _ | apply below_alloc | apply pw_below_drewN | apply below_drew1)))) hb6); have HC6 := Lib.hid (below_step (below_step HC4.out (by repeat (first | (with_reducible first | exact Below.refl _ _ | apply below_alloc | apply pw_below_drewN | apply below_drew1)))) hb6); clear hb6))
      | (go_at_call 25; go_loud (refine (room_nil _).mono ?_; rintro e w5 ⟨rfl, rfl⟩))
      | (go_at_call 22; go_loud (refine (live_AR _ HA10.out).mono ?_; rintro e w11 ⟨rfl, rfl⟩))
      | (go_at_call 22; go_loud (refine (live_nil _).mono ?_; rintro e w5 ⟨rfl, rfl⟩))
      | (go_at_call 24; go_loud (refine (get_nil _ _).mono ?_; rintro e w4 ⟨rfl, hb4⟩; have HB4 := Lib.hid (below_step HB3.out hb4); have HC4 := Lib.hid (below_step HC3.out hb4); clear hb4))
      | (go_at_call 21; go_loud (refine (make_AR0 (Q := fun j => w9.heap.size ≤ j) 0 0 0 (.slice none 0 0) (.slice (some ⟨w9.heap.size, 0, none⟩) 2 2) [] [0, 0] _ (HA9.out.below (by repeat (first | (with_reducible first | exact Below.refl _ _ | apply below_alloc | apply pw_below_drewN | apply below_drew1)))) (row_none _ _ _) (row_lit w9 [0, 0] #[.int .i64 0, .int .i64 0] rfl (by decide)) (fun j hj hj2 => by have := HA9.out.mem.ol j hj2; omega) (by rw [bad2]; rfl) (by omega) (by decide) (by decide) (fun _ _ => Nat.zero_le _)).mono ?_; rintro e w10 ⟨O2, rfl, h10, ho10, hF10⟩; have HA10 := Lib.hid h10; have HB10 := Lib.hid (bel_fr (below_step HB9.out (by repeat (first | (with_reducible first | exact Below.refl _ _ | apply below_alloc | apply pw_below_drewN | apply below_drew1)))) hF10 (fun j hj => Nat.le_trans HB1.out.size (HO.out j hj))); clear h10 ho10 hF10))
      | (go_at_call 21; go_loud (refine (make_nil _ _ _ _ _ _ ⟨_, _, _, rfl⟩ ⟨_, _, _, rfl⟩).mono ?_; rintro e w3 ⟨rfl, hb3⟩; have HB3 := Lib.hid (below_step HB2.out hb3); have HC3 := Lib.hid (below_step HC2.out hb3); clear hb3))
      | (go_at_call 20; go_loud (refine (new_AR x0 _ h1 h2).mono ?_; rintro e w2 ⟨a, O, rfl, h0, ho0, hb2⟩; have HO := Lib.hid ho0; have HA := Lib.hid h0; clear h0 ho0; have HB2 := Lib.hid (below_step HB1.out hb2); have HC2 := Lib.hid (Below.refl w2.heap.size w2); clear hb2))
      | (go_at_call 19; go_loud (refine (lives_calls _).mono ?_; rintro e w1 ⟨rfl, hb1⟩; have HB1 := Lib.hid hb1; clear hb1)))

    go_ret
    exact ⟨rfl, HB10.out⟩
  · have hx0 : (x1 == 0) = false := by simpa using hx
    have hx1 : (x1 != 0) = true := by simpa using hx
    go_enter Try.func5, Try.ntmps5
    go_wp2_with (first
      | (go_at_call 28; go_loud (refine (edit_nil _ _ _ _ _ _ _ _ ⟨_, _, _, rfl⟩ ⟨_, _, _, rfl⟩).mono ?_; rintro e w9 ⟨rfl, hb9⟩; have HB9 := Lib.hid (below_step HB8.out hb9); have HA9 := Lib.hid (HA.out.below (below_step HC8.out hb9)); clear hb9))
      | (go_at_call 23; go_loud (refine (drop_nil _ _).mono ?_; rintro e w8 ⟨rfl, hb8⟩; have HB8 := Lib.hid (below_step HB7.out hb8); have HC8 := Lib.hid (below_step HC7.out hb8); clear hb8))
      | (go_at_call 27; go_loud (refine (keep_nil _ _).mono ?_; rintro e w7 ⟨rfl, hb7⟩; have HB7 := Lib.hid (below_step HB6.out hb7); have HC7 := Lib.hid (below_step HC6.out hb7); clear hb7))
      | (go_at_call 26; go_loud (refine (refs_nil _ _).mono ?_; rintro e w6 ⟨rfl, hb6⟩; have HB6 := Lib.hid (below_step (below_step HB4.out (by repeat (first | (with_reducible first | exact Below.refl _ _ | apply below_alloc | apply pw_below_drewN | apply below_drew1)))) hb6); have HC6 := Lib.hid (below_step (below_step HC4.out (by repeat (first | (with_reducible first | exact Below.refl _ _ | apply below_alloc | apply pw_below_drewN | apply below_drew1)))) hb6); clear hb6))
      | (go_at_call 25; go_loud (refine (room_nil _).mono ?_; rintro e w5 ⟨rfl, rfl⟩))
      | (go_at_call 22; go_loud (refine (live_AR _ HA10.out).mono ?_; rintro e w11 ⟨rfl, rfl⟩))
      | (go_at_call 22; go_loud (refine (live_nil _).mono ?_; rintro e w5 ⟨rfl, rfl⟩))
      | (go_at_call 24; go_loud (refine (get_nil _ _).mono ?_; rintro e w4 ⟨rfl, hb4⟩; have HB4 := Lib.hid (below_step HB3.out hb4); have HC4 := Lib.hid (below_step HC3.out hb4); clear hb4))
      | (go_at_call 21; go_loud (refine (makea_AR (Q := fun j => w9.heap.size ≤ j) 0 0 0 (.slice none 0 0) (.slice (some ⟨w9.heap.size, 0, none⟩) 2 2) [0, x1] _ (HA9.out.below (by repeat (first | (with_reducible first | exact Below.refl _ _ | apply below_alloc | apply pw_below_drewN | apply below_drew1)))) ⟨_, _, _, rfl⟩ (row_lit w9 [0, x1] #[.int .i64 0, .int .i64 x1] rfl (by simp)) (by simp) (by rw [bad2]; exact hx1)).mono ?_; rintro e w10 ⟨rfl, hb10⟩; have HA10 := Lib.hid ((HA9.out.below (by repeat (first | (with_reducible first | exact Below.refl _ _ | apply below_alloc | apply pw_below_drewN | apply below_drew1)))).below hb10); have HB10 := Lib.hid (below_step (below_step HB9.out (by repeat (first | (with_reducible first | exact Below.refl _ _ | apply below_alloc | apply pw_below_drewN | apply below_drew1)))) hb10); clear hb10))
      | (go_at_call 21; go_loud (refine (make_nil _ _ _ _ _ _ ⟨_, _, _, rfl⟩ ⟨_, _, _, rfl⟩).mono ?_; rintro e w3 ⟨rfl, hb3⟩; have HB3 := Lib.hid (below_step HB2.out hb3); have HC3 := Lib.hid (below_step HC2.out hb3); clear hb3))
      | (go_at_call 20; go_loud (refine (new_AR x0 _ h1 h2).mono ?_; rintro e w2 ⟨a, O, rfl, h0, ho0, hb2⟩; have HO := Lib.hid ho0; have HA := Lib.hid h0; clear h0 ho0; have HB2 := Lib.hid (below_step HB1.out hb2); have HC2 := Lib.hid (Below.refl w2.heap.size w2); clear hb2))
      | (go_at_call 19; go_loud (refine (lives_calls _).mono ?_; rintro e w1 ⟨rfl, hb1⟩; have HB1 := Lib.hid hb1; clear hb1)))
    go_ret
    exact ⟨rfl, HB10.out⟩
theorem walk (x0 : Int) (x1 : Int) (W : World) (p0 : (IntKind.i64.min ≤ x0 ∧ x0 ≤ IntKind.i64.max)) (p1 : (IntKind.i64.min ≤ x1 ∧ x1 ≤ IntKind.i64.max)) :
    Calls Try.prog 5 #[.int .i64 x0, .int .i64 x1] W fun e W' => e = .returned (.bool true) ∧ Below W.heap.size W W' := by
  by_cases h : 1 ≤ x0 ∧ x0 ≤ 1048576
  · exact ok_walk x0 x1 W h.1 h.2
  · exact bad_walk x0 x1 W h
end Go.Proofs.Ytnipbfhfaefieaa.ArAr
/-! pvec: one leaf becomes a trunk of two. -/
namespace Go.Proofs.Ytnipbfhfaefieaa.Pv
open Go.RowKit Go Go.Proofs.YtnipbfhfaefieaaW.PrintWords Go.Proofs.YtnipbfhfaefieaaW.PrintMore Go.Proofs.YtnipbfhfaefieaaW.PrintLast Go.Proofs.Ytnipbfhfaefieaa.Bts Go.Proofs.Ytnipbfhfaefieaa.Fra Go.Proofs.Ytnipbfhfaefieaa.ArnP Go.Proofs.Ytnipbfhfaefieaa.Arn Go.Proofs.Ytnipbfhfaefieaa.Ao
theorem kc_two (k lf : Nat) (hk : 0 < k) (hl : 0 < lf) : kc [(k : Int), (lf : Int)] = fun x => one lf x + one k x := by
  funext x
  rw [kc_cons k _ hk, kc_cons lf _ hl]
  show 0 + one lf x + one k x = _
  omega
set_option maxHeartbeats 1000000 in
set_option maxRecDepth 100000 in
theorem grow1_calls {O : Nat → Prop} {a : Nat} {f : Nat → Cell} {live most : Int} {rest : Nat → Nat} {op : Nat → Bool} (o : Int) (k lf : Nat) (w : World) (h : AO w O a f live most (fun z => rest z + one lf z + one k z) op) (hk : 0 < k) (hro : ∀ z, op z = true → 1 ≤ rest z) (hlf : 0 < lf) (hlm : live < most) :
    Calls Try.prog 80 #[workV a o, .int .i64 k, .int .i64 1, .int .i64 lf] w fun e w' => ∃ (i : Nat) (O' : Nat → Prop), e = .returned (.int .i64 i) ∧ AO w' O' a (upd f i ⟨o, 0, 0, [], [(k : Int), (lf : Int)], 1⟩) (live + 1) most (fun z => rest z + one i z) op ∧ 0 < i ∧ op i = false ∧ KeepR (fun z => rest z + one lf z + one k z) op f (upd f i ⟨o, 0, 0, [], [(k : Int), (lf : Int)], 1⟩) ∧ (∀ j, O' j → O j ∨ w.heap.size ≤ j) ∧ Fr O w w' := by
  have hkr : ∀ i, 0 < i → (f i).r = 0 → op i = false → KeepR (fun z => rest z + one lf z + one k z) op f (upd f i ⟨o, 0, 0, [], [(k : Int), (lf : Int)], 1⟩) := fun i h0 hr hoi => keepR_upd h i _ (fun hl => by have := hl.2.1; omega) (.inl hoi) (fun j h0 hj => h.ext_lv h0 hj)
  have e1 : (fun z => rest z + one lf z + one k z) = fun z => rest z + kc [(k : Int), (lf : Int)] z := by
    funext z
    rw [kc_two k lf hk hlf]
    show _ = rest z + (_ + _)
    omega
  have hkr2 := Lib.hid hkr
  clear hkr
  rw [e1] at h
  have hlt := h.lt
  have hbx := below_alloc (Below.refl w.heap.size w) (.cells #[.pointer (some ⟨a, 0, none⟩), .int .u32 o] 133)
  have hW : WorkB _ w.heap.size a o := blk_new w (.cells #[.pointer (some ⟨a, 0, none⟩), .int .u32 o] 133)
  have hl1 : lev 1 = 0 := rfl
  have hl2 : lev 2 = 1 := rfl
  have c1 : ∀ w, Calls Try.prog 62 #[.int .i64 1] w fun e w' => e = .returned (.int .i64 0) ∧ w' = w := fun w => by
    have := levels_calls 1 (by decide) w
    rw [hl1] at this
    exact this
  have c2 : ∀ w, Calls Try.prog 62 #[.int .i64 2] w fun e w' => e = .returned (.int .i64 1) ∧ w' = w := fun w => by
    have := levels_calls 2 (by decide) w
    rw [hl2] at this
    exact this
  clear hl1 hl2
  obtain ⟨V, hV⟩ : ∃ V, (w.alloc (.cells #[.pointer (some ⟨a, 0, none⟩), .int .u32 o] 133)).drew = V := ⟨_, rfl⟩
  have hd : Below (w.alloc (.cells #[.pointer (some ⟨a, 0, none⟩), .int .u32 o] 133)).heap.size (w.alloc (.cells #[.pointer (some ⟨a, 0, none⟩), .int .u32 o] 133)) V := by rw [← hV]; exact below_drew1 (Below.refl _ _)
  have hWd := blk_below hW hd
  have hbV : Below w.heap.size w V := hbx.trans (hd.mono (by simp))
  have LV := Lib.hid (show ∀ x y : Int, ((x = 1 ∧ y = 0) ∨ (x = 2 ∧ y = 1)) → ∀ w, Calls Try.prog 62 #[.int .i64 x] w fun e w' => e = .returned (.int .i64 y) ∧ w' = w from fun x y hx w => by
    rcases hx with ⟨rfl, rfl⟩ | ⟨rfl, rfl⟩
    · exact c1 w
    · exact c2 w)
  have q0 := blk_cell hWd 0
  have q1 := blk_cell hWd 1
  have HA := Lib.hid (h.below hbV)
  have HB := Lib.hid hbV
  have HW := Lib.hid hWd
  have HLT := Lib.hid hlt
  clear h hbx hW hd hWd hbV hlt e1 c1 c2
  go_enter Try.func80, Try.ntmps80
  go_wp2_with (go_at_call 62; refine (LV.out _ _ (by first | exact .inl ⟨rfl, rfl⟩ | exact .inr ⟨rfl, rfl⟩) _).mono ?_; rintro e w4 ⟨rfl, hw4⟩; subst w4)
  refine start_ (n := 10) (S := fun w' => w'.cell? ⟨w.heap.size, 0, none⟩ = some (.pointer (some ⟨a, 0, none⟩)) ∧ w'.cell? ⟨w.heap.size, 1, none⟩ = some (.int .u32 o)) (ds := [8]) #[false, false, false, false, false, false, false, false, false, false] (by kernel_rfl) rfl rfl ⟨(by rw [hV]; exact q0), (by rw [hV]; exact q1)⟩ (fun hHeld => ?_)
  refine pure_ (i := 1) (N := some 21) (v := ?_) (a' := ?_) #[false, true, false, false, false, false, false, false, false, false] rfl rfl (by kernel_rfl) (fun _ _ _ h => h) (Or.inl ⟨by rfl, ?_⟩) ?_ ?_
  rotate_left
  · intro w'
    go_simp
    with_reducible rfl
  rotate_left
  · simp only [Act.put, List.setIfInBounds_toArray, List.set_cons_zero, List.set_cons_succ, i64_w, i32_w]
    rfl
  refine pure_ (i := 3) (N := some 23) (v := ?_) (a' := ?_) #[false, true, false, true, false, false, false, false, false, false] rfl rfl (by kernel_rfl) (fun _ _ _ h => h) (Or.inl ⟨by rfl, ?_⟩) ?_ ?_
  rotate_left
  · intro w'
    go_simp
    with_reducible rfl
  rotate_left
  · simp only [Act.put, List.setIfInBounds_toArray, List.set_cons_zero, List.set_cons_succ, i64_w, i32_w]
    rfl
  refine pure_ (i := 4) (N := some 24) (v := ?_) (a' := ?_) #[false, true, false, true, true, false, false, false, false, false] rfl rfl (by kernel_rfl) (fun _ _ _ h => h) (Or.inl ⟨by rfl, ?_⟩) ?_ ?_
  rotate_left
  · intro w'
    go_simp
    with_reducible rfl
  rotate_left
  · simp only [Act.put, List.setIfInBounds_toArray, List.set_cons_zero, List.set_cons_succ, i64_w, i32_w]
    rfl
  refine take_ (i := 0) (N := some 20) (v := ?_) (a' := ?_) #[true, true, false, true, true, false, false, false, false, false] rfl rfl (by kernel_rfl) (fun _ _ _ h => h) (Or.inl ⟨by rfl, ?_⟩) hHeld ?_ ?_
  rotate_left
  · rintro w' ⟨s0, s1⟩
    go_simp
    with_reducible rfl
  rotate_left
  · simp only [Act.put, List.setIfInBounds_toArray, List.set_cons_zero, List.set_cons_succ, i64_w, i32_w]
    rfl
  refine take_ (i := 2) (N := some 22) (v := ?_) (a' := ?_) #[true, true, true, true, true, false, false, false, false, false] rfl rfl (by kernel_rfl) (fun _ _ _ h => h) (Or.inl ⟨by rfl, ?_⟩) hHeld ?_ ?_
  rotate_left
  · rintro w' ⟨s0, s1⟩
    go_simp
    with_reducible rfl
  rotate_left
  · simp only [Act.put, List.setIfInBounds_toArray, List.set_cons_zero, List.set_cons_succ, i64_w, i32_w]
    rfl
  refine one_ (i := 5) (N := some 25) #[true, true, true, true, true, true, false, false, false, false] rfl rfl (by kernel_rfl) (by decide) (fun K hK => ?_)
  refine goes_ Try.func96 (by kernel_rfl) rfl #[workV a o, .int .i64 0, .int .i64 lf] (by rfl) rfl rfl (by simp only [List.map_toArray, List.map_cons, List.map_nil]; rfl) ?_
  with_reducible refine (path0_calls a o lf _).mono ?_
  rintro e w5 ⟨rfl, hB5⟩
  refine ⟨_, rfl, ?_⟩
  have hB5 : Below V.heap.size V w5 := hV ▸ hB5
  have HB5 := Lib.hid hB5
  have hbw := HB.out.trans (hB5.mono HB.out.size)
  have hbl := below_alloc hbw (.cells #[.int .i64 (k : Int), .int .i64 (lf : Int)] 3)
  have HBL := Lib.hid hbl
  have hA6 := HA.out.below (below_alloc hB5 (.cells #[.int .i64 (k : Int), .int .i64 (lf : Int)] 3))
  have HA6 := Lib.hid hA6
  have hs5 := hbw.size
  have hrow : RowIn (Kd.int .i64) (w5.alloc (.cells #[.int .i64 (k : Int), .int .i64 (lf : Int)] 3)) (fun j => w5.heap.size ≤ j) (.slice (some ⟨w5.heap.size, 0, none⟩) 2 2) [(k : Int), (lf : Int)] := ArAr.row_lit w5 [(k : Int), (lf : Int)] #[.int .i64 k, .int .i64 lf] rfl (by simp)
  have hrn : RowIn kVal (w5.alloc (.cells #[.int .i64 (k : Int), .int .i64 (lf : Int)] 3)) (fun j => w5.heap.size ≤ j) (.slice none 0 0) [] := row_none _ _ _
  clear hbw hbl hA6
  refine hK.out _ _ ⟨(blk_cell (blk_below HW.out HB5.out) 0), (blk_cell (blk_below HW.out HB5.out) 1)⟩ (fun hHeld => ?_)
  clear hK K
  refine norm_ (a' := ?_) ?_ ?_
  rotate_left
  · show Act.put _ (some 25) _ = _
    simp only [Act.put, List.setIfInBounds_toArray, List.set_cons_zero, List.set_cons_succ, i64_w, i32_w]
    rfl
  refine one_ (i := 6) (N := some 26) #[true, true, true, true, true, true, true, false, false, false] rfl rfl (by kernel_rfl) (by decide) (fun K hK => ?_)
  refine value_ (w1 := ?_) (v := ?_) (by rfl) rfl ?_ ?_
  rotate_left 2
  · go_simp
    constructor
    · rfl
    · rfl
  refine hK.out _ _ ⟨(pw_cell_below (below_alloc (Below.refl w5.heap.size w5) _) (blk_cell (blk_below HW.out HB5.out) 0)), (pw_cell_below (below_alloc (Below.refl w5.heap.size w5) _) (blk_cell (blk_below HW.out HB5.out) 1))⟩ (fun hHeld => ?_)
  clear hK K
  refine norm_ (a' := ?_) ?_ ?_
  rotate_left
  · show Act.put _ (some 26) _ = _
    simp only [Act.put, List.setIfInBounds_toArray, List.set_cons_zero, List.set_cons_succ, i64_w, i32_w]
    rfl
  refine pure_ (i := 7) (N := some 27) (v := ?_) (a' := ?_) #[true, true, true, true, true, true, true, true, false, false] rfl rfl (by kernel_rfl) (fun _ _ _ h => h) (Or.inl ⟨by rfl, ?_⟩) ?_ ?_
  rotate_left
  · intro w'
    go_simp
    with_reducible rfl
  rotate_left
  · simp only [Act.put, List.setIfInBounds_toArray, List.set_cons_zero, List.set_cons_succ, i64_w, i32_w]
    rfl
  refine last_ (i := 8) (N := some 28) #[true, true, true, true, true, true, true, true, true, false] rfl rfl (by kernel_rfl) (by decide) (fun K hK => ?_)
  refine goes_ Try.func82 (by kernel_rfl) rfl #[workV a o, cellV 0 0 0 (.slice none 0 0) (.slice (some ⟨w5.heap.size, 0, none⟩) 2 2), .nilFunc] (by rfl) rfl rfl (by simp only [List.map_toArray, List.map_cons, List.map_nil]; rfl) ?_
  with_reducible refine (make_nil (Q := fun j => w5.heap.size ≤ j) o 0 0 0 (.slice none 0 0) (.slice (some ⟨w5.heap.size, 0, none⟩) 2 2) [] [(k : Int), (lf : Int)] _ HA6.out hrn hrow (fun j hj hj2 => by have := HLT.out j hj2; omega) (by intro z hz; simp at hz; omega) hlm (by simp) (by simp) hro).mono ?_
  rintro e w7 ⟨i, O', rfl, hA7, h0, hr, hoi, hK7, hO7, hF7⟩
  refine ⟨_, rfl, ?_⟩
  have HA7 := Lib.hid hA7
  have HF7 := Lib.hid hF7
  clear hA7 hF7
  refine hK.out _ _ ?_
  clear hK K
  refine norm_ (a' := ?_) ?_ ?_
  rotate_left
  · show Act.put _ (some 28) _ = _
    simp only [Act.put, List.setIfInBounds_toArray, List.set_cons_zero, List.set_cons_succ, i64_w, i32_w]
    rfl
  refine pure_ (i := 9) (N := some 8) (v := ?_) (a' := ?_) #[true, true, true, true, true, true, true, true, true, true] rfl rfl (by kernel_rfl) (fun _ _ _ h => h) (Or.inl ⟨by rfl, ?_⟩) ?_ ?_
  rotate_left
  · intro w'
    go_simp
    with_reducible rfl
  rotate_left
  · simp only [Act.put, List.setIfInBounds_toArray, List.set_cons_zero, List.set_cons_succ, i64_w, i32_w]
    rfl
  refine done_ (by kernel_rfl) ?_

  go_wp2
  go_ret
  have hs := HBL.out.size
  exact ⟨i, O', rfl, HA7.out, h0, hoi, hkr2.out i h0 hr hoi, fun j hj => (hO7 j hj).imp id (fun q => by omega), (Fr.of_new HBL.out).trans HF7.out⟩
end Go.Proofs.Ytnipbfhfaefieaa.Pv
/-! arena: who is live is led to from a caller's hold; so the live ones can be counted. -/
namespace Go.Proofs.Ytnipbfhfaefieaa.Ao
open Go.RowKit Go Go.Proofs.YtnipbfhfaefieaaW.PrintWords Go.Proofs.YtnipbfhfaefieaaW.PrintMore Go.Proofs.YtnipbfhfaefieaaW.PrintLast Go.Proofs.Ytnipbfhfaefieaa.Bts Go.Proofs.Ytnipbfhfaefieaa.Fra Go.Proofs.Ytnipbfhfaefieaa.ArnP Go.Proofs.Ytnipbfhfaefieaa.Arn
theorem sm_pos {f : Nat → Nat} : ∀ n, 0 < sm f n → ∃ y, y < n ∧ 0 < f y
  | 0, h => absurd h (Nat.lt_irrefl 0)
  | n + 1, h => by
    by_cases e : 0 < f n
    · exact ⟨n, by omega, e⟩
    · have h1 : 0 < sm f n + f n := h
      obtain ⟨y, q1, q2⟩ := sm_pos (f := f) n (by omega)
      exact ⟨y, by omega, q2⟩
theorem nodup_le : ∀ (l m : List Nat), l.Nodup → (∀ x ∈ l, x ∈ m) → l.length ≤ m.length
  | [], _, _, _ => Nat.zero_le _
  | x :: l, m, hn, hs => by
    have hx := hs x (by simp)
    obtain ⟨h1, h2⟩ := List.nodup_cons.1 hn
    have := nodup_le l (m.erase x) h2 (fun y hy => (List.mem_erase_of_ne (fun e => by rw [e] at hy; exact h1 hy)).2 (hs y (by simp [hy])))
    have h3 := List.length_erase_of_mem hx
    have h4 := List.length_pos_of_mem hx
    simp only [List.length_cons]
    omega
section
variable {W W' : World} {O O' : Nat → Prop} {a : Nat} {cl : List Cell} {fr : List Int} {f f' : Nat → Cell} {live live' most most' : Int} {ext : Nat → Nat} {op : Nat → Bool}
theorem AL.holder (h : AL W O a cl fr live most ext op) {i : Nat} (h0 : 0 < i) (hr : 0 < (fn cl i).r) : 0 < ext i ∨ ∃ y, Lv (fn cl) op y ∧ i ∈ kidsOf (fn cl y).kids := by
  have hc := fn_live hr
  have h1 := h.acc i _ h0 hc
  by_cases e : 0 < ext i
  · exact .inl e
  · obtain ⟨y, hy, hp⟩ := sm_pos _ (show 0 < held (gOf (mask op cl)) cl.length i by omega)
    have hp2 : 0 < (gOf (mask op cl)).refs y := Classical.byContradiction fun q => by rw [if_neg q] at hp; omega
    rw [if_pos hp2] at hp
    obtain ⟨d, hd⟩ : ∃ d, cl[y]? = some d := ⟨cl[y], List.getElem?_eq_getElem hy⟩
    have hm := mask_at (op := op) hd
    rw [gOf_kids hm] at hp
    rw [gOf_refs hm, opn_r] at hp2
    have hy2 : op y = false := by
      cases q : op y
      · rfl
      · unfold opn at hp
        rw [q] at hp
        exact absurd hp (Nat.lt_irrefl 0)
    rw [opn_no hy2] at hp
    have hyp : 0 < y := by
      rcases Nat.eq_zero_or_pos y with rfl | q
      · have hz := h.wf.z
        rw [hm, opn_no hy2] at hz
        rw [Option.some.inj hz] at hp2
        exact absurd hp2 (by decide)
      · exact q
    rw [← fn_at hd] at hp hp2
    exact .inr ⟨y, ⟨hyp, by omega, hy2⟩, List.count_pos_iff.1 hp⟩
/-- What holds for all that callers hold, and goes on to whom one holds, holds for all that are live. -/
theorem AO.reach (h : AO W O a f live most ext op) (P : Nat → Prop) (h1 : ∀ j, 0 < j → 0 < ext j → P j) (h2 : ∀ j, Lv f op j → P j → ∀ x ∈ kidsOf (f j).kids, P x) : ∀ j, 0 < j → 0 < (f j).r → P j := by
  obtain ⟨cl, fr, rfl, h⟩ := h
  obtain ⟨rank, hrk⟩ := h.ac
  have key : ∀ d j, 0 < j → 0 < (fn cl j).r → ((List.range cl.length).map rank).sum < rank j + d → P j := by
    intro d
    induction d with
    | zero =>
      intro j h0 hr hd
      have hj := (List.getElem?_eq_some_iff.1 (fn_live hr)).1
      have := le_sum_map rank (List.range cl.length) j (by simpa using hj)
      omega
    | succ d ih =>
      intro j h0 hr hd
      rcases h.holder h0 hr with e | ⟨y, hy, hx⟩
      · exact h1 j h0 e
      · have := hrk y hy.2.1 hy.2.2 j hx
        exact h2 y hy (ih y hy.1 hy.2.1 (by omega)) j hx
  intro j h0 hr
  exact key (((List.range cl.length).map rank).sum + 1) j h0 hr (by omega)
theorem countP_range (cl : List Cell) : ∀ n, n ≤ cl.length → (cl.take n).countP (fun c => decide (0 < c.r)) = ((List.range n).filter fun i => decide (0 < (fn cl i).r)).length
  | 0, _ => by simp
  | n + 1, h => by
    have hn : n < cl.length := h
    rw [List.take_succ_eq_append_getElem hn, List.countP_append, countP_range cl n (by omega), List.range_succ, List.filter_append, List.length_append]
    congr 1
    have e2 : fn cl n = cl[n] := fn_at (List.getElem?_eq_getElem hn)
    by_cases e : 0 < (cl[n]).r
    · simp [e, e2]
    · simp [e, e2]
/-- All that are live, in a list. -/
theorem AO.all (h : AO W O a f live most ext op) : ∃ l : List Nat, l.Nodup ∧ (∀ j, j ∈ l ↔ 0 < j ∧ 0 < (f j).r) ∧ live = (l.length : Int) := by
  obtain ⟨cl, fr, rfl, h⟩ := h
  have hz : (fn cl 0).r = 0 := by
    have := h.wf.z
    rw [mask_get] at this
    obtain ⟨c, q1, q2⟩ := Option.map_eq_some_iff.1 this
    have q3 := congrArg Cell.r q2
    rw [opn_r] at q3
    rw [fn_at q1, q3]
    rfl
  refine ⟨(List.range cl.length).filter fun i => decide (0 < (fn cl i).r), List.nodup_range.filter _, fun j => ?_, ?_⟩
  · rw [List.mem_filter]
    constructor
    · intro hj
      have hr : 0 < (fn cl j).r := by simpa using hj.2
      refine ⟨Nat.pos_of_ne_zero fun e => ?_, hr⟩
      rw [e, hz] at hr
      exact absurd hr (by decide)
    · intro hj
      exact ⟨by simpa using (List.getElem?_eq_some_iff.1 (fn_live hj.2)).1, by simpa using hj.2⟩
  · rw [h.wf.lv, ← countP_range cl cl.length (Nat.le_refl _), List.take_length]
    unfold liveN
    have : ∀ l : List Cell, ∀ g : Nat → Cell → Cell, (∀ i c, (g i c).r = c.r) → (l.mapIdx g).countP (fun c => decide (0 < c.r)) = l.countP (fun c => decide (0 < c.r)) := by
      intro l
      induction l with
      | nil => intros; rfl
      | cons c l ih =>
        intro g hg
        rw [List.mapIdx_cons, List.countP_cons, List.countP_cons, hg, ih _ (fun i c => hg (i + 1) c)]
    have h3 := this cl (opn op) (fun i c => opn_r op i c)
    unfold mask
    first | exact congrArg Int.ofNat h3 | (rw [h3]) | (simpa using h3)
theorem AO.live_le (h : AO W O a f live most ext op) (l : List Nat) (hl : ∀ j, 0 < j → 0 < (f j).r → j ∈ l) : live ≤ (l.length : Int) := by
  obtain ⟨m, h1, h2, rfl⟩ := h.all
  have := nodup_le m l h1 (fun x hx => hl x ((h2 x).1 hx).1 ((h2 x).1 hx).2)
  omega
theorem AO.live_mono {ext' : Nat → Nat} {op' : Nat → Bool} {a' : Nat} (h : AO W O a f live most ext op) (h' : AO W' O' a' f' live' most' ext' op') (hs : ∀ j, 0 < j → 0 < (f j).r → 0 < (f' j).r) : live ≤ live' := by
  obtain ⟨m, h1, h2, rfl⟩ := h'.all
  exact h.live_le m (fun j h0 hr => (h2 j).2 ⟨h0, hs j h0 hr⟩)
/-- All let go: none is live. -/
theorem AO.none_live (h : AO W O a f live most ext op) (he : ∀ j, 0 < j → ext j = 0) : live = 0 := by
  have h1 := h.live_le [] (fun j h0 hr => (h.reach (fun _ => False) (fun j h0 hj => by have := he j h0; omega) (fun _ _ q => q.elim) j h0 hr).elim)
  have h2 := h.room.1
  have : (([] : List Nat).length : Int) = 0 := rfl
  omega
theorem live_same {a' : Nat} (h : AO W O a f live most ext (fun _ => false)) (h' : AO W' O' a' f' live' most' ext (fun _ => false)) (hk : ∀ j, 0 < j → 0 < ext j → Same f f' j) : live = live' := by
  have h1 := h.live_mono h' (fun j h0 hr => (h.reach (fun j => Same f f' j ∧ 0 < (f' j).r) (fun j h0 he => ⟨hk j h0 he, h'.ext_lv h0 he⟩) (fun j hj q x hx => ⟨q.1.kid hx, (h'.lv_kid ⟨hj.1, q.2, rfl⟩ (by rw [q.1.at_]; exact hx)).1.2.1⟩) j h0 hr).2)
  have h2 := h'.live_mono h (fun j h0 hr => (h'.reach (fun j => Same f f' j ∧ 0 < (f j).r) (fun j h0 he => ⟨hk j h0 he, h.ext_lv h0 he⟩) (fun j hj q x hx => by
    rw [q.1.at_] at hx
    exact ⟨q.1.kid hx, (h.lv_kid ⟨hj.1, q.2, rfl⟩ hx).1.2.1⟩) j h0 hr).2)
  omega
end
end Go.Proofs.Ytnipbfhfaefieaa.Ao
/-! pvec: a vector's cells; its cells are held once more, and let go. -/
namespace Go.Proofs.Ytnipbfhfaefieaa.Pv
open Go.RowKit Go Go.Proofs.YtnipbfhfaefieaaW.PrintWords Go.Proofs.YtnipbfhfaefieaaW.PrintMore Go.Proofs.YtnipbfhfaefieaaW.PrintLast Go.Proofs.Ytnipbfhfaefieaa.Bts Go.Proofs.Ytnipbfhfaefieaa.Fra Go.Proofs.Ytnipbfhfaefieaa.ArnP Go.Proofs.Ytnipbfhfaefieaa.Arn Go.Proofs.Ytnipbfhfaefieaa.Ao
abbrev nop : Nat → Bool := fun _ => false
abbrev V3 := Int × Int × ByteArray
/-- A hold on a cell, if there is one. -/
def hold (i : Nat) : Nat → Nat := fun x => if i = 0 then 0 else one i x
theorem hold_zero : hold 0 = fun _ => 0 := rfl
theorem hold_pos {i : Nat} (h : 0 < i) : hold i = one i := by funext x; unfold hold; rw [if_neg (by omega)]
theorem hold_le (i x : Nat) : hold i x ≤ 1 := by unfold hold one; split <;> (try split) <;> omega
def vx (r t : Nat) : Nat → Nat := fun x => hold r x + hold t x
def Leaf (f : Nat → Cell) (k : Nat) (vals : List V3) : Prop := 0 < k ∧ (f k).vals = vals ∧ (f k).kids = []
/-- A trunk of m leaves, which have the values g. -/
def Trunk (f : Nat → Cell) (m r : Nat) (g : Nat → List V3) : Prop := (m = 0 ∧ r = 0) ∨ (m = 1 ∧ Leaf f r (g 0)) ∨ (2 ≤ m ∧ 0 < r ∧ (f r).vals = [] ∧ (f r).kids.length = m ∧ ∀ (j : Nat) (z : Int), (f r).kids[j]? = some z → ∃ k : Nat, z = k ∧ Leaf f k (g j))
def leafs (l : List V3) (j : Nat) : List V3 := (l.drop (32 * j)).take 32
def VRep (f : Nat → Cell) (n r t : Nat) (l : List V3) : Prop := n = l.length ∧ n ≤ 1024 ∧ ((n = 0 ∧ r = 0 ∧ t = 0) ∨ (0 < n ∧ Leaf f t (l.drop (32 * lvs n)) ∧ Trunk f (lvs n) r (leafs l)))
theorem Leaf.same {f f' : Nat → Cell} {k : Nat} {v : List V3} (h : Leaf f k v) (hs : Same f f' k) : Leaf f' k v := by
  obtain ⟨h0, h1, h2⟩ := h
  refine ⟨h0, ?_, ?_⟩
  · rw [hs.at_]; exact h1
  · rw [hs.at_]; exact h2
theorem kid_mem {l : List Int} {j k : Nat} (h : l[j]? = some (k : Int)) (hk : 0 < k) : k ∈ kidsOf l := by
  have := mem_kidsOf (List.mem_of_getElem? h) (by omega)
  rwa [Int.toNat_natCast] at this
theorem Trunk.same {f f' : Nat → Cell} {m r : Nat} {g : Nat → List V3} (h : Trunk f m r g) (hs : 0 < r → Same f f' r) : Trunk f' m r g := by
  rcases h with h | ⟨h1, h2⟩ | ⟨h1, h2, h3, h4, h5⟩
  · exact .inl h
  · exact .inr (.inl ⟨h1, h2.same (hs h2.1)⟩)
  · have hs := hs h2
    refine .inr (.inr ⟨h1, h2, ?_, ?_, fun j z hz => ?_⟩)
    · rw [hs.at_]; exact h3
    · rw [hs.at_]; exact h4
    · rw [hs.at_] at hz
      obtain ⟨k, rfl, hk⟩ := h5 j z hz
      exact ⟨k, rfl, hk.same (hs.kid (kid_mem hz hk.1))⟩
theorem Trunk.congr {f : Nat → Cell} {m r : Nat} {g g' : Nat → List V3} (h : Trunk f m r g) (hg : ∀ j, j < m → g j = g' j) : Trunk f m r g' := by
  rcases h with h | ⟨rfl, h2⟩ | ⟨h1, h2, h3, h4, h5⟩
  · exact .inl h
  · exact .inr (.inl ⟨rfl, by rw [← hg 0 (by omega)]; exact h2⟩)
  · refine .inr (.inr ⟨h1, h2, h3, h4, fun j z hz => ?_⟩)
    obtain ⟨k, rfl, hk⟩ := h5 j z hz
    have hj := (List.getElem?_eq_some_iff.1 hz).1
    exact ⟨k, rfl, by rw [← hg j (by omega)]; exact hk⟩
theorem VRep.same {f f' : Nat → Cell} {n r t : Nat} {l : List V3} (h : VRep f n r t l) (hs : ∀ j, 0 < j → 0 < vx r t j → Same f f' j) : VRep f' n r t l := by
  obtain ⟨h1, h2, h3⟩ := h
  refine ⟨h1, h2, ?_⟩
  rcases h3 with h3 | ⟨h3, h4, h5⟩
  · exact .inl h3
  · refine .inr ⟨h3, h4.same (hs t h4.1 ?_), h5.same fun hr => hs r hr ?_⟩
    · unfold vx
      rw [hold_pos h4.1]
      have : one t t = 1 := if_pos rfl
      omega
    · unfold vx
      rw [hold_pos hr]
      have : one r r = 1 := if_pos rfl
      omega
theorem vx_r {r t : Nat} (h : 0 < r) : 0 < vx r t r := by
  unfold vx
  rw [hold_pos h]
  have : one r r = 1 := if_pos rfl
  omega
theorem vx_t {r t : Nat} (h : 0 < t) : 0 < vx r t t := by
  unfold vx
  rw [hold_pos h]
  have : one t t = 1 := if_pos rfl
  omega
section
variable {O : Nat → Prop} {a : Nat} {f : Nat → Cell} {live most : Int} {ext rest : Nat → Nat}
/-- Keep of a cell, or of none. -/
theorem keepz (i : Nat) (w : World) (h : AO w O a f live most ext nop) (hi : i = 0 ∨ 0 < (f i).r) (he : ext i < 100000000000) :
    Calls Try.prog 27 #[.pointer (some ⟨a, 0, none⟩), .int .i64 i] w fun e w' => ∃ c : Int, e = .returned (.int .i64 c) ∧ ∃ f', AO w' O a f' live most (fun x => ext x + hold i x) nop ∧ OnlyR f f' ∧ (∀ x, (f x).r ≤ (f' x).r) ∧ Fr O w w' := by
  rcases Nat.eq_zero_or_pos i with rfl | h0
  · refine (keepn_AO ((0 : Nat) : Int) w h rfl).mono ?_
    rintro e w' ⟨rfl, hB⟩
    exact ⟨4, rfl, f, h.below hB, OnlyR.refl f, fun _ => Int.le_refl _, Fr.of_new hB⟩
  · have hr : 0 < (f i).r := hi.resolve_left (by omega)
    refine (keep_AO i w h h0 hr rfl he).mono ?_
    rintro e w' ⟨rfl, hA, hF⟩
    have e1 : (fun x => if x = i then ext x + 1 else ext x) = fun x => ext x + hold i x := by
      funext x
      rw [hold_pos h0]
      unfold one
      split <;> rfl
    rw [e1] at hA
    refine ⟨0, rfl, _, hA, (OnlyR.refl f).upd i _, fun x => ?_, hF⟩
    by_cases q : x = i
    · subst q
      rw [upd_eq]
      show (f x).r ≤ (f x).r + 1
      omega
    · rw [upd_ne _ q]
      exact Int.le_refl _
/-- Drop of a cell, or of none. -/
theorem dropz (i : Nat) (w : World) (h : AO w O a f live most (fun x => rest x + hold i x) nop) :
    Calls Try.prog 23 #[.pointer (some ⟨a, 0, none⟩), .int .i64 i] w fun e w' => ∃ c : Int, e = .returned (.int .i64 c) ∧ ∃ O' f' live', AO w' O' a f' live' most rest nop ∧ KeepR rest nop f f' ∧ live' ≤ live ∧ (∀ j, O' j → O j ∨ w.heap.size ≤ j) ∧ Fr O w w' := by
  rcases Nat.eq_zero_or_pos i with rfl | h0
  · refine (dropn_AO ((0 : Nat) : Int) w h rfl).mono ?_
    rintro e w' ⟨rfl, hB⟩
    exact ⟨4, rfl, O, f, live, h.below hB, KeepR.refl _ _ _, Int.le_refl _, fun j hj => .inl hj, Fr.of_new hB⟩
  · have h1 : one i i = 1 := if_pos rfl
    have he : 0 < rest i + hold i i := by rw [hold_pos h0]; omega
    refine (drop_AO i w h h0 he rfl).mono ?_
    rintro e w' ⟨rfl, O', f', live', hA, hL, hll, hO, hF⟩
    have e1 : (fun x => if x = i then rest x + hold i x - 1 else rest x + hold i x) = rest := by
      funext x
      rw [hold_pos h0]
      unfold one
      split <;> omega
    rw [e1] at hA
    exact ⟨0, rfl, O', f', live', hA, keepR_drop h hA (OnlyR.refl f) hL (fun j hj hr => h.ext_lv hj (by show 0 < rest j + _; omega)) (fun _ => Nat.le_refl _), hll, hO, hF⟩
/-- Cells that are but held more often. -/
theorem same_only {f' : Nat → Cell} {w : World} (h : AO w O a f live most ext nop) (ho : OnlyR f f') : ∀ j, 0 < j → 0 < (f j).r → Same f f' j := fun j h0 hr => same_step h (fun _ => True) (fun x _ _ => ho x) (fun _ _ _ _ _ => trivial) j ⟨h0, hr, rfl⟩ trivial
theorem OnlyR.trans {f g h : Nat → Cell} (h1 : OnlyR f g) (h2 : OnlyR g h) : OnlyR f h := fun x => by
  have e1 := h1 x
  have e2 := h2 x
  rw [e2]
  generalize (h x).r = n at *
  rw [e1]
set_option maxHeartbeats 1000000 in
set_option maxRecDepth 100000 in
theorem vkeep_calls (n : Int) (r t : Nat) (w : World) (h : AO w O a f live most ext nop) (hr : r = 0 ∨ 0 < (f r).r) (ht : t = 0 ∨ 0 < (f t).r) (he : ∀ x, ext x ≤ 90000000000) :
    Calls Try.prog 53 #[.pointer (some ⟨a, 0, none⟩), vecV n r t] w fun e w' => e = .returned (.tuple #[]) ∧ ∃ f', AO w' O a f' live most (fun x => ext x + vx r t x) nop ∧ OnlyR f f' ∧ (∀ x, (f x).r ≤ (f' x).r) ∧ Fr O w w' := by
  have hlt := h.lt
  have hb0 := below_alloc (Below.refl w.heap.size w) (.cells #[.int .i64 n, .int .i64 r, .int .i64 t] 61)
  have hbk := blk_new w (.cells #[.int .i64 n, .int .i64 r, .int .i64 t] 61)
  have hnO : ¬ O w.heap.size := fun q => by have := hlt _ q; omega
  have HA := Lib.hid (h.below hb0)
  have HB := Lib.hid hb0
  have HK := Lib.hid hbk
  clear h hb0 hbk hlt
  go_enter Try.func53, Try.ntmps53
  go_wp2_with (first
    | (go_at_call 27; refine (keepz t _ HA1.out ht1 het1).mono ?_; rintro e w2 ⟨c2, rfl, f2, hA2, hO2, hr2, hF2⟩; have HA2 := Lib.hid hA2; clear hA2)
    | (go_at_call 27; refine (keepz r _ HA.out hr (by have := he r; omega)).mono ?_; rintro e w1 ⟨c1, rfl, f1, hA1, hO1, hr1, hF1⟩; have HA1 := Lib.hid hA1; clear hA1; have hk1 := hF1.blk HK.out hnO; have q2 := blk_cell hk1 2; have ht1 : t = 0 ∨ 0 < (f1 t).r := ht.imp id (fun q => by have := hr1 t; omega); have het1 : (ext t + hold r t) < 100000000000 := (by have := he t; have := hold_le r t; omega)))
  go_end0
  refine ⟨rfl, f2, ?_, hO1.trans hO2, fun x => Int.le_trans (hr1 x) (hr2 x), (Fr.of_new HB.out).trans (hF1.trans hF2)⟩
  have e1 : (fun x => ext x + vx r t x) = fun x => ext x + hold r x + hold t x := by
    funext x
    unfold vx
    omega
  rw [e1]
  exact HA2.out
set_option maxHeartbeats 1000000 in
set_option maxRecDepth 100000 in
theorem vdrop_calls (n : Int) (r t : Nat) (w : World) (h : AO w O a f live most (fun x => rest x + vx r t x) nop) :
    Calls Try.prog 37 #[.pointer (some ⟨a, 0, none⟩), vecV n r t] w fun e w' => e = .returned (.tuple #[]) ∧ ∃ O' f' live', AO w' O' a f' live' most rest nop ∧ KeepR rest nop f f' ∧ live' ≤ live ∧ (∀ j, O' j → O j ∨ w.heap.size ≤ j) ∧ Fr O w w' := by
  have hlt := h.lt
  have e1 : (fun x => rest x + vx r t x) = fun x => (rest x + hold t x) + hold r x := by
    funext x
    unfold vx
    omega
  rw [e1] at h
  have hb0 := below_alloc (Below.refl w.heap.size w) (.cells #[.int .i64 n, .int .i64 r, .int .i64 t] 61)
  have hbk := blk_new w (.cells #[.int .i64 n, .int .i64 r, .int .i64 t] 61)
  have hnO : ¬ O w.heap.size := fun q => by have := hlt _ q; omega
  have hsz : w.heap.size ≤ (w.alloc (.cells #[.int .i64 n, .int .i64 r, .int .i64 t] 61)).heap.size := hb0.size
  have HA := Lib.hid (h.below hb0)
  have HB := Lib.hid hb0
  have HK := Lib.hid hbk
  clear h hb0 hbk hlt e1
  go_enter Try.func37, Try.ntmps37
  go_wp2_with (first
    | (go_at_call 23; refine (dropz t _ HA1.out).mono ?_; rintro e w2 ⟨c2, rfl, O2, f2, live2, hA2, hK2, hl2, hO2, hF2⟩; have HA2 := Lib.hid hA2; clear hA2)
    | (go_at_call 23; refine (dropz r _ HA.out).mono ?_; rintro e w1 ⟨c1, rfl, O1, f1, live1, hA1, hK1, hl1, hO1, hF1⟩; have HA1 := Lib.hid hA1; clear hA1; have hk1 := hF1.blk HK.out hnO; have q2 := blk_cell hk1 2))
  go_end0
  have hs1 := hF1.size
  refine ⟨rfl, O2, f2, live2, HA2.out, (hK1.mono (fun j hj => by omega)).trans hK2, by omega, fun j hj => ?_, ?_⟩
  · rcases hO2 j hj with q | q
    · exact (hO1 j q).imp id (fun q => by omega)
    · exact .inr (by omega)
  · refine (Fr.of_new HB.out).trans (hF1.then_ hF2 (fun j hj => ?_))
    exact (hO1 j hj).imp id (fun q => by first | exact q | omega)
end
end Go.Proofs.Ytnipbfhfaefieaa.Pv
/-! pvec: work is begun. -/
namespace Go.Proofs.Ytnipbfhfaefieaa.Pv
open Go.RowKit Go Go.Proofs.YtnipbfhfaefieaaW.PrintWords Go.Proofs.YtnipbfhfaefieaaW.PrintMore Go.Proofs.YtnipbfhfaefieaaW.PrintLast Go.Proofs.Ytnipbfhfaefieaa.Bts Go.Proofs.Ytnipbfhfaefieaa.Fra Go.Proofs.Ytnipbfhfaefieaa.ArnP Go.Proofs.Ytnipbfhfaefieaa.Arn Go.Proofs.Ytnipbfhfaefieaa.Ao
/-- What others hold, once work is begun: without an owner, the old vector too. -/
def RR (rest : Nat → Nat) (o : Int) (r t : Nat) : Nat → Nat := fun x => rest x + if o = 0 then vx r t x else 0
section
variable {O : Nat → Prop} {a : Nat} {f : Nat → Cell} {live most : Int} {ext rest : Nat → Nat}
set_option maxHeartbeats 2000000 in
set_option maxRecDepth 100000 in
theorem begin_calls (o : Int) (n r t : Nat) (w : World) (h : AO w O a f live most ext nop) (hn : n ≤ 1024) (hr : r = 0 ∨ 0 < (f r).r) (ht : t = 0 ∨ 0 < (f t).r) (he : ∀ x, ext x ≤ 90000000000) :
    Calls Try.prog 77 #[.pointer (some ⟨a, 0, none⟩), vecV n r t, .int .u32 o] w fun e w' => (most - live < (lev (lvs n + 1) : Int) + 3 ∧ e = .returned (.tuple #[.agg #[.pointer none, .int .u32 0], .int .i64 5]) ∧ Below w.heap.size w w') ∨
      (¬ most - live < (lev (lvs n + 1) : Int) + 3 ∧ e = .returned (.tuple #[workV a o, .int .i64 0]) ∧ ∃ f', AO w' O a f' live most (RR ext o r t) nop ∧ OnlyR f f' ∧ (∀ x, (f x).r ≤ (f' x).r) ∧ Fr O w w') := by
  have hneg : ¬ (n : Int) < 0 := by omega
  have hbig : ¬ (1024 : Int) < n := by omega
  have hlt := h.lt
  have hl32 : lvs n + 1 ≤ 32 := by unfold lvs; omega
  have hlev : lev (lvs n + 1) ≤ 1 := by unfold lev; split <;> omega
  obtain ⟨L, hL⟩ : ∃ L, lev (lvs n + 1) = L := ⟨_, rfl⟩
  rw [hL] at hlev ⊢
  have hlv : ∀ w, Calls Try.prog 62 #[.int .i64 ((lvs n : Int) + 1)] w fun e w' => e = .returned (.int .i64 (L : Int)) ∧ w' = w := fun w => by
    have := levels_calls (lvs n + 1) hl32 w
    rw [hL] at this
    exact this
  have hlc := leaves_calls n (r : Int) (t : Int) hn
  obtain ⟨m, hm⟩ : ∃ m, lvs n = m := ⟨_, rfl⟩
  rw [hm] at hlv hlc hl32
  have ew3 : wrap64 ((L : Int) + 3) = L + 3 := by unfold wrap64; omega
  have hlv : ∀ w, Calls Try.prog 62 #[.int .i64 (wrap64 ((m : Int) + 1))] w fun e w' => e = .returned (.int .i64 (L : Int)) ∧ w' = w := fun w => by
    rw [show wrap64 ((m : Int) + 1) = m + 1 by unfold wrap64; omega]
    exact hlv w
  have hbx := below_alloc (below_alloc (Below.refl w.heap.size w) (.cells #[.int .i64 n, .int .i64 r, .int .i64 t] 61)) (.cells #[.pointer none, .int .u32 0] 133)
  have hbk := blk_alloc (blk_new w (.cells #[.int .i64 n, .int .i64 r, .int .i64 t] 61)) (.cells #[.pointer none, .int .u32 0] 133)
  have hbk2 := new1 w (.cells #[.int .i64 n, .int .i64 r, .int .i64 t] 61) (.cells #[.pointer none, .int .u32 0] 133)
  obtain ⟨V, hV⟩ : ∃ V, ((w.alloc (.cells #[.int .i64 n, .int .i64 r, .int .i64 t] 61)).alloc (.cells #[.pointer none, .int .u32 0] 133)).drew = V := ⟨_, rfl⟩
  have hd : Below ((w.alloc (.cells #[.int .i64 n, .int .i64 r, .int .i64 t] 61)).alloc (.cells #[.pointer none, .int .u32 0] 133)).heap.size ((w.alloc (.cells #[.int .i64 n, .int .i64 r, .int .i64 t] 61)).alloc (.cells #[.pointer none, .int .u32 0] 133)) V := by rw [← hV]; exact below_drew1 (Below.refl _ _)
  have hbV : Below w.heap.size w V := hbx.trans (hd.mono (by simp; omega))
  have hbk := blk_below hbk hd
  have hbk2 := blk_below hbk2 hd
  have q0 := blk_cell hbk 0
  have q1 := blk_cell hbk 1
  have q2 := blk_cell hbk 2
  have HA := Lib.hid (h.below hbV)
  have HB := Lib.hid hbV
  have HK := Lib.hid hbk
  have HK2 := Lib.hid hbk2
  have HLV := Lib.hid hlv
  have HLC := Lib.hid hlc
  have HLT := Lib.hid hlt
  clear h hbx hbk hbk2 hd hbV hlv hlc hL hm hlt
  go_enter Try.func77, Try.ntmps77
  go_wp2
  refine start_ (n := 9) (S := fun w' => w'.cell? ⟨w.heap.size, 0, none⟩ = some (.int .i64 (n : Int)) ∧ w'.cell? ⟨w.heap.size, 1, none⟩ = some (.int .i64 (r : Int)) ∧ w'.cell? ⟨w.heap.size, 2, none⟩ = some (.int .i64 (t : Int))) (ds := []) #[false, false, false, false, false, false, false, false, false] (by kernel_rfl) rfl rfl ⟨(by rw [hV]; exact q0), (by rw [hV]; exact q1), (by rw [hV]; exact q2)⟩ (fun hHeld => ?_)
  refine pure_ (i := 0) (N := some 23) (v := ?_) (a' := ?_) #[true, false, false, false, false, false, false, false, false] rfl rfl (by kernel_rfl) (fun _ _ _ h => h) (Or.inl ⟨by rfl, ?_⟩) ?_ ?_
  rotate_left
  · intro w'
    go_simp
    with_reducible rfl
  rotate_left
  · simp only [Act.put, List.setIfInBounds_toArray, List.set_cons_zero, List.set_cons_succ, i64_w, i32_w]
    rfl
  refine take_ (i := 2) (N := some 25) (v := ?_) (a' := ?_) #[true, false, true, false, false, false, false, false, false] rfl rfl (by kernel_rfl) (fun _ _ _ h => h) (Or.inl ⟨by rfl, ?_⟩) hHeld ?_ ?_
  rotate_left
  · rintro w' ⟨s0, s1, s2⟩
    go_simp
    with_reducible rfl
  rotate_left
  · simp only [Act.put, List.setIfInBounds_toArray, List.set_cons_zero, List.set_cons_succ, i64_w, i32_w]
    rfl
  refine one_ (i := 1) (N := some 24) #[true, true, true, false, false, false, false, false, false] rfl rfl (by kernel_rfl) (by decide) (fun K hK => ?_)
  refine goes_ Try.func25 (by kernel_rfl) rfl #[.pointer (some ⟨a, 0, none⟩)] (by rfl) rfl rfl (by simp only [List.map_toArray, List.map_cons, List.map_nil]; rfl) ?_
  with_reducible refine (room_AO _ (hV ▸ HA.out)).mono ?_
  rintro e w3 ⟨rfl, hB3⟩
  refine ⟨_, rfl, ?_⟩
  have HB3 := Lib.hid (hV ▸ hB3 : Below V.heap.size V w3)
  have hk3 := blk_below HK.out HB3.out
  refine hK.out _ _ ⟨(blk_cell (blk_below HK.out HB3.out) 0), (blk_cell (blk_below HK.out HB3.out) 1), (blk_cell (blk_below HK.out HB3.out) 2)⟩ (fun hHeld => ?_)
  clear hK K
  refine norm_ (a' := ?_) ?_ ?_
  rotate_left
  · show Act.put _ (some 24) _ = _
    simp only [Act.put, List.setIfInBounds_toArray, List.set_cons_zero, List.set_cons_succ, i64_w, i32_w]
    rfl
  refine one_ (i := 3) (N := some 26) #[true, true, true, true, false, false, false, false, false] rfl rfl (by kernel_rfl) (by decide) (fun K hK => ?_)
  refine goes_ Try.func81 (by kernel_rfl) rfl #[vecV n r t] (by rfl) rfl rfl (by simp only [List.map_toArray, List.map_cons, List.map_nil]; rfl) ?_
  with_reducible refine (HLC.out _).mono ?_
  rintro e w4 ⟨rfl, hB4⟩
  refine ⟨_, rfl, ?_⟩
  have HB4 := Lib.hid (HB3.out.trans (hB4.mono HB3.out.size))
  refine hK.out _ _ ⟨(blk_cell (blk_below HK.out HB4.out) 0), (blk_cell (blk_below HK.out HB4.out) 1), (blk_cell (blk_below HK.out HB4.out) 2)⟩ (fun hHeld => ?_)
  clear hK K
  refine norm_ (a' := ?_) ?_ ?_
  rotate_left
  · show Act.put _ (some 26) _ = _
    simp only [Act.put, List.setIfInBounds_toArray, List.set_cons_zero, List.set_cons_succ, i64_w, i32_w]
    rfl
  refine pure_ (i := 4) (N := some 27) (v := ?_) (a' := ?_) #[true, true, true, true, true, false, false, false, false] rfl rfl (by kernel_rfl) (fun _ _ _ h => h) (Or.inl ⟨by rfl, ?_⟩) ?_ ?_
  rotate_left
  · intro w'
    go_simp
    with_reducible rfl
  rotate_left
  · simp only [Act.put, List.setIfInBounds_toArray, List.set_cons_zero, List.set_cons_succ, i64_w, i32_w]
    rfl
  refine one_ (i := 5) (N := some 28) #[true, true, true, true, true, true, false, false, false] rfl rfl (by kernel_rfl) (by decide) (fun K hK => ?_)
  refine goes_ Try.func62 (by kernel_rfl) rfl #[.int .i64 (wrap64 ((m : Int) + 1))] (by rfl) rfl rfl (by simp only [List.map_toArray, List.map_cons, List.map_nil]; rfl) ?_
  with_reducible refine (HLV.out _).mono ?_
  rintro e w5 ⟨rfl, hw5⟩
  refine ⟨_, rfl, ?_⟩
  subst hw5
  refine hK.out _ _ ⟨(blk_cell (blk_below HK.out HB4.out) 0), (blk_cell (blk_below HK.out HB4.out) 1), (blk_cell (blk_below HK.out HB4.out) 2)⟩ (fun hHeld => ?_)
  clear hK K
  refine norm_ (a' := ?_) ?_ ?_
  rotate_left
  · show Act.put _ (some 28) _ = _
    simp only [Act.put, List.setIfInBounds_toArray, List.set_cons_zero, List.set_cons_succ, i64_w, i32_w]
    rfl
  refine pure_ (i := 6) (N := some 29) (v := ?_) (a' := ?_) #[true, true, true, true, true, true, true, false, false] rfl rfl (by kernel_rfl) (fun _ _ _ h => h) (Or.inl ⟨by rfl, ?_⟩) ?_ ?_
  rotate_left
  · intro w'
    go_simp
    with_reducible rfl
  rotate_left
  · simp only [Act.put, List.setIfInBounds_toArray, List.set_cons_zero, List.set_cons_succ, i64_w, i32_w]
    rfl
  refine pure_ (i := 7) (N := some 30) (v := ?_) (a' := ?_) #[true, true, true, true, true, true, true, true, false] rfl rfl (by kernel_rfl) (fun _ _ _ h => h) (Or.inl ⟨by rfl, ?_⟩) ?_ ?_
  rotate_left
  · intro w'
    go_simp
    with_reducible rfl
  rotate_left
  · simp only [Act.put, List.setIfInBounds_toArray, List.set_cons_zero, List.set_cons_succ, i64_w, i32_w]
    rfl
  refine pure_ (i := 8) (N := some 22) (v := ?_) (a' := ?_) #[true, true, true, true, true, true, true, true, true] rfl rfl (by kernel_rfl) (fun _ _ _ h => h) (Or.inl ⟨by rfl, ?_⟩) ?_ ?_
  rotate_left
  · intro w'
    go_simp
    with_reducible rfl
  rotate_left
  · simp only [Act.put, List.setIfInBounds_toArray, List.set_cons_zero, List.set_cons_succ, i64_w, i32_w]
    rfl
  refine done_ (by kernel_rfl) ?_

  have hk5 := blk_below HK2.out HB4.out
  have hA5 := HA.out.below HB4.out
  have hb5 := HB.out.trans (HB4.out.mono HB.out.size)
  have hnO : ¬ O (w.heap.size + 1) := fun q => by have := HLT.out _ q; omega
  have HA5 := Lib.hid hA5
  have HB5 := Lib.hid hb5
  have HK5 := Lib.hid hk5
  have s0 := blk_cell (blk_below HK.out HB4.out) 0
  have s1 := blk_cell (blk_below HK.out HB4.out) 1
  have s2 := blk_cell (blk_below HK.out HB4.out) 2
  have g0 := blk_cell hk5 0
  have g1 := blk_cell hk5 1
  have fz0 := blk_frozen hk5 0
  have fz1 := blk_frozen hk5 1
  clear hk5 hA5 hb5 q0 q1 q2 hV
  by_cases hful : most - live < (L : Int) + 3
  · go_wp2
    refine bodyPost_ret (results_ct rfl _ _ (w.heap.size + 1) 133 #[.pointer none, .int .u32 0] (0, 0) _ rfl (blk_put (cs := #[.pointer none, .int .u32 0]) (blk_put (w := w5) HK5.out 0 _ rfl) 1 _ rfl) Try.underlying133 rfl (by kernel_rfl)) rfl ?_
    have hB9 : ∀ x y : Value, Below w.heap.size w ((w5.setCell ⟨w.heap.size + 1, 0, none⟩ x).setCell ⟨w.heap.size + 1, 1, none⟩ y) := fun x y => Below.setCell (Below.setCell HB5.out (show w.heap.size ≤ w.heap.size + 1 by omega) _) (show w.heap.size ≤ w.heap.size + 1 by omega) _
    first
      | exact .inl ⟨hful, rfl, hB9 _ _⟩
      | exact .inl ⟨rfl, hB9 _ _⟩
      | exact ⟨rfl, hB9 _ _⟩
  · have hF1 : ∀ {w6 : World} (x y : Value), Fr O w w6 → Fr O w ((w6.setCell ⟨w.heap.size + 1, 0, none⟩ x).setCell ⟨w.heap.size + 1, 1, none⟩ y) := fun x y h => (h.then_ (Fr.set _ _ _) (fun j hj => .inr (by omega))).then_ (Fr.set _ _ _) (fun j hj => .inr (by omega))
    have hA1 : ∀ {w6 : World} {g : Nat → Cell} {e2 : Nat → Nat} (x y : Value), AO w6 O a g live most e2 nop → AO ((w6.setCell ⟨w.heap.size + 1, 0, none⟩ x).setCell ⟨w.heap.size + 1, 1, none⟩ y) O a g live most e2 nop := fun x y h => (h.move (Fr.set _ _ _) (fun k hk e => by rw [e] at hk; exact hnO hk)).move (Fr.set _ _ _) (fun k hk e => by rw [e] at hk; exact hnO hk)
    by_cases ho : o = 0
    · subst ho
      go_wp2_with (go_at_call 53; refine (vkeep_calls n r t _ HA5.out hr ht he).mono ?_; rintro e w6 ⟨rfl, f6, hA6, hO6, hr6, hF6⟩; have hk6 := hF6.blk HK5.out hnO; have g0 := blk_cell hk6 0; have g1 := blk_cell hk6 1; have fz0 := blk_frozen hk6 0; have fz1 := blk_frozen hk6 1; have HA6 := Lib.hid hA6; have HK6 := Lib.hid hk6; clear hA6 hk6)
      refine bodyPost_ret (results_ct rfl _ _ (w.heap.size + 1) 133 #[.pointer (some ⟨a, 0, none⟩), .int .u32 0] (0, 0) _ rfl (blk_put (cs := #[.pointer (some ⟨a, 0, none⟩), .int .u32 0]) (blk_put (w := w6) HK6.out 0 _ rfl) 1 _ rfl) Try.underlying133 rfl (by kernel_rfl)) rfl ?_
      have e1 : RR ext 0 r t = fun x => ext x + vx r t x := by
        funext x
        unfold RR
        rw [if_pos rfl]
      have hA9 := hA1 (.pointer (some ⟨a, 0, none⟩)) (.int .u32 0) HA6.out
      rw [← e1] at hA9
      have hq := And.intro hA9 (And.intro hO6 (And.intro hr6 (hF1 (.pointer (some ⟨a, 0, none⟩)) (.int .u32 0) ((Fr.of_new HB5.out).trans hF6))))
      first
        | exact .inr ⟨hful, rfl, f6, hq⟩
        | exact .inr ⟨rfl, f6, hq⟩
        | exact ⟨rfl, f6, hq⟩
    · go_wp2
      refine bodyPost_ret (results_ct rfl _ _ (w.heap.size + 1) 133 #[.pointer (some ⟨a, 0, none⟩), .int .u32 o] (0, 0) _ rfl (blk_put (cs := #[.pointer (some ⟨a, 0, none⟩), .int .u32 0]) (blk_put (w := w5) HK5.out 0 _ rfl) 1 _ rfl) Try.underlying133 rfl (by kernel_rfl)) rfl ?_
      have e1 : RR ext o r t = ext := by
        funext x
        unfold RR
        rw [if_neg ho]
        rfl
      have hA9 := hA1 (.pointer (some ⟨a, 0, none⟩)) (.int .u32 o) HA5.out
      rw [← e1] at hA9
      have hq := And.intro hA9 (And.intro (OnlyR.refl f) (And.intro (show ∀ x, (f x).r ≤ (f x).r from fun x => Int.le_refl _) (hF1 (.pointer (some ⟨a, 0, none⟩)) (.int .u32 o) (Fr.of_new HB5.out))))
      first
        | exact .inr ⟨hful, rfl, f, hq⟩
        | exact .inr ⟨rfl, f, hq⟩
        | exact ⟨rfl, f, hq⟩
end
end Go.Proofs.Ytnipbfhfaefieaa.Pv
/-! pvec: the values of the leaf in which a place is. -/
namespace Go.Proofs.Ytnipbfhfaefieaa.Pv
open Go.RowKit Go Go.Proofs.YtnipbfhfaefieaaW.PrintWords Go.Proofs.YtnipbfhfaefieaaW.PrintMore Go.Proofs.YtnipbfhfaefieaaW.PrintLast Go.Proofs.Ytnipbfhfaefieaa.Bts Go.Proofs.Ytnipbfhfaefieaa.Fra Go.Proofs.Ytnipbfhfaefieaa.ArnP Go.Proofs.Ytnipbfhfaefieaa.Arn Go.Proofs.Ytnipbfhfaefieaa.Ao
section
variable {O : Nat → Prop} {a : Nat} {f : Nat → Cell} {live most : Int} {ext rest : Nat → Nat}
set_option maxHeartbeats 2000000 in
set_option maxRecDepth 100000 in
/-- In the tail. -/
theorem leafA_calls (n r t i d : Nat) (w : World) (h : AO w O a f live most ext nop) (hn : n ≤ 1024) (hd : i / 32 = d) (hi : i ≤ 1024) (hm : lvs n ≤ d) (ht : 0 < t) (htl : 0 < (f t).r) :
    Calls Try.prog 84 #[.pointer (some ⟨a, 0, none⟩), vecV n r t, .int .i64 i] w fun e w' => ∃ v', e = .returned v' ∧ VR w' w.heap.size v' (f t).vals ∧ Below w.heap.size w w' := by
  obtain ⟨m, hmm⟩ : ∃ m, lvs n = m := ⟨_, rfl⟩
  have hlc := leaves_calls n (r : Int) (t : Int) hn
  rw [hmm] at hlc hm
  have hkd : (i : Int).tdiv 32 = (d : Int) := by rw [Int.tdiv_eq_ediv_of_nonneg (by omega)]; omega
  have hkd2 : (i : Int) / 32 = (d : Int) := by omega
  have hdd : d ≤ 32 := by omega
  have hnlt : ¬ (d : Int) < (m : Int) := by omega
  have hb0 := below_alloc (Below.refl w.heap.size w) (.cells #[.int .i64 n, .int .i64 r, .int .i64 t] 61)
  have hbk := blk_new w (.cells #[.int .i64 n, .int .i64 r, .int .i64 t] 61)
  have HA := Lib.hid (h.below hb0)
  have HB := Lib.hid hb0
  have HK := Lib.hid hbk
  have HLC := Lib.hid hlc
  clear h hb0 hbk hlc hmm hn hd
  go_enter Try.func84, Try.ntmps84
  go_wp2_with (first
    | (go_at_call 24; go_loud (refine (get_AO t _ HA4.out ht htl).mono ?_; rintro e w5 ⟨v', k', rfl, hV5, hK5, hne, hB5⟩; obtain ⟨A1, c1, e1⟩ := Kd.R_slice hV5; subst e1; obtain ⟨A2, c2, e2⟩ := Kd.R_slice hK5; subst e2; have HV5 := Lib.hid hV5; have HB5 := Lib.hid hB5; clear hV5 hK5 hne))
    | (go_at_call 81; go_loud (refine (HLC.out _).mono ?_; rintro e w4 ⟨rfl, hB4⟩; have HA4 := Lib.hid (HA.out.below hB4); have hs4 := hB4.size; have hb4 := HB.out.trans (hB4.mono HB.out.size); have hk4 := blk_below HK.out hB4; have s0 := blk_cell hk4 0; have s1 := blk_cell hk4 1; have s2 := blk_cell hk4 2; have HB4 := Lib.hid hb4; clear hB4 hb4 hk4)))
  go_ret
  have hs9 := HB4.out.size
  exact ⟨_, rfl, Kd.R_lower (Kd.R_mono (Kd.R_below HV5.out (below_alloc (Below.refl _ _) _)) (fun j hj => by omega)) (by omega), below_alloc (HB4.out.trans (HB5.out.mono HB4.out.size)) _⟩
set_option maxHeartbeats 2000000 in
set_option maxRecDepth 100000 in
/-- In the one leaf. -/
theorem leafB_calls (n r t i : Nat) (w : World) (h : AO w O a f live most ext nop) (hn : n ≤ 1024) (hi : i < 32) (hm : lvs n = 1) (hr : 0 < r) (hrl : 0 < (f r).r) :
    Calls Try.prog 84 #[.pointer (some ⟨a, 0, none⟩), vecV n r t, .int .i64 i] w fun e w' => ∃ v', e = .returned v' ∧ VR w' w.heap.size v' (f r).vals ∧ Below w.heap.size w w' := by
  have hlc := leaves_calls n (r : Int) (t : Int) hn
  rw [hm] at hlc
  have hkd : (i : Int).tdiv 32 = 0 := by rw [Int.tdiv_eq_ediv_of_nonneg (by omega)]; omega
  have hkd2 : (i : Int) / 32 = 0 := by omega
  have hi' : (i : Int) ≤ 31 := by omega
  have hl1 : lev 1 = 0 := rfl
  have c1 : ∀ w, Calls Try.prog 62 #[.int .i64 1] w fun e w' => e = .returned (.int .i64 0) ∧ w' = w := fun w => by
    have := levels_calls 1 (by decide) w
    rw [hl1] at this
    exact this
  have hb0 := below_alloc (Below.refl w.heap.size w) (.cells #[.int .i64 n, .int .i64 r, .int .i64 t] 61)
  have hbk := blk_new w (.cells #[.int .i64 n, .int .i64 r, .int .i64 t] 61)
  have HA := Lib.hid (h.below hb0)
  have HB := Lib.hid hb0
  have HK := Lib.hid hbk
  have HLC := Lib.hid hlc
  have HLV := Lib.hid c1
  clear h hb0 hbk hlc hn hm hl1 c1
  go_enter Try.func84, Try.ntmps84
  go_wp2_with (first
    | (go_at_call 62; go_loud (refine (HLV.out _).mono ?_; rintro e w7 ⟨rfl, hw7⟩; subst w7))
    | (go_at_call 81; have hx := HA4; clear hx; go_loud (refine (HLC.out _).mono ?_; rintro e w6 ⟨rfl, hB6⟩; have HA6 := Lib.hid (HA4.out.below hB6); have hs6 := hB6.size; have hb6 := HB4.out.trans (hB6.mono HB4.out.size); have HB6 := Lib.hid hb6; clear hB6 hb6))
    | (go_at_call 81; go_loud (refine (HLC.out _).mono ?_; rintro e w4 ⟨rfl, hB4⟩; have HA4 := Lib.hid (HA.out.below hB4); have hs4 := hB4.size; have hb4 := HB.out.trans (hB4.mono HB.out.size); have hk4 := blk_below HK.out hB4; have s0 := blk_cell hk4 0; have s1 := blk_cell hk4 1; have s2 := blk_cell hk4 2; have HB4 := Lib.hid hb4; clear hB4 hb4 hk4)))
  go_loopw [7, 9] (fun x y wr => x = .int .i64 r ∧ y = .int .i64 (-1) ∧ wr = w6) (fun _ _ _ => 0)
  case atStart => exact ⟨rfl, rfl, rfl⟩
  case round =>
    obtain ⟨rfl, rfl, rfl⟩ := hrel
    go_wp2_with (go_at_call 24; go_loud (refine (get_AO r _ HA6.out hr hrl).mono ?_; rintro e w8 ⟨v', k', rfl, hV5, hK5, hne, hB5⟩; obtain ⟨A1, c1, e1⟩ := Kd.R_slice hV5; subst e1; obtain ⟨A2, c2, e2⟩ := Kd.R_slice hK5; subst e2; have HV5 := Lib.hid hV5; have HB5 := Lib.hid hB5; clear hV5 hK5 hne))
    go_ret
    have hs9 := HB6.out.size
    exact ⟨_, rfl, Kd.R_lower (Kd.R_mono (Kd.R_below HV5.out (below_alloc (Below.refl _ _) _)) (fun j hj => by omega)) (by omega), below_alloc (HB6.out.trans (HB5.out.mono HB6.out.size)) _⟩
set_option maxHeartbeats 4000000 in
set_option maxRecDepth 100000 in
/-- In one of several leaves. -/
theorem leafC_calls (n r t i d k m : Nat) (w : World) (h : AO w O a f live most ext nop) (hn : n ≤ 1024) (hd : i / 32 = d) (hm : lvs n = m) (hm2 : 2 ≤ m) (hdm : d < m) (hr : 0 < r) (hrl : 0 < (f r).r) (hkl : (f r).kids.length ≤ 1000) (hk : (f r).kids[d]? = some (k : Int)) (hk0 : 0 < k) (hkr : 0 < (f k).r) :
    Calls Try.prog 84 #[.pointer (some ⟨a, 0, none⟩), vecV n r t, .int .i64 i] w fun e w' => ∃ v', e = .returned v' ∧ VR w' w.heap.size v' (f k).vals ∧ Below w.heap.size w w' := by
  have hlc := leaves_calls n (r : Int) (t : Int) hn
  have hm31 : m ≤ 31 := by rw [← hm]; unfold lvs; omega
  rw [hm] at hlc
  have hkd : (i : Int).tdiv 32 = (d : Int) := by rw [Int.tdiv_eq_ediv_of_nonneg (by omega)]; omega
  have hkd2 : (i : Int) / 32 = (d : Int) := by omega
  have hi' : (i : Int) ≤ 1023 := by omega
  have hd32 : d < 32 := by omega
  have hlt : (d : Int) < (m : Int) := by omega
  have hdl : d < (f r).kids.length := (List.getElem?_eq_some_iff.1 hk).1
  have hdl' : (d : Int) < ((f r).kids.length : Int) := by omega
  have hl1 : lev m = 1 := by unfold lev; rw [if_neg (by omega)]
  have c1 : ∀ w, Calls Try.prog 62 #[.int .i64 (m : Int)] w fun e w' => e = .returned (.int .i64 1) ∧ w' = w := fun w => by
    have := levels_calls m (by omega) w
    rw [hl1] at this
    exact this
  have hb0 := below_alloc (Below.refl w.heap.size w) (.cells #[.int .i64 n, .int .i64 r, .int .i64 t] 61)
  have hbk := blk_new w (.cells #[.int .i64 n, .int .i64 r, .int .i64 t] 61)
  have HA := Lib.hid (h.below hb0)
  have HB := Lib.hid hb0
  have HK := Lib.hid hbk
  have HLC := Lib.hid hlc
  have HLV := Lib.hid c1
  have HKK := Lib.hid hk
  have HDL := Lib.hid hdl
  clear h hb0 hbk hlc hn hm hl1 c1 hd hk hdl
  go_enter Try.func84, Try.ntmps84
  go_wp2_with (first
    | (go_at_call 62; go_loud (refine (HLV.out _).mono ?_; rintro e w7 ⟨rfl, hw7⟩; subst w7))
    | (go_at_call 81; have hx := HA4; clear hx; go_loud (refine (HLC.out _).mono ?_; rintro e w6 ⟨rfl, hB6⟩; have HA6 := Lib.hid (HA4.out.below hB6); have hs6 := hB6.size; have hb6 := HB4.out.trans (hB6.mono HB4.out.size); have HB6 := Lib.hid hb6; clear hB6 hb6))
    | (go_at_call 81; go_loud (refine (HLC.out _).mono ?_; rintro e w4 ⟨rfl, hB4⟩; have HA4 := Lib.hid (HA.out.below hB4); have hs4 := hB4.size; have hb4 := HB.out.trans (hB4.mono HB.out.size); have hk4 := blk_below HK.out hB4; have s0 := blk_cell hk4 0; have s1 := blk_cell hk4 1; have s2 := blk_cell hk4 2; have HB4 := Lib.hid hb4; clear hB4 hb4 hk4)))
  go_loopw [7, 9] (fun x y wr => (x = .int .i64 r ∧ y = .int .i64 0 ∧ wr = w6) ∨ (x = .int .i64 k ∧ y = .int .i64 (-1) ∧ Below w6.heap.size w6 wr)) (fun _ y _ => (intOf y + 1).toNat)
  case atStart => exact .inl ⟨rfl, rfl, rfl⟩
  case round =>
    rcases hrel with ⟨rfl, rfl, rfl⟩ | ⟨rfl, rfl, hBw⟩
    · go_wp2_with (go_at_call 24; go_loud (refine (get_AO r _ HA6.out hr hrl).mono ?_; rintro e w8 ⟨v', k', rfl, hV5, hK5, hne, hB5⟩; obtain ⟨A1, c1, e1⟩ := Kd.R_slice hV5; subst e1; obtain ⟨_, inner, ho, hrk⟩ := id hK5; obtain ⟨g, c2, e2, hmc, _⟩ := own_some ho (by omega); subst e2; have HRK := Lib.hid hrk; have HO := Lib.hid ho; have HB5 := Lib.hid hB5; clear hV5 hK5 hne hrk ho hmc hB5))
      have hdr : Below w8.heap.size w8 (w8.alloc (.cells #[.int .u32 (f r).ow, .int .u32 (f r).a, .int .u32 (f r).b, .slice A1 (f r).vals.length c1, .slice (some ⟨g, 0, none⟩) (f r).kids.length c2] 43)).drew := below_drew1 (below_alloc (Below.refl _ _) _)
      have hbc := blk_drew (blk_new w8 (.cells #[.int .u32 (f r).ow, .int .u32 (f r).a, .int .u32 (f r).b, .slice A1 (f r).vals.length c1, .slice (some ⟨g, 0, none⟩) (f r).kids.length c2] 43))
      have p4 := blk_cell hbc 4
      have hod := own_fr HO.out (Fr.of_new (S := fun _ => False) hdr) (fun _ _ => id)
      have hval : inner[d]? = some (.int .i64 (k : Int)) := by
        have h3 : (inner.drop (d * 1)).take 1 = [.int .i64 (k : Int)] := HRK.out.2 d _ HKK.out
        have h4 := congrArg (fun l : List Value => l[0]?) h3
        simpa using h4
      have hdl := HDL.out
      have t0 : (w8.alloc (.cells #[.int .u32 (f r).ow, .int .u32 (f r).a, .int .u32 (f r).b, .slice A1 (f r).vals.length c1, .slice (some ⟨g, 0, none⟩) (f r).kids.length c2] 43)).drew.cell? ⟨g, d, none⟩ = some (.int .i64 (k : Int)) := (hod.cellAt d (by show d < (f r).kids.length * 1; omega)).trans hval
      have hz0 : (0 : Int) = wrap64 0 := by unfold wrap64; omega
      have hat : ∀ w, Calls Try.prog 61 #[.int .u64 d, .int .i64 0] w fun e w' => e = .returned (.int .i64 d) ∧ w' = w := fun w => at_zero d hd32 w
      have HAT := Lib.hid hat
      have HD := Lib.hid hdr
      clear hdl hod hval hbc hdr hat hz0
      refine start_ (n := 8) (S := fun w' => w'.cell? ⟨w8.heap.size, 4, none⟩ = some (.slice (some ⟨g, 0, none⟩) (f r).kids.length c2) ∧ w'.cell? ⟨g, d, none⟩ = some (.int .i64 (k : Int))) (ds := []) #[false, false, false, false, false, false, false, false] (by kernel_rfl) rfl rfl ⟨p4, t0⟩ (fun hHeld => ?_)
      refine pure_ (i := 0) (N := some 40) (v := ?_) (a' := ?_) #[true, false, false, false, false, false, false, false] rfl rfl (by kernel_rfl) (fun _ _ _ h => h) (Or.inl ⟨by rfl, ?_⟩) ?_ ?_
      rotate_left
      · intro w'
        go_simp
        with_reducible rfl
      rotate_left
      · simp only [Act.put, List.setIfInBounds_toArray, List.set_cons_zero, List.set_cons_succ, i64_w, i32_w]
        rfl
      refine pure_ (i := 2) (N := some 42) (v := ?_) (a' := ?_) #[true, false, true, false, false, false, false, false] rfl rfl (by kernel_rfl) (fun _ _ _ h => h) (Or.inl ⟨by rfl, ?_⟩) ?_ ?_
      rotate_left
      · intro w'
        go_simp
        with_reducible rfl
      rotate_left
      · simp only [Act.put, List.setIfInBounds_toArray, List.set_cons_zero, List.set_cons_succ, i64_w, i32_w]
        rfl
      refine pure_ (i := 3) (N := some 43) (v := ?_) (a' := ?_) #[true, false, true, true, false, false, false, false] rfl rfl (by kernel_rfl) (fun _ _ _ h => h) (Or.inl ⟨by rfl, ?_⟩) ?_ ?_
      rotate_left
      · intro w'
        go_simp
        with_reducible rfl
      rotate_left
      · simp only [Act.put, List.setIfInBounds_toArray, List.set_cons_zero, List.set_cons_succ, i64_w, i32_w]
        rfl
      refine take_ (i := 1) (N := some 41) (v := ?_) (a' := ?_) #[true, true, true, true, false, false, false, false] rfl rfl (by kernel_rfl) (fun _ _ _ h => h) (Or.inl ⟨by rfl, ?_⟩) hHeld ?_ ?_
      rotate_left
      · rintro w' ⟨s0, s1⟩
        go_simp
        with_reducible rfl
      rotate_left
      · simp only [Act.put, List.setIfInBounds_toArray, List.set_cons_zero, List.set_cons_succ, i64_w, i32_w]
        rfl
      refine one_ (i := 4) (N := some 44) #[true, true, true, true, true, false, false, false] rfl rfl (by kernel_rfl) (by decide) (fun K hK => ?_)
      refine goes_ Try.func61 (by kernel_rfl) rfl #[.int .u64 d, .int .i64 0] (by rfl) rfl rfl (by simp only [List.map_toArray, List.map_cons, List.map_nil]; rfl) ?_
      with_reducible refine (HAT.out _).mono ?_
      rintro e w9 ⟨rfl, hw9⟩
      refine ⟨_, rfl, ?_⟩
      subst hw9
      refine hK.out _ _ ⟨p4, t0⟩ (fun hHeld => ?_)
      clear hK K
      refine norm_ (a' := ?_) ?_ ?_
      rotate_left
      · show Act.put _ (some 44) _ = _
        simp only [Act.put, List.setIfInBounds_toArray, List.set_cons_zero, List.set_cons_succ, i64_w, i32_w]
        rfl
      refine pure_ (i := 5) (N := some 45) (v := ?_) (a' := ?_) #[true, true, true, true, true, true, false, false] rfl rfl (by kernel_rfl) (fun _ _ _ h => h) (Or.inl ⟨by rfl, ?_⟩) ?_ ?_
      rotate_left
      · intro w'
        go_simp
        with_reducible rfl
      rotate_left
      · simp only [Act.put, List.setIfInBounds_toArray, List.set_cons_zero, List.set_cons_succ, i64_w, i32_w]
        rfl
      refine take_ (i := 6) (N := some 46) (v := ?_) (a' := ?_) #[true, true, true, true, true, true, true, false] rfl rfl (by kernel_rfl) (fun _ _ _ h => h) (Or.inl ⟨by rfl, ?_⟩) hHeld ?_ ?_
      rotate_left
      · rintro w' ⟨s0, s1⟩
        go_simp
        with_reducible rfl
      rotate_left
      · simp only [Act.put, List.setIfInBounds_toArray, List.set_cons_zero, List.set_cons_succ, i64_w, i32_w]
        rfl
      refine pure_ (i := 7) (N := some 7) (v := ?_) (a' := ?_) #[true, true, true, true, true, true, true, true] rfl rfl (by kernel_rfl) (fun _ _ _ h => h) (Or.inl ⟨by rfl, ?_⟩) ?_ ?_
      rotate_left
      · intro w'
        go_simp
        with_reducible rfl
      rotate_left
      · simp only [Act.put, List.setIfInBounds_toArray, List.set_cons_zero, List.set_cons_succ, i64_w, i32_w]
        rfl
      refine done_ (by kernel_rfl) ?_

      go_wp2
      go_roundw
      case rel => exact .inr ⟨rfl, rfl, HB5.out.trans (HD.out.mono HB5.out.size)⟩
      case measure => simp [intOf]
    · have HA7 := Lib.hid (HA6.out.below hBw)
      have HBW := Lib.hid hBw
      clear hBw
      go_wp2_with (go_at_call 24; go_loud (refine (get_AO k _ HA7.out hk0 hkr).mono ?_; rintro e w8 ⟨v', k', rfl, hV5, hK5, hne, hB5⟩; obtain ⟨A1, c1, e1⟩ := Kd.R_slice hV5; subst e1; obtain ⟨A2, c2, e2⟩ := Kd.R_slice hK5; subst e2; have HV5 := Lib.hid hV5; have HB5 := Lib.hid hB5; clear hV5 hK5 hne))
      go_ret
      have hs9 := HB6.out.size
      have hs8 := HBW.out.size
      exact ⟨_, rfl, Kd.R_lower (Kd.R_mono (Kd.R_below HV5.out (below_alloc (Below.refl _ _) _)) (fun j hj => by omega)) (by omega), below_alloc ((HB6.out.trans (HBW.out.mono hs9)).trans (HB5.out.mono (by omega))) _⟩
end
end Go.Proofs.Ytnipbfhfaefieaa.Pv
/-! pvec: the value of a place. -/
namespace Go.Proofs.Ytnipbfhfaefieaa.Pv
open Go.RowKit Go Go.Proofs.YtnipbfhfaefieaaW.PrintWords Go.Proofs.YtnipbfhfaefieaaW.PrintMore Go.Proofs.YtnipbfhfaefieaaW.PrintLast Go.Proofs.Ytnipbfhfaefieaa.Bts Go.Proofs.Ytnipbfhfaefieaa.Fra Go.Proofs.Ytnipbfhfaefieaa.ArnP Go.Proofs.Ytnipbfhfaefieaa.Arn Go.Proofs.Ytnipbfhfaefieaa.Ao
theorem ret3 {w : World} {b : Nat} {T : TypeId} {x0 y0 z0 : Value} (h : w.heap[b]? = some (.cells #[x0, y0, z0] T (0, 0))) (x y z : Value) : (((w.setCell ⟨b, 0, none⟩ x).setCell ⟨b, 1, none⟩ y).setCell ⟨b, 2, none⟩ z).heap[b]? = some (.cells #[x, y, z] T (0, 0)) := blk_put (blk_put (blk_put h 0 x rfl) 1 y rfl) 2 z rfl
theorem VR.get {w : World} {lo : Nat} {v : Value} {xs : List V3} (h : VR w lo v xs) (i : Nat) {q m : Int} {s : ByteArray} (hx : xs[i]? = some (q, m, s)) : ∃ g c, v = .slice (some ⟨g, 0, none⟩) xs.length c ∧ lo ≤ g ∧ g < w.heap.size ∧ w.cell? ⟨g, i * 3, none⟩ = some (.int .u8 q) ∧ w.cell? ⟨g, i * 3 + 1, none⟩ = some (.int .i64 m) ∧ w.cell? ⟨g, i * 3 + 2, none⟩ = some (.string s) := by
  obtain ⟨h0, inner, ho, hr⟩ := h
  have hi := (List.getElem?_eq_some_iff.1 hx).1
  obtain ⟨g, c, e, _, _⟩ := own_some ho (by omega)
  subst e
  have h3 := hr.2 i _ hx
  obtain ⟨a1, a2, e1, e2, a3, a4, e3, e4, e5⟩ := h3
  have e2 : a1 = [.int .u8 q] := e2
  have e4 : a3 = [.int .i64 m] := e4
  have e5 : a4 = [.string s] := e5
  have h4 : (inner.drop (i * 3)).take 3 = [.int .u8 q, .int .i64 m, .string s] := by rw [e3, e2, e4, e5] at e1; exact e1
  have hin : ∀ j, j < 3 → inner[i * 3 + j]? = ([.int .u8 q, .int .i64 m, .string s] : List Value)[j]? := fun j hj => by
    rw [← h4, List.getElem?_take_of_lt hj, List.getElem?_drop]
  exact ⟨g, c, rfl, own_base ho g rfl, own_lt ho g rfl, (ho.cellAt (i * 3) (by show i * 3 < xs.length * 3; omega)).trans (hin 0 (by omega)), (ho.cellAt (i * 3 + 1) (by show i * 3 + 1 < xs.length * 3; omega)).trans (hin 1 (by omega)), (ho.cellAt (i * 3 + 2) (by show i * 3 + 2 < xs.length * 3; omega)).trans (hin 2 (by omega))⟩
theorem leafs_get (l : List V3) (i : Nat) : (leafs l (i / 32))[i % 32]? = l[i]? := by
  unfold leafs
  rw [List.getElem?_take_of_lt (by omega), List.getElem?_drop]
  congr 1
  omega
theorem leafs_len (l : List V3) (j : Nat) : (leafs l j).length ≤ 32 := by
  unfold leafs
  rw [List.length_take]
  omega
theorem tail_leafs {l : List V3} {n : Nat} (hn : n = l.length) : l.drop (32 * lvs n) = leafs l (lvs n) := by
  unfold leafs
  rw [List.take_of_length_le]
  rw [List.length_drop]
  unfold lvs
  omega
section
variable {O : Nat → Prop} {a : Nat} {f : Nat → Cell} {live most : Int} {ext rest : Nat → Nat}
set_option maxRecDepth 100000 in
/-- The leaf of a place. -/
theorem leaf_calls (n r t i : Nat) (l : List V3) (w : World) (h : AO w O a f live most ext nop) (hv : VRep f n r t l) (he : ∀ x, vx r t x ≤ ext x) (hi : i < n) :
    Calls Try.prog 84 #[.pointer (some ⟨a, 0, none⟩), vecV n r t, .int .i64 i] w fun e w' => ∃ v', e = .returned v' ∧ VR w' w.heap.size v' (leafs l (i / 32)) ∧ Below w.heap.size w w' := by
  obtain ⟨hl, hn, hv⟩ := hv
  rcases hv with ⟨q, _⟩ | ⟨h0, hT, hR⟩
  · omega
  have htl : 0 < (f t).r := h.ext_lv hT.1 (Nat.lt_of_lt_of_le (vx_t hT.1) (he t))
  by_cases hd : lvs n ≤ i / 32
  · have e1 : i / 32 = lvs n := by unfold lvs at hd ⊢; omega
    have := leafA_calls n r t i (i / 32) w h hn rfl (by omega) hd hT.1 htl
    rw [hT.2.1, tail_leafs hl, ← e1] at this
    exact this
  · rcases hR with ⟨q, _⟩ | ⟨hm, hL⟩ | ⟨h2, hr, _, hkl, hk⟩
    · omega
    · have hrl : 0 < (f r).r := h.ext_lv hL.1 (Nat.lt_of_lt_of_le (vx_r hL.1) (he r))
      have := leafB_calls n r t i w h hn (by omega) hm hL.1 hrl
      rw [hL.2.1] at this
      rw [show i / 32 = 0 by omega]
      exact this
    · have hrl : 0 < (f r).r := h.ext_lv hr (Nat.lt_of_lt_of_le (vx_r hr) (he r))
      have hkk := List.getElem?_eq_getElem (l := (f r).kids) (i := i / 32) (by omega)
      obtain ⟨k, e1, hL⟩ := hk (i / 32) _ hkk
      rw [e1] at hkk
      have hkr := (h.lv_kid ⟨hr, hrl, rfl⟩ (kid_mem hkk hL.1)).1.2.1
      have := leafC_calls n r t i (i / 32) k (lvs n) w h hn rfl rfl h2 (by omega) hr hrl (AO.kl h hrl).1 hkk hL.1 hkr
      rw [hL.2.1] at this
      exact this
set_option maxHeartbeats 2000000 in
set_option maxRecDepth 100000 in
theorem get_calls (n r t i : Nat) (l : List V3) (q m : Int) (s : ByteArray) (w : World) (h : AO w O a f live most ext nop) (hv : VRep f n r t l) (he : ∀ x, vx r t x ≤ ext x) (hx : l[i]? = some (q, m, s)) :
    Calls Try.prog 36 #[.pointer (some ⟨a, 0, none⟩), vecV n r t, .int .i64 i] w fun e w' => e = .returned (.tuple #[valV q m s, .int .i64 0]) ∧ Below w.heap.size w w' := by
  have hi : i < n := by rw [hv.1]; exact (List.getElem?_eq_some_iff.1 hx).1
  have hn : n ≤ 1024 := hv.2.1
  have hxx : (leafs l (i / 32))[i % 32]? = some (q, m, s) := by rw [leafs_get]; exact hx
  have hll := leafs_len l (i / 32)
  have hil := (List.getElem?_eq_some_iff.1 hxx).1
  obtain ⟨k, hk⟩ : ∃ k, i % 32 = k := ⟨_, rfl⟩
  rw [hk] at hxx hil
  have hmd : (i : Int).tmod 32 = (k : Int) := by rw [Int.tmod_eq_emod_of_nonneg (by omega)]; omega
  have hmd2 : (i : Int) % 32 = (k : Int) := by omega
  have hge : ¬ (n : Int) ≤ (i : Int) := by omega
  have hneg : ¬ (i : Int) < 0 := by omega
  have hkl : (k : Int) < ((leafs l (i / 32)).length : Int) := by omega
  obtain ⟨xs, hxs⟩ : ∃ xs, leafs l (i / 32) = xs := ⟨_, rfl⟩
  have hb0 := below_alloc (below_alloc (Below.refl w.heap.size w) (.cells #[.int .i64 n, .int .i64 r, .int .i64 t] 61)) (.cells #[.int .u8 0, .int .i64 0, .string ⟨#[]⟩] 66)
  have hL := leaf_calls n r t i l _ (h.below hb0) hv he hi
  rw [hxs] at hL hxx hil hll hkl
  have hbk := new1 w (.cells #[.int .i64 n, .int .i64 r, .int .i64 t] 61) (.cells #[.int .u8 0, .int .i64 0, .string ⟨#[]⟩] 66)
  have HL := Lib.hid hL
  have HB := Lib.hid hb0
  have HK := Lib.hid hbk
  have HX := Lib.hid hxx
  clear h hb0 hbk hL hv he hx hxx hxs hk
  go_enter Try.func36, Try.ntmps36
  go_wp2_with (go_at_call 84; go_loud (refine HL.out.mono ?_; rintro e w5 ⟨v', rfl, hV5, hB5⟩; obtain ⟨g, c, rfl, hg1, hg2, t0, t1, t2⟩ := VR.get hV5 k HX.out; have hk5 := blk_below HK.out hB5; have g0 := blk_cell hk5 0; have g1 := blk_cell hk5 1; have g2 := blk_cell hk5 2; have z0 := blk_frozen hk5 0; have z1 := blk_frozen hk5 1; have z2 := blk_frozen hk5 2; have HK5 := Lib.hid hk5; have HB5 := Lib.hid (HB.out.trans (hB5.mono HB.out.size)); clear hB5 hk5 hV5))
  refine bodyPost_ret (results_ct rfl _ _ (w.heap.size + 1) 66 #[.int .u8 q, .int .i64 m, .string s] (0, 0) _ rfl (ret3 HK5.out _ _ _) Try.underlying66 rfl (by kernel_rfl)) rfl ?_
  exact ⟨rfl, Below.setCell (Below.setCell (Below.setCell HB5.out (show w.heap.size ≤ w.heap.size + 1 by omega) _) (show w.heap.size ≤ w.heap.size + 1 by omega) _) (show w.heap.size ≤ w.heap.size + 1 by omega) _⟩
set_option maxHeartbeats 1000000 in
set_option maxRecDepth 100000 in
/-- A place that isn't there. -/
theorem getn_calls (i n r t : Int) (w : World) (hi : i < 0 ∨ n ≤ i) :
    Calls Try.prog 36 #[.pointer (some ⟨a, 0, none⟩), vecV n r t, .int .i64 i] w fun e w' => e = .returned (.tuple #[valV 0 0 ⟨#[]⟩, .int .i64 3]) ∧ Below w.heap.size w w' := by
  have hb0 := below_alloc (below_alloc (Below.refl w.heap.size w) (.cells #[.int .i64 n, .int .i64 r, .int .i64 t] 61)) (.cells #[.int .u8 0, .int .i64 0, .string ⟨#[]⟩] 66)
  have hbk := new1 w (.cells #[.int .i64 n, .int .i64 r, .int .i64 t] 61) (.cells #[.int .u8 0, .int .i64 0, .string ⟨#[]⟩] 66)
  have g0 := blk_cell hbk 0
  have g1 := blk_cell hbk 1
  have g2 := blk_cell hbk 2
  have z0 := blk_frozen hbk 0
  have z1 := blk_frozen hbk 1
  have z2 := blk_frozen hbk 2
  have HB := Lib.hid hb0
  have HK := Lib.hid hbk
  clear hb0 hbk
  by_cases hneg : i < 0
  · clear hi
    go_enter Try.func36, Try.ntmps36
    go_wp2
    refine bodyPost_ret (results_ct rfl _ _ (w.heap.size + 1) 66 #[.int .u8 0, .int .i64 0, .string ⟨#[]⟩] (0, 0) _ rfl HK.out Try.underlying66 rfl (by kernel_rfl)) rfl ?_
    exact ⟨rfl, HB.out⟩
  · have hle : n ≤ i := hi.resolve_left hneg
    clear hi
    go_enter Try.func36, Try.ntmps36
    go_wp2
    refine bodyPost_ret (results_ct rfl _ _ (w.heap.size + 1) 66 #[.int .u8 0, .int .i64 0, .string ⟨#[]⟩] (0, 0) _ rfl HK.out Try.underlying66 rfl (by kernel_rfl)) rfl ?_
    exact ⟨rfl, HB.out⟩
end
end Go.Proofs.Ytnipbfhfaefieaa.Pv
/-! pvec: a trunk gets a leaf more, as a whole; a literal row of one value. -/
namespace Go.Proofs.Ytnipbfhfaefieaa.Pv
open Go.RowKit Go Go.Proofs.YtnipbfhfaefieaaW.PrintWords Go.Proofs.YtnipbfhfaefieaaW.PrintMore Go.Proofs.YtnipbfhfaefieaaW.PrintLast Go.Proofs.Ytnipbfhfaefieaa.Bts Go.Proofs.Ytnipbfhfaefieaa.Fra Go.Proofs.Ytnipbfhfaefieaa.ArnP Go.Proofs.Ytnipbfhfaefieaa.Arn Go.Proofs.Ytnipbfhfaefieaa.Ao
theorem row_val1 (w : World) (q m : Int) (s : ByteArray) : VR (w.alloc (.cells #[.int .u8 q, .int .i64 m, .string s] 66)) w.heap.size (.slice (some ⟨w.heap.size, 0, none⟩) 1 1) [(q, m, s)] := by
  have h := World.ownsRow_lit (base := w.heap.size) (e := 66) (size := 3) w #[.int .u8 q, .int .i64 m, .string s] 1 (Nat.le_refl _) (by unfold maxLen; omega) rfl
  refine ⟨fun j hj => ?_, _, h, ⟨rfl, fun i x hx => ?_⟩⟩
  · have : w.heap.size = j := Option.some.inj hj
    omega
  · have hi : i = 0 := by have := (List.getElem?_eq_some_iff.1 hx).1; simp at this; omega
    subst hi
    have hx : (q, m, s) = x := Option.some.inj hx
    subst hx
    exact ⟨_, _, rfl, rfl, _, _, rfl, rfl, rfl⟩
section
variable {O : Nat → Prop} {a : Nat} {f : Nat → Cell} {live most : Int} {ext rest : Nat → Nat}
theorem growT (o : Int) (m r t : Nat) (g : Nat → List V3) (v : List V3) (w : World) (h : AO w O a f live most (fun z => rest z + hold r z + one t z) nop) (hT : Trunk f m r g) (hL : Leaf f t v) (hb : ∀ x, rest x ≤ 60000000000) (hm : m < 32) (hlm : live < most) :
    Calls Try.prog 80 #[workV a o, .int .i64 r, .int .i64 m, .int .i64 t] w fun e w' => ∃ (r' : Nat) (O' : Nat → Prop) (f' : Nat → Cell) (live' : Int), e = .returned (.int .i64 r') ∧ AO w' O' a f' live' most (fun z => rest z + one r' z) nop ∧ live' ≤ live + 1 ∧ 0 < r' ∧ Trunk f' (m + 1) r' (fun j => if j = m then v else g j) ∧ KeepR rest nop f f' ∧ (∀ j, O' j → O j ∨ w.heap.size ≤ j) ∧ Fr O w w' := by
  rcases hT with ⟨rfl, rfl⟩ | ⟨rfl, hR⟩ | ⟨h2, hr, hv, hkl, hk⟩
  · refine (grow0_calls a o 0 t w).mono ?_
    rintro e w' ⟨rfl, hB⟩
    exact ⟨t, O, f, live, rfl, h.below hB, by omega, hL.1, .inr (.inl ⟨rfl, hL⟩), KeepR.refl _ _ _, fun j hj => .inl hj, Fr.of_new hB⟩
  · have e1 : (fun z => rest z + hold r z + one t z) = fun z => rest z + one t z + one r z := by
      funext z
      rw [hold_pos hR.1]
      omega
    rw [e1] at h
    have hrl : 0 < (f r).r := h.ext_lv hR.1 (by show 0 < rest r + one t r + one r r; have : one r r = 1 := if_pos rfl; omega)
    have htl : 0 < (f t).r := h.ext_lv hL.1 (by show 0 < rest t + one t t + one r t; have : one t t = 1 := if_pos rfl; omega)
    refine (grow1_calls o r t w h hR.1 (fun z hz => by cases hz) hL.1 hlm).mono ?_
    rintro e w' ⟨i, O', rfl, hA, h0, ho, hK, hO, hF⟩
    have s1 := (hK r hR.1 (by show 0 < rest r + one t r + one r r; have : one r r = 1 := if_pos rfl; omega)).2 rfl
    have s2 := (hK t hL.1 (by show 0 < rest t + one t t + one r t; have : one t t = 1 := if_pos rfl; omega)).2 rfl
    refine ⟨i, O', _, _, rfl, hA, by omega, h0, .inr (.inr ⟨by omega, h0, ?_, ?_, fun j z hz => ?_⟩), hK.mono (fun j hj => by show 0 < rest j + one t j + one r j; omega), hO, hF⟩
    · rw [upd_eq]
    · rw [upd_eq]
      rfl
    · rw [upd_eq] at hz
      rcases j with _ | _ | j
      · have : (r : Int) = z := Option.some.inj hz
        subst this
        exact ⟨r, rfl, hR.same s1⟩
      · have : (t : Int) = z := Option.some.inj hz
        subst this
        exact ⟨t, rfl, hL.same s2⟩
      · cases hz
  · have e1 : (fun z => rest z + hold r z + one t z) = fun z => rest z + one t z + one r z := by
      funext z
      rw [hold_pos hr]
      omega
    rw [e1] at h
    refine (grow2_calls o r m t w h hr rfl hb (fun z hz => by cases hz) hkl h2 hm hL.1 hlm).mono ?_
    rintro e w' ⟨k', O', f', live', rfl, hA, hll, hR, hS, hk0, ho, hK, hO, hF⟩
    refine ⟨k', O', f', live', rfl, hA, hll, hk0, .inr (.inr ⟨by omega, hk0, ?_, ?_, fun j z hz => ?_⟩), hK, hO, hF⟩
    · rw [hR]; exact hv
    · rw [hR]
      show ((f r).kids ++ [(t : Int)]).length = m + 1
      simp [hkl]
    · rw [hR] at hz
      have hz : ((f r).kids ++ [(t : Int)])[j]? = some z := hz
      by_cases e : j < m
      · have hz2 := hz
        rw [List.getElem?_append_left (by omega)] at hz2
        obtain ⟨k, rfl, hLk⟩ := hk j z hz2
        refine ⟨k, rfl, ?_⟩
        show Leaf f' k (if j = m then v else g j)
        rw [if_neg (by omega)]
        exact hLk.same (hS k (kid_mem hz hLk.1))
      · have hj := (List.getElem?_eq_some_iff.1 hz).1
        simp [hkl] at hj
        obtain rfl : j = m := by omega
        have hz2 := hz
        rw [List.getElem?_append_right (by omega), hkl, Nat.sub_self] at hz2
        have : (t : Int) = z := Option.some.inj hz2
        subst this
        refine ⟨t, rfl, ?_⟩
        show Leaf f' t (if j = j then v else g j)
        rw [if_pos rfl]
        exact hL.same (hS t (kid_mem hz hL.1))
end
/-- One value more in the tail. -/
theorem VRep.tail {f f' : Nat → Cell} {n r t t' : Nat} {l : List V3} {x : V3} (h : VRep f n r t l) (hn : n % 32 ≠ 0) (hn2 : n < 1024) (hs : 0 < r → Same f f' r) (hL : Leaf f' t' (l.drop (32 * lvs n) ++ [x])) : VRep f' (n + 1) r t' (l ++ [x]) := by
  obtain ⟨h1, h2, h3⟩ := h
  rcases h3 with ⟨q, _⟩ | ⟨h0, hT, hR⟩
  · omega
  have e1 : lvs (n + 1) = lvs n := by unfold lvs; omega
  have e2 : 32 * lvs n < n := by unfold lvs; omega
  refine ⟨by simp [h1], by omega, .inr ⟨by omega, ?_, ?_⟩⟩
  · rw [e1, List.drop_append_of_le_length (by omega)]
    exact hL
  · rw [e1]
    refine (hR.same hs).congr (fun j hj => ?_)
    unfold leafs
    rw [List.drop_append_of_le_length (by omega), List.take_append_of_le_length]
    rw [List.length_drop]
    omega
/-- The first value. -/
theorem VRep.first {f' : Nat → Cell} {t' : Nat} {x : V3} (hL : Leaf f' t' [x]) : VRep f' 1 0 t' [x] :=
  ⟨rfl, by omega, .inr ⟨by omega, hL, .inl ⟨rfl, rfl⟩⟩⟩
/-- The tail becomes a leaf; a new tail. -/
theorem VRep.leaf {f f' : Nat → Cell} {n r t r' t' : Nat} {l : List V3} {x : V3} (h : VRep f n r t l) (h0 : 0 < n) (hn : n % 32 = 0) (hn2 : n < 1024) (hR : Trunk f' (lvs n + 1) r' (fun j => if j = lvs n then l.drop (32 * lvs n) else leafs l j)) (hL : Leaf f' t' [x]) : VRep f' (n + 1) r' t' (l ++ [x]) := by
  obtain ⟨h1, h2, h3⟩ := h
  have e1 : lvs (n + 1) = lvs n + 1 := by unfold lvs; omega
  have e2 : 32 * (lvs n + 1) = n := by unfold lvs; omega
  refine ⟨by simp [h1], by omega, .inr ⟨by omega, ?_, ?_⟩⟩
  · rw [e1, e2, List.drop_append_of_le_length (by omega), h1, List.drop_length]
    exact hL
  · rw [e1]
    refine hR.congr (fun j hj => ?_)
    show (if j = lvs n then l.drop (32 * lvs n) else leafs l j) = leafs (l ++ [x]) j
    have e3 : leafs (l ++ [x]) j = leafs l j := by
      unfold leafs
      rw [List.drop_append_of_le_length (by omega), List.take_append_of_le_length]
      rw [List.length_drop]
      omega
    rw [e3]
    by_cases q : j = lvs n
    · rw [if_pos q, q]
      exact tail_leafs h1
    · rw [if_neg q]
end Go.Proofs.Ytnipbfhfaefieaa.Pv
/-! pvec: make and change, for Push 1. Printed by wip/tools/gen_pvd.py. -/
namespace Go.Proofs.Ytnipbfhfaefieaa.Pv
open Go.RowKit Go Go.Proofs.YtnipbfhfaefieaaW.PrintWords Go.Proofs.YtnipbfhfaefieaaW.PrintMore Go.Proofs.YtnipbfhfaefieaaW.PrintLast Go.Proofs.Ytnipbfhfaefieaa.Bts Go.Proofs.Ytnipbfhfaefieaa.Fra Go.Proofs.Ytnipbfhfaefieaa.ArnP Go.Proofs.Ytnipbfhfaefieaa.Arn Go.Proofs.Ytnipbfhfaefieaa.Ao
set_option maxHeartbeats 4000000 in
set_option maxRecDepth 100000 in
theorem make_push {O O0 : Nat → Prop} {a : Nat} {f f0 : Nat → Cell} {live most need : Int} {rest ex : Nat → Nat} {op : Nat → Bool} {c : Cell} {R : (Nat → Cell) → Cell → Prop} (o : Int) (v k p1 : Value) (lo : Nat) (w0 w : World) (h : AO w O a f live most (fun z => rest z + ex z + kc c.kids z) op) (hv : VR w lo v c.vals) (hk : KR w lo k c.kids) (hvk : ∀ j, v.ownBlock = some j → k.ownBlock ≠ some j) (hno : ∀ j, v.ownBlock = some j ∨ k.ownBlock = some j → ¬ O j)
    (hcb : Cb 79 (fun p => #[p, p1]) w0 O0 a most rest ex op f0 need c R) (hF : Fr O0 w0 w) (hO : ∀ j, O j → O0 j ∨ w0.heap.size ≤ j) (hlo : w0.heap.size ≤ lo) (hlo2 : lo ≤ w.heap.size) (hK : KeepR (fun x => rest x + ex x) op f0 f) (hS : ∀ x ∈ kidsOf c.kids, Same f0 f x) (hlm : live + need < most) (hro : ∀ z, op z = true → 1 ≤ rest z) :
    Calls Try.prog 82 #[workV a o, cellV c.ow c.a c.b v k, .func (.func 79) #[] #[p1]] w fun e w' => ∃ (i : Nat) (O' : Nat → Prop) (f' : Nat → Cell) (live' : Int) (c' : Cell), e = .returned (.int .i64 i) ∧ AO w' O' a (upd f' i {c' with ow := o, r := 1}) live' most (fun z => rest z + one i z) op ∧ live' ≤ live + need + 1 ∧ R f' c' ∧ (∀ x ∈ kidsOf c'.kids, Same f' (upd f' i {c' with ow := o, r := 1}) x) ∧ 0 < i ∧ op i = false ∧ KeepR rest op f (upd f' i {c' with ow := o, r := 1}) ∧ (∀ j, O' j → O j ∨ w.heap.size ≤ j) ∧ Fr (fun j => O j ∨ v.ownBlock = some j ∨ k.ownBlock = some j) w w' := by
  obtain ⟨A1, c1, e1⟩ := Kd.R_slice hv
  obtain ⟨A2, c2, e2⟩ := Kd.R_slice hk
  subst e1 e2
  have hb : Below w.heap.size w ((w.alloc (.cells #[.pointer (some ⟨a, 0, none⟩), .int .u32 o] 133)).alloc (.cells #[.int .u32 c.ow, .int .u32 c.a, .int .u32 c.b, .slice A1 c.vals.length c1, .slice A2 c.kids.length c2] 43)) := below_alloc (below_alloc (Below.refl _ _) _) _
  have hbw := blk_alloc (blk_new w (.cells #[.pointer (some ⟨a, 0, none⟩), .int .u32 o] 133)) (.cells #[.int .u32 c.ow, .int .u32 c.a, .int .u32 c.b, .slice A1 c.vals.length c1, .slice A2 c.kids.length c2] 43)
  have hbc := new1 w (.cells #[.pointer (some ⟨a, 0, none⟩), .int .u32 o] 133) (.cells #[.int .u32 c.ow, .int .u32 c.a, .int .u32 c.b, .slice A1 c.vals.length c1, .slice A2 c.kids.length c2] 43)
  have hlt := h.lt
  have hvl : ∀ j, (Value.slice A1 c.vals.length c1).ownBlock = some j → j < w.heap.size := fun j hj => by obtain ⟨q, ho⟩ := Kd.R_own hv; exact own_lt ho j hj
  have hkl : ∀ j, (Value.slice A2 c.kids.length c2).ownBlock = some j → j < w.heap.size := fun j hj => by obtain ⟨q, ho⟩ := Kd.R_own hk; exact own_lt ho j hj
  have hcbo : CBO _ O lo (w.heap.size + 1) (.slice A1 c.vals.length c1) (.slice A2 c.kids.length c2) c := ⟨hbc, Kd.R_below hv hb, Kd.R_below hk hb, fun j hj => ⟨hvk j hj, by have := hvl j hj; omega, hno j (.inl hj)⟩, fun j hj => ⟨by have := hkl j hj; omega, hno j (.inr hj)⟩, fun e => by have := hlt _ e; omega⟩
  have hnf : ∀ w : World, (binOp .neq 138 (.func (.func 79) #[] #[p1]) .nilFunc).run Try.prog w = .ok (.bool true) w := fun _ => by kernel_rfl
  have HB := Lib.hid hb
  have HBW := Lib.hid hbw
  have HCB := Lib.hid hcbo
  have HA := Lib.hid (h.below hb)
  have HC := Lib.hid hcb
  have HF := Lib.hid (hF.more hb)
  have HO := Lib.hid hO
  have HK := Lib.hid hK
  have HS := Lib.hid hS
  have HVL := Lib.hid hvl
  have HKL := Lib.hid hkl
  have HLT := Lib.hid hlt
  have HSZ := Lib.hid (show w0.heap.size ≤ w.heap.size from hF.size)
  clear h hcb hbc hbw hcbo hb hF hO hK hS hv hk hvl hkl hlt
  go_enter Try.func82, Try.ntmps82
  go_wp2_with (first
    | (go_at_call 21; go_loud (refine (make_ao o _ _ _ _ c3.vals c3.kids _ HA4.out HV4.out HK4.out (fun j hj => hj) HZ3.out.2.2 (by have := HLL3.out; omega) HZ3.out.1 HZ3.out.2.1 hro).mono ?_; rintro e w5 ⟨i, O5, rfl, hA5, h0, hr, hoi, hK5, hO5, hF5⟩; have HA5 := Lib.hid hA5; have HK5 := Lib.hid hK5; have HO5 := Lib.hid hO5; have HF5 := Lib.hid hF5; clear hA5 hK5 hO5 hF5))
    | (go_at_call 79; go_loud (refine (HC.out _ O f live lo (w.heap.size + 1) _ _ HA.out HF.out HO.out hlo (by simp; omega) (by have := HSZ.out; omega) HCB.out HK.out HS.out (by omega)).mono ?_; rintro e w3 ⟨rfl, O3, f3, live3, c3, v3, k3, hA3, hC3, hF3, hO3, hll3, hK3, hR3, how3, hz1, hz2, hz3⟩; have hbw3 := hF3.blk HBW.out (fun e => by rcases e with e | e | e | e; (have := HLT.out _ e; omega); omega; (have := HVL.out _ e; omega); (have := HKL.out _ e; omega)); obtain ⟨A3, d3, e3⟩ := Kd.R_slice hC3.vr; subst e3; obtain ⟨A4, d4, e4⟩ := Kd.R_slice hC3.kr; subst e4; have r0 := blk_cell hC3.blk 0; have r1 := blk_cell hC3.blk 1; have r2 := blk_cell hC3.blk 2; have r3 := blk_cell hC3.blk 3; have r4 := blk_cell hC3.blk 4; have z0 := blk_frozen hC3.blk 0; have q0 := blk_cell hbw3 0; have q1 := blk_cell hbw3 1; have hF4 : Fr (fun j => j = w.heap.size + 1) w3 (w3.setCell ⟨w.heap.size + 1, 0, none⟩ (.int .u32 o)) := Fr.set _ 0 _; have HF4 := Lib.hid hF4; have HA4 := Lib.hid (hA3.move hF4 (fun j hj e => hC3.no (e ▸ hj))); have HV4 := Lib.hid ((row_ne hC3.rows.1 (fun j hj => (hC3.vk j hj).2.1)).fr kVal_K hF4 (fun j hj => hj.2) |>.mono (fun j hj => hj.1)); have HK4 := Lib.hid ((row_ne hC3.rows.2 (fun j hj => (hC3.kk j hj).1)).fr kInt_K hF4 (fun j hj => hj.2) |>.mono (fun j hj => hj.1)); have HZ3 := Lib.hid (show c3.kids.length ≤ 1000 ∧ c3.vals.length ≤ 1000000000 ∧ ∀ z ∈ c3.kids, 0 ≤ z from ⟨hz1, hz2, hz3⟩); have HLL3 := Lib.hid hll3; have HK3 := Lib.hid hK3; have HR3 := Lib.hid hR3; have HF3 := Lib.hid hF3; have HO3 := Lib.hid hO3; clear hA3 hC3 hF3 hO3 hll3 hK3 hR3 hz1 hz2 hz3 hbw3 hF4)))
  go_ret
  have hll := HLL3.out
  have e5 : (⟨o, c3.a, c3.b, c3.vals, c3.kids, 1⟩ : Cell) = {c3 with ow := o, r := 1} := rfl
  refine ⟨i, O5, f3, live3 + 1, c3, rfl, HA5.out, by omega, HR3.out, fun x hx => ?_, h0, hoi, HK3.out.trans HK5.out, fun j hj => ?_, ?_⟩
  · have hA4 := HA4.out
    have hp : 0 < x := by obtain ⟨z, hz1, hz2, rfl⟩ := kidsOf_mem hx; have := HZ3.out.2.2 z hz1; omega
    have hc : 0 < kc c3.kids x := List.count_pos_iff.2 hx
    have hlx := hA4.ext_lv hp (by show 0 < rest x + kc c3.kids x; omega)
    have hox : op x = false := by
      cases hq : op x
      · rfl
      · have := op_kc hA4 hro x hq; omega
    refine same_step hA4 (fun _ => True) (fun y hy _ => ?_) (fun _ _ _ _ _ => trivial) x ⟨hp, hlx, hox⟩ trivial
    rw [upd_ne _ (fun e => by have := hy.2.1; rw [e] at this; omega)]
  · rcases HO5.out j hj with q | q
    · rcases HO3.out j q with q | q
      · exact .inl q
      · exact .inr (Nat.le_trans HB.out.size q)
    · have h1 := HF3.out.size
      have h2 := HB.out.size
      have h3 := HF4.out.size
      exact .inr (by omega)
  · have h2 := HB.out.size
    have hF34 : Fr (Wr O (w.heap.size + 1) (.slice A1 c.vals.length c1) (.slice A2 c.kids.length c2)) _ _ := HF3.out.then_ HF4.out (fun j hj => .inl (.inr (.inl hj)))
    refine ((Fr.of_new (S := fun j => O j ∨ (Value.slice A1 c.vals.length c1).ownBlock = some j ∨ (Value.slice A2 c.kids.length c2).ownBlock = some j) HB.out).then_ hF34 (fun j hj => ?_)).then_ HF5.out (fun j hj => ?_)
    · rcases hj with e | e | e | e
      · exact .inl (.inl e)
      · exact .inr (by omega)
      · exact .inl (.inr (.inl e))
      · exact .inl (.inr (.inr e))
    · rcases HO3.out j hj with q | q
      · exact .inl (.inl q)
      · exact .inr (by omega)
set_option maxHeartbeats 2000000 in
set_option maxRecDepth 100000 in
theorem change_push {O O0 : Nat → Prop} {a : Nat} {f : Nat → Cell} {live most need : Int} {rest ex : Nat → Nat} {op : Nat → Bool} {R : (Nat → Cell) → Cell → Prop} (o : Int) (i : Nat) (p1 : Value) (w0 w : World) (h : AO w O a f live most (fun z => rest z + ex z + one i z) op) (hi : 0 < i) (ho : op i = false) (hb : ∀ x, rest x + ex x ≤ 80000000000) (hro : ∀ z, op z = true → 1 ≤ rest z)
    (hF : Fr O0 w0 w) (hO : ∀ j, O j → O0 j ∨ w0.heap.size ≤ j) (hc1 : Cb 79 (fun p => #[p, p1]) w0 O0 a most rest ex op f need (f i) R) (hc2 : Cb 79 (fun p => #[p, p1]) w0 O0 a most (fun z => rest z + one i z) ex (fun x => x == i || op x) f need (f i) R) (hlm : live + need < most) :
    Calls Try.prog 78 #[workV a o, .int .i64 i, .func (.func 79) #[] #[p1]] w fun e w' => ∃ (i' : Nat) (O' : Nat → Prop) (f' : Nat → Cell) (live' : Int) (c' : Cell), e = .returned (.int .i64 i') ∧ AO w' O' a (upd f' i' {c' with ow := o, r := 1}) live' most (fun z => rest z + one i' z) op ∧ live' ≤ live + need + 1 ∧ R f' c' ∧ (∀ x ∈ kidsOf c'.kids, Same f' (upd f' i' {c' with ow := o, r := 1}) x) ∧ 0 < i' ∧ op i' = false ∧ KeepR rest op f (upd f' i' {c' with ow := o, r := 1}) ∧ (∀ j, O' j → O j ∨ w.heap.size ≤ j) ∧ Fr O w w' := by
  have hone : one i i = 1 := if_pos rfl
  have hlive : 0 < (f i).r := h.ext_lv hi (by show 0 < rest i + ex i + one i i; omega)
  have hLv : Lv f op i := ⟨hi, hlive, ho⟩
  have hkn := AO.kn h hLv
  have hkl := AO.kl h hlive
  have H := Lib.hid h
  have HF := Lib.hid hF
  have HO := Lib.hid hO
  have HC1 := Lib.hid hc1
  have HC2 := Lib.hid hc2
  have HLT := Lib.hid h.lt
  have HBB := Lib.hid hb
  have HRO := Lib.hid hro
  have HKN := Lib.hid hkn
  have HKL := Lib.hid hkl
  have HSZ := Lib.hid (show w0.heap.size ≤ w.heap.size from hF.size)
  have hnB : ∀ b, w.heap.size ≤ b → ¬ O b := fun b hb e => by have := HLT.out b e; omega
  have HNB := Lib.hid hnB
  clear h hc1 hc2 hkn hkl hF hO hb hro hnB
  by_cases hin : o ≠ 0 ∧ (f i).ow = o ∧ (f i).r = 1
  · obtain ⟨g0, g1, g2⟩ := hin
    have b0 : (o != 0) = true := by simpa using g0
    have b1 : ((f i).ow == o) = true := by simpa using g1
    have b2 : ((f i).r == 1) = true := by simpa using g2
    have hri : rest i = 0 := by
      have h1 : ((rest i + ex i + one i i : Nat) : Int) ≤ (f i).r := H.out.ext_r hi
      omega
    have HG := Lib.hid g1
    have HG2 := Lib.hid g2
    have HRI := Lib.hid hri
    clear g1 g2 hri
    go_enter Try.func78, Try.ntmps78
    go_wp2_with (first
      | (go_at_call 28; go_loud (refine HE.out.mono ?_; rintro e w5 ⟨rfl, O5, hA5, hO5, hF5⟩; have HA5 := Lib.hid hA5; have HO5 := Lib.hid hO5; have HF5 := Lib.hid hF5; clear hA5 hO5 hF5))
      | (go_at_call 79; go_loud (refine (HC2.out _ O f live (w.heap.size + 1) w1.heap.size _ _ HAO.out HF2.out HO.out (by have := HSZ.out; omega) HS2.out.1 (by have := HSZ.out; have := HS2.out.2; omega) HCB2.out (KeepR.refl _ _ _) (fun x _ => Same.refl _ _) (by omega)).mono ?_; rintro e w3 ⟨rfl, O3, f3, live3, c3, v3, k3, hA3, hC3, hF3, hO3, hll3, hK3, hR3, how3, hz1, hz2, hz3⟩; have hbw3 := hF3.blk HBW2.out (HNW.out); have q0 := blk_cell hbw3 0; have q1 := blk_cell hbw3 1; obtain ⟨A3, d3, e3⟩ := Kd.R_slice hC3.vr; subst e3; obtain ⟨A4, d4, e4⟩ := Kd.R_slice hC3.kr; subst e4; have r0 := blk_cell hC3.blk 0; have r1 := blk_cell hC3.blk 1; have r2 := blk_cell hC3.blk 2; have r3 := blk_cell hC3.blk 3; have r4 := blk_cell hC3.blk 4; have hf3i : f3 i = f i := (hK3 i hi (by show 0 < rest i + one i i; omega)).1 (by simp); have HE := Lib.hid (edit_in hA3 hC3 hf3i g0 hi HG2.out HG.out ho hone (fun x => Nat.le_trans (Nat.le_add_right _ _) (HBB.out x)) HRO.out hz1 hz2 hz3); have HA3 := Lib.hid hA3; have HZ3 := Lib.hid (show c3.kids.length ≤ 1000 ∧ c3.vals.length ≤ 1000000000 ∧ ∀ z ∈ c3.kids, 0 ≤ z from ⟨hz1, hz2, hz3⟩); have HLL3 := Lib.hid hll3; have HK3 := Lib.hid hK3; have HR3 := Lib.hid hR3; have HF3 := Lib.hid hF3; have HO3 := Lib.hid hO3; clear how3 hA3 hC3 hF3 hO3 hll3 hK3 hR3 hz1 hz2 hz3 hbw3 hf3i))
      | (go_at_call 26; go_loud (refine (refs_ao i _ (H.out.below HB2.out) hi hlive).mono ?_; rintro e w2 ⟨rfl, hB2⟩; have hb3 := below_step HB2.out hB2; have hbw := blk_below HBW1.out hB2; have q0 := blk_cell hbw 0; have q1 := blk_cell hbw 1; have hcb2 := HCB1.out.below hB2; have HBW2 := Lib.hid hbw; have HCB2 := Lib.hid hcb2; have HF2 := Lib.hid (HF.out.more hb3); have HAO := Lib.hid (open_ex (H.out.below hb3) hi HG2.out ho hone HBB.out); have HS2 := Lib.hid (show w.heap.size + 1 ≤ w2.heap.size ∧ w.heap.size + 1 ≤ w1.heap.size from ⟨by have h1 := hB2.size; simp at h1; have h2 := HS1.out; omega, HS1.out⟩); have HNW := Lib.hid (wr_no HNB.out HVK1.out (show w.heap.size + 1 ≤ w1.heap.size from HS1.out)); have HB3 := Lib.hid hb3; clear hB2 hbw hcb2 hb3))
      | (go_at_call 24; go_loud (refine (get_AO i _ (H.out.below (by repeat (first | (with_reducible first | exact Below.refl _ _ | apply below_alloc | apply pw_below_drewN | apply below_drew1)))) hi hlive).mono ?_; rintro e w1 ⟨v, k, rfl, hv1, hk1, hd1, hB1⟩; obtain ⟨A1, c1, e1⟩ := Kd.R_slice hv1; subst e1; obtain ⟨A2, c2, e2⟩ := Kd.R_slice hk1; subst e2; have HS1 := Lib.hid (show w.heap.size + 1 ≤ w1.heap.size by have := hB1.size; simpa using this); have hb2 := below_alloc (below_step (below_alloc (Below.refl w.heap.size w) (.cells #[.pointer (some ⟨a, 0, none⟩), .int .u32 o] 133)) hB1) (.cells #[.int .u32 (f i).ow, .int .u32 (f i).a, .int .u32 (f i).b, .slice A1 (f i).vals.length c1, .slice A2 (f i).kids.length c2] 43); have HBW1 := Lib.hid (blk_alloc (blk_below (blk_new w (.cells #[.pointer (some ⟨a, 0, none⟩), .int .u32 o] 133)) hB1) (.cells #[.int .u32 (f i).ow, .int .u32 (f i).a, .int .u32 (f i).b, .slice A1 (f i).vals.length c1, .slice A2 (f i).kids.length c2] 43)); have q0 := blk_cell HBW1.out 0; have q1 := blk_cell HBW1.out 1; have HCB1 := Lib.hid (cbo_new hv1 hk1 hd1 HNB.out (by simp) HS1.out); have HVK1 := Lib.hid (rows_from (w := w) hv1 hk1 (by simp)); have HB2 := Lib.hid hb2; clear hv1 hk1 hd1 hB1 hb2)))
    go_ret
    have hll := HLL3.out
    have hA3 := HA3.out
    have hlvE : ∀ j, Lv f3 (fun x => x == i || op x) j → Same f3 (upd f3 i {c3 with ow := o, r := 1}) j := fun j hj => same_step hA3 (fun _ => True) (fun y hy _ => by rw [upd_ne _ (fun (e : y = i) => by have h1 : (y == i || op y) = false := hy.2.2; rw [e] at h1; simp at h1)]) (fun _ _ _ _ _ => trivial) j hj trivial
    have hro' : ∀ z, (fun x => x == i || op x) z = true → 1 ≤ rest z + one i z := by
      intro z hz
      by_cases e : z = i
      · subst e; omega
      · have hz2 : (z == i || op z) = true := hz
        rw [show (z == i) = false by simpa using e, Bool.false_or] at hz2
        have := HRO.out z hz2
        omega
    refine ⟨i, O5, f3, live3, c3, rfl, HA5.out, by omega, HR3.out, fun x hx => ?_, hi, ho, fun j h0 hj => ?_, fun j hj => ?_, ?_⟩
    · have hp : 0 < x := by obtain ⟨z, hz1, hz2, rfl⟩ := kidsOf_mem hx; have := HZ3.out.2.2 z hz1; omega
      have hc : 0 < kc c3.kids x := List.count_pos_iff.2 hx
      refine hlvE x ⟨hp, hA3.ext_lv hp (by show 0 < rest x + one i x + kc c3.kids x; omega), ?_⟩
      cases hq : (fun x => x == i || op x) x
      · rfl
      · have := op_kc (rest := fun z => rest z + one i z) hA3 hro' x hq; omega
    · have hji : j ≠ i := fun e => by have := HRI.out; rw [e] at hj; omega
      have hji' : (j == i) = false := by simpa using hji
      have hk := HK3.out j h0 (by show 0 < rest j + one i j; omega)
      refine ⟨fun hoj => by rw [upd_ne _ hji]; exact hk.1 (by show (j == i || op j) = true; rw [hoj, Bool.or_true]), fun hoj => ?_⟩
      have hoj' : (j == i || op j) = false := by rw [hji', hoj]; rfl
      exact (hk.2 hoj').trans (hlvE j ⟨h0, hA3.ext_lv h0 (by show 0 < rest j + one i j + kc c3.kids j; omega), hoj'⟩)
    · have h1 := HF3.out.size
      have h2 := HB3.out.size
      rcases HO5.out j hj with q | q
      · rcases HO3.out j q with q | q
        · exact .inl q
        · exact .inr (by omega)
      · exact .inr (by omega)
    · have h1 := HS2.out
      have h2 := HB3.out.size
      refine ((Fr.of_new (S := O) HB3.out).then_ HF3.out (fun j hj => ?_)).then_ HF5.out (fun j hj => ?_)
      · rcases hj with e | e | e | e
        · exact .inl e
        · exact .inr (by omega)
        · exact .inr (by have := HVK1.out j (.inl e); omega)
        · exact .inr (by have := HVK1.out j (.inr e); omega)
      · rcases HO3.out j hj with q | q
        · exact .inl q
        · exact .inr (by omega)
  · have hcs : (o != 0) = false ∨ ((o != 0) = true ∧ ((f i).ow == o) = false) ∨ ((o != 0) = true ∧ ((f i).ow == o) = true ∧ ((f i).r == 1) = false) := by
      by_cases g0 : o = 0
      · exact .inl (by simpa using g0)
      · by_cases g1 : (f i).ow = o
        · exact .inr (.inr ⟨by simpa using g0, by simpa using g1, by simpa using fun g2 => hin ⟨g0, g1, g2⟩⟩)
        · exact .inr (.inl ⟨by simpa using g0, by simpa using g1⟩)
    clear hin
    rcases hcs with b0 | ⟨b0, b1⟩ | ⟨b0, b1, b2⟩
    all_goals (
      go_enter Try.func78, Try.ntmps78
      go_wp2_with (first
        | (go_at_call 26; go_loud (refine (refs_ao i _ (H.out.below HB2x.out) hi hlive).mono ?_; rintro e w2 ⟨rfl, hB2⟩; have hb3 := below_step HB2x.out hB2; have hbw := blk_below HBWx.out hB2; have q0 := blk_cell hbw 0; have q1 := blk_cell hbw 1; have HBWx := Lib.hid hbw; have HB2x := Lib.hid hb3; clear hB2 hbw hb3))
        | (go_at_call 24; go_loud (refine (get_AO i _ (H.out.below (by repeat (first | (with_reducible first | exact Below.refl _ _ | apply below_alloc | apply pw_below_drewN | apply below_drew1)))) hi hlive).mono ?_; rintro e w1 ⟨v, k, rfl, hv1, hk1, hd1, hB1⟩; obtain ⟨A1, c1, e1⟩ := Kd.R_slice hv1; subst e1; obtain ⟨A2, c2, e2⟩ := Kd.R_slice hk1; subst e2; have hb2 := below_alloc (below_step (below_alloc (Below.refl w.heap.size w) (.cells #[.pointer (some ⟨a, 0, none⟩), .int .u32 o] 133)) hB1) (.cells #[.int .u32 (f i).ow, .int .u32 (f i).a, .int .u32 (f i).b, .slice A1 (f i).vals.length c1, .slice A2 (f i).kids.length c2] 43); have HBWx := Lib.hid (blk_alloc (blk_below (blk_new w (.cells #[.pointer (some ⟨a, 0, none⟩), .int .u32 o] 133)) hB1) (.cells #[.int .u32 (f i).ow, .int .u32 (f i).a, .int .u32 (f i).b, .slice A1 (f i).vals.length c1, .slice A2 (f i).kids.length c2] 43)); have q0 := blk_cell HBWx.out 0; have q1 := blk_cell HBWx.out 1; have HB2x := Lib.hid hb2; clear hv1 hk1 hd1 hB1 hb2)))
      have hbd := below_drew1 HB2x.out
      have hAd := H.out.below hbd
      have hbwd := blk_drew HBWx.out
      have HBD := Lib.hid hbd
      have HAD := Lib.hid hAd
      have HBWD := Lib.hid hbwd
      have HBB9 := Lib.hid (fun x => Nat.le_trans (HBB.out x) (show 80000000000 ≤ 90000000000 by decide))
      clear hbd hAd hbwd q0 q1
      refine start_ (n := 7) (S := fun w' => w'.cell? ⟨w.heap.size, 0, none⟩ = some (.pointer (some ⟨a, 0, none⟩)) ∧ w'.cell? ⟨w.heap.size, 1, none⟩ = some (.int .u32 o)) (ds := [5]) #[false, false, false, false, false, false, false] (by kernel_rfl) rfl rfl ⟨(blk_cell HBWD.out 0), (blk_cell HBWD.out 1)⟩ (fun hHeld => ?_)
      refine pure_ (i := 2) (N := some 45) (v := ?_) (a' := ?_) #[false, false, true, false, false, false, false] rfl rfl (by kernel_rfl) (fun _ _ _ h => h) (Or.inl ⟨by rfl, ?_⟩) ?_ ?_
      rotate_left
      · intro w'
        go_simp
        with_reducible rfl
      rotate_left
      · simp only [Act.put, List.setIfInBounds_toArray, List.set_cons_zero, List.set_cons_succ, i64_w, i32_w]
        rfl
      refine pure_ (i := 4) (N := some 47) (v := ?_) (a' := ?_) #[false, false, true, false, true, false, false] rfl rfl (by kernel_rfl) (fun _ _ _ h => h) (Or.inl ⟨by rfl, ?_⟩) ?_ ?_
      rotate_left
      · intro w'
        go_simp
        with_reducible rfl
      rotate_left
      · simp only [Act.put, List.setIfInBounds_toArray, List.set_cons_zero, List.set_cons_succ, i64_w, i32_w]
        rfl
      refine take_ (i := 0) (N := some 43) (v := ?_) (a' := ?_) #[true, false, true, false, true, false, false] rfl rfl (by kernel_rfl) (fun _ _ _ h => h) (Or.inl ⟨by rfl, ?_⟩) hHeld ?_ ?_
      rotate_left
      · rintro w' ⟨s0, s1⟩
        go_simp
        with_reducible rfl
      rotate_left
      · simp only [Act.put, List.setIfInBounds_toArray, List.set_cons_zero, List.set_cons_succ, i64_w, i32_w]
        rfl
      refine take_ (i := 1) (N := some 44) (v := ?_) (a' := ?_) #[true, true, true, false, true, false, false] rfl rfl (by kernel_rfl) (fun _ _ _ h => h) (Or.inl ⟨by rfl, ?_⟩) hHeld ?_ ?_
      rotate_left
      · rintro w' ⟨s0, s1⟩
        go_simp
        with_reducible rfl
      rotate_left
      · simp only [Act.put, List.setIfInBounds_toArray, List.set_cons_zero, List.set_cons_succ, i64_w, i32_w]
        rfl
      refine one_ (i := 3) (N := some 46) #[true, true, true, true, true, false, false] rfl rfl (by kernel_rfl) (by decide) (fun K hK => ?_)
      refine goes_ Try.func87 (by kernel_rfl) rfl #[workV a o, .int .i64 i] (by rfl) rfl rfl (by simp only [List.map_toArray, List.map_cons, List.map_nil]; rfl) ?_
      with_reducible refine (open_calls o i _ HAD.out hi ho HBB9.out).mono ?_
      rintro e w3 ⟨v3, k3, O3, f3, live3, rfl, hv3, hk3, hd3, hn3, hA3, hK3, hS3, hll3, hO3, hF3⟩
      refine ⟨_, rfl, ?_⟩
      have hbw3 := hF3.blk HBWD.out (HNB.out _ (Nat.le_refl _))
      refine hK.out _ _ ⟨(blk_cell hbw3 0), (blk_cell hbw3 1)⟩ (fun hHeld => ?_)
      clear hK K
      refine norm_ (a' := ?_) ?_ ?_
      rotate_left
      · show Act.put _ (some 46) _ = _
        simp only [Act.put, List.setIfInBounds_toArray, List.set_cons_zero, List.set_cons_succ, i64_w, i32_w]
        rfl
      refine last_ (i := 5) (N := some 48) #[true, true, true, true, true, true, false] rfl rfl (by kernel_rfl) (by decide) (fun K hK => ?_)
      refine goes_ Try.func82 (by kernel_rfl) rfl #[workV a o, cellV (f i).ow (f i).a (f i).b v3 k3, .func (.func 79) #[] #[p1]] (by rfl) rfl rfl (by simp only [List.map_toArray, List.map_cons, List.map_nil]; rfl) ?_
      with_reducible refine (make_push o v3 k3 p1 _ w0 _ hA3 hv3 hk3 hd3 hn3 HC1.out ((HF.out.more HBD.out).then_ hF3 (fun j hj => HO.out j hj)) (fun j hj => (hO3 j hj).elim (HO.out j) (fun q => .inr (Nat.le_trans HSZ.out (Nat.le_trans HBD.out.size q)))) (Nat.le_trans HSZ.out HBD.out.size) hF3.size hK3 hS3 (by omega) HRO.out).mono ?_
      rintro e w4 ⟨i4, O4, f4, live4, c4, rfl, hA4, hll4, hR4, hk4, hi4, ho4, hK4, hO4, hF4⟩
      refine ⟨_, rfl, ?_⟩
      refine hK.out _ _ ?_
      clear hK K
      refine norm_ (a' := ?_) ?_ ?_
      rotate_left
      · show Act.put _ (some 48) _ = _
        simp only [Act.put, List.setIfInBounds_toArray, List.set_cons_zero, List.set_cons_succ, i64_w, i32_w]
        rfl
      refine pure_ (i := 6) (N := some 6) (v := ?_) (a' := ?_) #[true, true, true, true, true, true, true] rfl rfl (by kernel_rfl) (fun _ _ _ h => h) (Or.inl ⟨by rfl, ?_⟩) ?_ ?_
      rotate_left
      · intro w'
        go_simp
        with_reducible rfl
      rotate_left
      · simp only [Act.put, List.setIfInBounds_toArray, List.set_cons_zero, List.set_cons_succ, i64_w, i32_w]
        rfl
      refine done_ (by kernel_rfl) ?_

      have HA4 := Lib.hid hA4
      have HR4 := Lib.hid hR4
      have HKS4 := Lib.hid hk4
      have HK4 := Lib.hid ((hK3.mono (rest' := rest) (fun j hj => by show 0 < rest j + ex j; omega)).trans hK4)
      have HLL4 := Lib.hid (show live4 ≤ live + need + 1 by omega)
      have HO4 := Lib.hid (show ∀ j, O4 j → O j ∨ w.heap.size ≤ j from fun j hj => by
        have h1 := HBD.out.size
        have h2 := hF3.size
        rcases hO4 j hj with q | q
        · rcases hO3 j q with q | q
          · exact .inl q
          · exact .inr (by omega)
        · exact .inr (by omega))
      have HF4 := Lib.hid (show Fr O w w4 from ((Fr.of_new (S := O) HBD.out).trans hF3).then_ hF4 (fun j hj => by
        have h1 := HBD.out.size
        rcases hj with q | q | q
        · rcases hO3 j q with q | q
          · exact .inl q
          · exact .inr (by omega)
        · obtain ⟨q1, o1⟩ := Kd.R_own hv3
          have := own_base o1 j q
          exact .inr (by omega)
        · obtain ⟨q1, o1⟩ := Kd.R_own hk3
          have := own_base o1 j q
          exact .inr (by omega)))
      clear hHeld hA4 hR4 hk4 hK3 hK4 hll3 hll4 hO3 hO4 hF3 hF4 hA3 hv3 hk3 hd3 hn3 hS3 hbw3
      go_wp2
      go_ret
      exact ⟨i4, O4, f4, live4, c4, rfl, HA4.out, HLL4.out, HR4.out, HKS4.out, hi4, ho4, HK4.out, HO4.out, HF4.out⟩)
end Go.Proofs.Ytnipbfhfaefieaa.Pv
/-! pvec: a value more in the tail. -/
namespace Go.Proofs.Ytnipbfhfaefieaa.Pv
open Go.RowKit Go Go.Proofs.YtnipbfhfaefieaaW.PrintWords Go.Proofs.YtnipbfhfaefieaaW.PrintMore Go.Proofs.YtnipbfhfaefieaaW.PrintLast Go.Proofs.Ytnipbfhfaefieaa.Bts Go.Proofs.Ytnipbfhfaefieaa.Fra Go.Proofs.Ytnipbfhfaefieaa.ArnP Go.Proofs.Ytnipbfhfaefieaa.Arn Go.Proofs.Ytnipbfhfaefieaa.Ao
section
variable {O : Nat → Prop} {a : Nat} {f : Nat → Cell} {live most : Int} {ext rest : Nat → Nat}
theorem pushT_calls (o : Int) (t xb : Nat) (q m : Int) (s : ByteArray) (w : World) (h : AO w O a f live most (fun z => rest z + one t z) nop) (hx : ValB w xb q m s) (hxO : ¬ O xb) (ht : 0 < t) (hl : (f t).vals.length < 1000) (hb : ∀ x, rest x ≤ 80000000000) (hlm : live < most) :
    Calls Try.prog 78 #[workV a o, .int .i64 t, .func (.func 79) #[] #[.pointer (some ⟨xb, 0, none⟩)]] w fun e w' => ∃ (t' : Nat) (O' : Nat → Prop) (f' : Nat → Cell) (live' : Int), e = .returned (.int .i64 t') ∧ AO w' O' a f' live' most (fun z => rest z + one t' z) nop ∧ live' ≤ live + 1 ∧ 0 < t' ∧ f' t' = {f t with vals := (f t).vals ++ [(q, m, s)], ow := o, r := 1} ∧ KeepR rest nop f f' ∧ (∀ j, O' j → O j ∨ w.heap.size ≤ j) ∧ Fr O w w' := by
  have hlive : 0 < (f t).r := h.ext_lv ht (by show 0 < rest t + one t t; have : one t t = 1 := if_pos rfl; omega)
  have hkl := (AO.kl h hlive).1
  have hkn := AO.kn h ⟨ht, hlive, rfl⟩
  have hA' : AO w O a f live most (fun z => rest z + zf z + one t z) nop := h
  refine (change_push (need := 0) o t (.pointer (some ⟨xb, 0, none⟩)) w w hA' ht rfl hb (fun z hz => by cases hz) (Fr.refl O w) (fun j hj => .inl hj) (cb_push w hx hxO hl hkl hkn) (cb_push w hx hxO hl hkl hkn) (by omega)).mono ?_
  rintro e w5 ⟨k', O5, f5, live5, c5, rfl, hA5, hll5, hc, hS5, hk5, ho5, hK5, hO5, hF5⟩
  subst hc
  exact ⟨k', O5, _, live5, rfl, hA5, by omega, hk5, upd_eq _ _ _, hK5, hO5, hF5⟩
theorem begin_ok (o : Int) (n r t : Nat) (w : World) (h : AO w O a f live most (fun z => rest z + vx r t z) nop) (hn : n ≤ 1024) (he : ∀ x, rest x ≤ 50000000000) (hful : ¬ most - live < (lev (lvs n + 1) : Int) + 3) :
    Calls Try.prog 77 #[.pointer (some ⟨a, 0, none⟩), vecV n r t, .int .u32 o] w fun e w' => e = .returned (.tuple #[workV a o, .int .i64 0]) ∧ ∃ f', AO w' O a f' live most (fun z => RR rest o r t z + vx r t z) nop ∧ OnlyR f f' ∧ KeepR (fun z => RR rest o r t z + vx r t z) nop f f' ∧ Fr O w w' := by
  have hr : r = 0 ∨ 0 < (f r).r := (Nat.eq_zero_or_pos r).imp id (fun q => h.ext_lv q (by have := vx_r (t := t) q; omega))
  have ht : t = 0 ∨ 0 < (f t).r := (Nat.eq_zero_or_pos t).imp id (fun q => h.ext_lv q (by have := vx_t (r := r) q; omega))
  refine (begin_calls o n r t w h hn hr ht (fun x => by have := he x; have : vx r t x ≤ 2 := (by unfold vx; have := hold_le r x; have := hold_le t x; omega); omega)).mono ?_
  rintro e w' (⟨q, _⟩ | ⟨_, q1, f', q2, q3⟩)
  · exact absurd q hful
  · have hk : KeepR (fun z => RR rest o r t z + vx r t z) nop f f' := fun j h0 hj => ⟨fun hc => (by cases hc), fun _ => same_only h q3.1 j h0 (h.ext_lv h0 (by
      have hj : 0 < RR rest o r t j + vx r t j := hj
      show 0 < rest j + vx r t j
      unfold RR at hj
      split at hj <;> omega))⟩
    refine ⟨q1, f', ?_, q3.1, hk, q3.2.2⟩
    have e1 : (fun z => RR rest o r t z + vx r t z) = RR (fun z => rest z + vx r t z) o r t := by
      funext z
      show rest z + (if o = 0 then vx r t z else 0) + vx r t z = rest z + vx r t z + (if o = 0 then vx r t z else 0)
      omega
    rw [e1]
    exact q2
theorem begin_full (o : Int) (n r t : Nat) (w : World) (h : AO w O a f live most (fun z => rest z + vx r t z) nop) (hn : n ≤ 1024) (he : ∀ x, rest x ≤ 50000000000) (hful : most - live < (lev (lvs n + 1) : Int) + 3) :
    Calls Try.prog 77 #[.pointer (some ⟨a, 0, none⟩), vecV n r t, .int .u32 o] w fun e w' => e = .returned (.tuple #[.agg #[.pointer none, .int .u32 0], .int .i64 5]) ∧ Below w.heap.size w w' := by
  have hr : r = 0 ∨ 0 < (f r).r := (Nat.eq_zero_or_pos r).imp id (fun q => h.ext_lv q (by have := vx_r (t := t) q; omega))
  have ht : t = 0 ∨ 0 < (f t).r := (Nat.eq_zero_or_pos t).imp id (fun q => h.ext_lv q (by have := vx_t (r := r) q; omega))
  refine (begin_calls o n r t w h hn hr ht (fun x => by have := he x; have : vx r t x ≤ 2 := (by unfold vx; have := hold_le r x; have := hold_le t x; omega); omega)).mono ?_
  rintro e w' (⟨_, q⟩ | ⟨q, _⟩)
  · exact q
  · exact absurd hful q
theorem vx_split (R : Nat → Nat) (r : Nat) {t : Nat} (ht : 0 < t) : (fun z => R z + vx r t z) = fun z => R z + hold r z + one t z := by
  funext z
  unfold vx
  rw [hold_pos ht]
  omega
theorem fr_two (w : World) (b c : Nat) (x y u v z : Value) : Fr (fun j => j = b ∨ j = c) w (((((w.setCell ⟨b, 2, none⟩ x).setCell ⟨b, 0, none⟩ y).setCell ⟨c, 0, none⟩ u).setCell ⟨c, 1, none⟩ v).setCell ⟨c, 2, none⟩ z) :=
  Fr.put (Fr.put (Fr.put (Fr.put (Fr.put (Fr.refl _ w) (p := ⟨b, 2, none⟩) (.inl (.inl rfl)) x) (p := ⟨b, 0, none⟩) (.inl (.inl rfl)) y) (p := ⟨c, 0, none⟩) (.inl (.inr rfl)) u) (p := ⟨c, 1, none⟩) (.inl (.inr rfl)) v) (p := ⟨c, 2, none⟩) (.inl (.inr rfl)) z
theorem RR_le {o : Int} {r t : Nat} (he : ∀ x, rest x ≤ 50000000000) (x : Nat) : RR rest o r t x ≤ 50000000002 := by
  have := he x
  have : vx r t x ≤ 2 := (by unfold vx; have := hold_le r x; have := hold_le t x; omega)
  unfold RR
  split <;> omega
set_option maxHeartbeats 4000000 in
set_option maxRecDepth 100000 in
theorem push_tail (o : Int) (n r t : Nat) (l : List V3) (q m : Int) (s : ByteArray) (w : World) (h : AO w O a f live most (fun z => rest z + vx r t z) nop) (hv : VRep f n r t l) (hn : n < 1024) (hn2 : n % 32 ≠ 0) (he : ∀ x, rest x ≤ 50000000000) (hful : ¬ most - live < (lev (lvs n + 1) : Int) + 3) :
    Calls Try.prog 33 #[.pointer (some ⟨a, 0, none⟩), vecV n r t, valV q m s, .int .u32 o] w fun e w' => ∃ (r' t' : Nat) (O' : Nat → Prop) (f' : Nat → Cell) (live' : Int), e = .returned (.tuple #[vecV ((n : Int) + 1) r' t', .int .i64 0]) ∧ AO w' O' a f' live' most (fun z => RR rest o r t z + vx r' t' z) nop ∧ live' ≤ live + 2 ∧ VRep f' (n + 1) r' t' (l ++ [(q, m, s)]) ∧ KeepR (RR rest o r t) nop f f' ∧ (∀ j, O' j → O j ∨ w.heap.size ≤ j) ∧ Fr O w w' := by
  have hlt := h.lt
  have hv' := hv
  obtain ⟨hl, _, hv2⟩ := hv'
  rcases hv2 with ⟨q0, _⟩ | ⟨h0, hT, hR⟩
  · omega
  have hbx := below_alloc (below_alloc (below_alloc (Below.refl w.heap.size w) (.cells #[.int .i64 n, .int .i64 r, .int .i64 t] 61)) (.cells #[.int .u8 q, .int .i64 m, .string s] 66)) (.cells #[.int .i64 0, .int .i64 0, .int .i64 0] 61)
  have hk0 := blk_alloc (blk_alloc (blk_new w (.cells #[.int .i64 n, .int .i64 r, .int .i64 t] 61)) (.cells #[.int .u8 q, .int .i64 m, .string s] 66)) (.cells #[.int .i64 0, .int .i64 0, .int .i64 0] 61)
  have hk1 := blk_alloc (new1 w (.cells #[.int .i64 n, .int .i64 r, .int .i64 t] 61) (.cells #[.int .u8 q, .int .i64 m, .string s] 66)) (.cells #[.int .i64 0, .int .i64 0, .int .i64 0] 61)
  have hk2 := new2 w (.cells #[.int .i64 n, .int .i64 r, .int .i64 t] 61) (.cells #[.int .u8 q, .int .i64 m, .string s] 66) (.cells #[.int .i64 0, .int .i64 0, .int .i64 0] 61)
  have hbg := begin_ok o n r t _ (h.below hbx) (by omega) he hful
  have hmd : ¬ (n : Int).tmod 32 = 0 := by rw [Int.tmod_eq_emod_of_nonneg (by omega)]; omega
  have hmd2 : ¬ (n : Int) % 32 = 0 := by omega
  have hlong : ¬ (1024 : Int) ≤ (n : Int) := by omega
  have hn9 : (n : Int) ≤ 1023 := by omega
  have hlm : live < most := by omega
  have hvl : (f t).vals.length < 1000 := by
    rw [hT.2.1, List.length_drop]
    unfold lvs
    omega
  have ht0 := hT.1
  have hkds := hT.2.2
  have HBG := Lib.hid hbg
  have HB := Lib.hid hbx
  have HK := Lib.hid (And.intro hk0 (And.intro hk1 hk2))
  have HN := Lib.hid (show ∀ j, w.heap.size ≤ j → ¬ O j from fun j hj e => by have := hlt j e; omega)
  have HV := Lib.hid hv
  have HT := Lib.hid hT
  have HE := Lib.hid he
  have HL := Lib.hid hl
  clear h hbx hk0 hk1 hk2 hbg hlt hv hT hR hful he hl
  go_enter Try.func33, Try.ntmps33
  go_wp2_with (first
    | (go_at_call 78; go_loud (refine (pushT_calls (rest := fun z => RR rest o r t z + hold r z) o t (w.heap.size + 1) q m s _ HA5.out HK5.out.2.1 (HN.out _ (by omega)) ht0 (by rw [HO5.out t]; exact hvl) (fun x => by have := RR_le (o := o) (r := r) (t := t) HE.out x; have := hold_le r x; omega) hlm).mono ?_; rintro e w6 ⟨t', O6, f6, live6, rfl, hA6, hll6, ht6, hf6, hK6, hO6, hF6⟩; have HA6 := Lib.hid hA6; have HF6 := Lib.hid hF6; have HFT := Lib.hid hf6; have HK6 := Lib.hid hK6; have b0 := hF6.blk HK5.out.1 (HN.out _ (by omega)); have b2 := hF6.blk HK5.out.2.2 (HN.out _ (by omega)); have u0 := blk_cell b0 0; have u1 := blk_cell b0 1; have u2 := blk_cell b0 2; have y0 := blk_frozen b0 0; have y1 := blk_frozen b0 1; have y2 := blk_frozen b0 2; have v0 := blk_cell b2 0; have v1 := blk_cell b2 1; have v2 := blk_cell b2 2; have z0 := blk_frozen b2 0; have z1 := blk_frozen b2 1; have z2 := blk_frozen b2 2; have HB6 := Lib.hid (And.intro b0 b2); clear b0 b2 hA6 hf6 hK6 hF6))
    | (go_at_call 77; go_loud (refine HBG.out.mono ?_; rintro e w5 ⟨rfl, f5, hA5, hO5, hk5, hF5⟩; have HKP := Lib.hid hk5; clear hk5; have hA5 := hA5.below (below_alloc (Below.refl _ _) (.cells #[.pointer (some ⟨a, 0, none⟩), .int .u32 o] 133)); rw [vx_split _ r ht0] at hA5; have HA5 := Lib.hid hA5; have HO5 := Lib.hid hO5; have HF5 := Lib.hid hF5; have b0 := hF5.blk HK.out.1 (HN.out _ (by omega)); have b1 := hF5.blk HK.out.2.1 (HN.out _ (by omega)); have b2 := hF5.blk HK.out.2.2 (HN.out _ (by omega)); have c0 := blk_alloc b0 (.cells #[.pointer (some ⟨a, 0, none⟩), .int .u32 o] 133); have c1 := blk_alloc b1 (.cells #[.pointer (some ⟨a, 0, none⟩), .int .u32 o] 133); have c2 := blk_alloc b2 (.cells #[.pointer (some ⟨a, 0, none⟩), .int .u32 o] 133); have s0 := blk_cell c0 0; have s1 := blk_cell c0 1; have s2 := blk_cell c0 2; have HK5 := Lib.hid (And.intro c0 (And.intro c1 c2)); clear b0 b1 b2 c0 c1 c2 hA5 hO5 hF5)))
  refine bodyPost_ret (results_ct rfl _ _ (w.heap.size + 1 + 1) 61 #[.int .i64 ((n : Int) + 1), .int .i64 r, .int .i64 t'] (0, 0) _ rfl (ret3 ((Fr.put (Fr.put (Fr.refl (fun j => j = w.heap.size) w6) (p := ⟨w.heap.size, 2, none⟩) (.inl rfl) _) (p := ⟨w.heap.size, 0, none⟩) (.inl rfl) _).blk HB6.out.2 (by omega)) _ _ _) Try.underlying61 rfl (by kernel_rfl)) rfl ?_
  have hs5 := blk_lt HK5.out.2.2
  have hsw := HF5.out.size
  have hF9 := fr_two w6 w.heap.size (w.heap.size + 1 + 1) (.int .i64 t') (.int .i64 ((n : Int) + 1)) (.int .i64 ((n : Int) + 1)) (.int .i64 r) (.int .i64 t')
  have hA9 := HA6.out
  rw [← vx_split _ r ht6] at hA9
  have hA10 := hA9.move hF9 (fun k hk e => by
    rcases hO6 k hk with q | q
    · rcases e with e | e
      · exact HN.out k (by omega) q
      · exact HN.out k (by omega) q
    · rcases e with e | e <;> omega)
  have hL0 := HKP.out
  have e5 := HO5.out t
  refine ⟨r, t', O6, f6, live6, rfl, hA10, by omega, ?_, ?_, fun j hj => ?_, ?_⟩
  · refine VRep.tail HV.out hn2 hn (fun hr => ?_) ⟨ht6, ?_, ?_⟩
    · have h1 : 0 < vx r t r := vx_r hr
      have h2 : hold r r = 1 := by rw [hold_pos hr]; exact if_pos rfl
      exact ((HKP.out r hr (by show 0 < RR rest o r t r + vx r t r; omega)).2 rfl).trans ((HK6.out r hr (by show 0 < RR rest o r t r + hold r r; omega)).2 rfl)
    · rw [HFT.out, e5]
      show (f t).vals ++ _ = _
      rw [HT.out.2.1]
    · rw [HFT.out, e5]
      exact hkds
  · exact (HKP.out.mono (fun j hj => by show 0 < RR rest o r t j + vx r t j; omega)).trans (HK6.out.mono (fun j hj => by show 0 < RR rest o r t j + hold r j; omega))
  · refine (hO6 j hj).imp id (fun q => ?_)
    have := HB.out.size
    omega
  · have := HB.out.size
    exact (((Fr.of_new HB.out).trans (HF5.out.then_ (Fr.of_new (S := O) (below_alloc (Below.refl _ _) _)) (fun j hj => .inl hj))).trans HF6.out).then_ hF9 (fun j hj => .inr (by rcases hj with e | e <;> omega))
end
end Go.Proofs.Ytnipbfhfaefieaa.Pv
/-! pvec: the first value; without room, and too long. -/
namespace Go.Proofs.Ytnipbfhfaefieaa.Pv
open Go.RowKit Go Go.Proofs.YtnipbfhfaefieaaW.PrintWords Go.Proofs.YtnipbfhfaefieaaW.PrintMore Go.Proofs.YtnipbfhfaefieaaW.PrintLast Go.Proofs.Ytnipbfhfaefieaa.Bts Go.Proofs.Ytnipbfhfaefieaa.Fra Go.Proofs.Ytnipbfhfaefieaa.ArnP Go.Proofs.Ytnipbfhfaefieaa.Arn Go.Proofs.Ytnipbfhfaefieaa.Ao
section
variable {O : Nat → Prop} {a : Nat} {f : Nat → Cell} {live most : Int} {ext rest : Nat → Nat}
theorem row_val1R (w : World) (q m : Int) (s : ByteArray) : RowIn kVal (w.alloc (.cells #[.int .u8 q, .int .i64 m, .string s] 66)) (fun j => w.heap.size ≤ j) (.slice (some ⟨w.heap.size, 0, none⟩) 1 1) [(q, m, s)] := RowIn.of_R (row_val1 w q m s)
theorem row_val2 (w : World) (ob : Obj) (q m : Int) (s : ByteArray) : RowIn kVal ((w.alloc ob).alloc (.cells #[.int .u8 q, .int .i64 m, .string s] 66)) (fun j => w.heap.size ≤ j) (.slice (some ⟨w.heap.size + 1, 0, none⟩) 1 1) [(q, m, s)] := by
  have := row_val1R (w.alloc ob) q m s
  rw [World.size_alloc] at this
  exact this.mono (fun j hj => by omega)
theorem row_noneK (w : World) (Q : Nat → Prop) : RowIn (Kd.int .i64) w Q (.slice none 0 0) [] := row_none _ _ _
set_option maxHeartbeats 4000000 in
set_option maxRecDepth 100000 in
theorem push_first (o : Int) (q m : Int) (s : ByteArray) (w : World) (h : AO w O a f live most (fun z => rest z + vx 0 0 z) nop) (he : ∀ x, rest x ≤ 50000000000) (hful : ¬ most - live < 3) :
    Calls Try.prog 33 #[.pointer (some ⟨a, 0, none⟩), vecV 0 0 0, valV q m s, .int .u32 o] w fun e w' => ∃ (r' t' : Nat) (O' : Nat → Prop) (f' : Nat → Cell) (live' : Int), e = .returned (.tuple #[vecV 1 r' t', .int .i64 0]) ∧ AO w' O' a f' live' most (fun z => RR rest o 0 0 z + vx r' t' z) nop ∧ live' ≤ live + 2 ∧ VRep f' (1) r' t' [(q, m, s)] ∧ KeepR (RR rest o 0 0) nop f f' ∧ (∀ j, O' j → O j ∨ w.heap.size ≤ j) ∧ Fr O w w' := by
  have hlt := h.lt
  have hbx := below_alloc (below_alloc (below_alloc (Below.refl w.heap.size w) (.cells #[.int .i64 0, .int .i64 0, .int .i64 0] 61)) (.cells #[.int .u8 q, .int .i64 m, .string s] 66)) (.cells #[.int .i64 0, .int .i64 0, .int .i64 0] 61)
  have hk0 := blk_alloc (blk_alloc (blk_new w (.cells #[.int .i64 0, .int .i64 0, .int .i64 0] 61)) (.cells #[.int .u8 q, .int .i64 m, .string s] 66)) (.cells #[.int .i64 0, .int .i64 0, .int .i64 0] 61)
  have hk1 := blk_alloc (new1 w (.cells #[.int .i64 0, .int .i64 0, .int .i64 0] 61) (.cells #[.int .u8 q, .int .i64 m, .string s] 66)) (.cells #[.int .i64 0, .int .i64 0, .int .i64 0] 61)
  have hk2 := new2 w (.cells #[.int .i64 0, .int .i64 0, .int .i64 0] 61) (.cells #[.int .u8 q, .int .i64 m, .string s] 66) (.cells #[.int .i64 0, .int .i64 0, .int .i64 0] 61)
  have hbg := begin_ok o 0 0 0 _ (h.below hbx) (by omega) he hful
  have hlm : live < most := by omega
  have HB := Lib.hid hbx
  have HK := Lib.hid (And.intro hk0 (And.intro hk1 hk2))
  have HN := Lib.hid (show ∀ j, w.heap.size ≤ j → ¬ O j from fun j hj e => by have := hlt j e; omega)
  have HE := Lib.hid he
  have e0 : (fun z => RR rest o 0 0 z + vx 0 0 z) = fun z => RR rest o 0 0 z + kc [] z := by
    funext z
    rfl
  obtain ⟨RW, hRW⟩ : ∃ RW, RR rest o 0 0 = RW := ⟨_, rfl⟩
  rw [hRW] at hbg e0 ⊢
  have HBG := Lib.hid hbg
  clear h hbx hk0 hk1 hk2 hbg hlt hful he
  go_enter Try.func33, Try.ntmps33
  go_wp2_with (first
    | (go_at_call 82; go_loud (refine (make_nil (Q := fun j => w5.heap.size ≤ j) (rest := RW) o 0 0 0 _ _ [(q, m, s)] [] _ (HA5.out.below (below_alloc (Below.refl _ _) (.cells #[.int .u8 q, .int .i64 m, .string s] 66))) (row_val2 _ _ q m s) (row_noneK _ _) (fun j hj hj2 => (by have := HN.out j (by have := HF5.out.size; have := HB.out.size; omega); exact this hj2)) (by intro z hz; cases hz) (by omega) (by simp) (by simp) (fun z hz => by cases hz)).mono ?_; rintro e w6 ⟨i, O6, rfl, hA6, hi0, hri, _, hK6, hO6, hF6⟩; have HA6 := Lib.hid hA6; have HF6 := Lib.hid hF6; have HK6 := Lib.hid hK6; have b0 := hF6.blk (blk_alloc HK5.out.1 (.cells #[.int .u8 q, .int .i64 m, .string s] 66)) (HN.out _ (by omega)); have b2 := hF6.blk (blk_alloc HK5.out.2.2.1 (.cells #[.int .u8 q, .int .i64 m, .string s] 66)) (HN.out _ (by omega)); have u0 := blk_cell b0 0; have u1 := blk_cell b0 1; have u2 := blk_cell b0 2; have y0 := blk_frozen b0 0; have y1 := blk_frozen b0 1; have y2 := blk_frozen b0 2; have v0 := blk_cell b2 0; have v1 := blk_cell b2 1; have v2 := blk_cell b2 2; have z0 := blk_frozen b2 0; have z1 := blk_frozen b2 1; have z2 := blk_frozen b2 2; have HB6 := Lib.hid (And.intro b0 b2); clear b0 b2 hA6 hK6 hF6))
    | (go_at_call 77; go_loud (refine HBG.out.mono ?_; rintro e w5 ⟨rfl, f5, hA5, hO5, hk5, hF5⟩; have HKP := Lib.hid hk5; clear hk5; have hA5 := hA5.below (below_alloc (Below.refl _ _) (.cells #[.pointer (some ⟨a, 0, none⟩), .int .u32 o] 133)); rw [e0] at hA5; have HA5 := Lib.hid hA5; have HO5 := Lib.hid hO5; have HF5 := Lib.hid hF5; have b0 := hF5.blk HK.out.1 (HN.out _ (by omega)); have b1 := hF5.blk HK.out.2.1 (HN.out _ (by omega)); have b2 := hF5.blk HK.out.2.2 (HN.out _ (by omega)); have c0 := blk_alloc b0 (.cells #[.pointer (some ⟨a, 0, none⟩), .int .u32 o] 133); have c1 := blk_alloc b1 (.cells #[.pointer (some ⟨a, 0, none⟩), .int .u32 o] 133); have c2 := blk_alloc b2 (.cells #[.pointer (some ⟨a, 0, none⟩), .int .u32 o] 133); have c3 := blk_new w5 (.cells #[.pointer (some ⟨a, 0, none⟩), .int .u32 o] 133); have s0 := blk_cell c0 0; have s1 := blk_cell c0 1; have s2 := blk_cell c0 2; have p0 := blk_cell c1 0; have p1 := blk_cell c1 1; have p2 := blk_cell c1 2; have k0 := blk_cell c3 0; have k1 := blk_cell c3 1; have HK5 := Lib.hid (And.intro c0 (And.intro c1 (And.intro c2 c3))); clear b0 b1 b2 c0 c1 c2 c3 hA5 hO5 hF5)))
  refine bodyPost_ret (results_ct rfl _ _ (w.heap.size + 1 + 1) 61 #[.int .i64 1, .int .i64 0, .int .i64 i] (0, 0) _ rfl (ret3 ((Fr.put (Fr.put (Fr.refl (fun j => j = w.heap.size) w6) (p := ⟨w.heap.size, 2, none⟩) (.inl rfl) _) (p := ⟨w.heap.size, 0, none⟩) (.inl rfl) _).blk HB6.out.2 (by omega)) _ _ _) Try.underlying61 rfl (by kernel_rfl)) rfl ?_
  have hs5 := blk_lt HK5.out.2.2.1
  have hsw := HF5.out.size
  have hsb := HB.out.size
  simp only [World.size_alloc] at hs5 hsw hsb
  have hF9 := fr_two w6 w.heap.size (w.heap.size + 1 + 1) (.int .i64 i) (.int .i64 1) (.int .i64 1) (.int .i64 0) (.int .i64 i)
  have hA9 := HA6.out
  have e9 : (fun z => RW z + one i z) = fun z => RW z + vx 0 i z := by
    funext z
    unfold vx
    rw [hold_pos hi0, hold_zero]
    show _ = RW z + (0 + one i z)
    omega
  rw [e9] at hA9
  have hA10 := hA9.move hF9 (fun k hk e => by
    rcases hO6 k hk with q | q
    · rcases e with e | e
      · exact HN.out k (by omega) q
      · exact HN.out k (by omega) q
    · try simp only [World.size_alloc] at q
      rcases e with e | e <;> omega)
  refine ⟨0, i, O6, _, _, rfl, hA10, by omega, VRep.first ⟨hi0, by rw [upd_eq], by rw [upd_eq]⟩, (HKP.out.mono (fun j hj => by show 0 < RW j + vx 0 0 j; omega)).trans HK6.out, fun j hj => ?_, ?_⟩
  · refine (hO6 j hj).imp id (fun q => ?_)
    try simp only [World.size_alloc] at q
    omega
  · exact (((Fr.of_new HB.out).trans (HF5.out.then_ (Fr.of_new (S := O) (below_alloc (below_alloc (Below.refl _ _) (.cells #[.pointer (some ⟨a, 0, none⟩), .int .u32 o] 133)) (.cells #[.int .u8 q, .int .i64 m, .string s] 66))) (fun j hj => .inl hj))).trans HF6.out).then_ hF9 (fun j hj => .inr (by rcases hj with e | e <;> omega))
end
end Go.Proofs.Ytnipbfhfaefieaa.Pv
