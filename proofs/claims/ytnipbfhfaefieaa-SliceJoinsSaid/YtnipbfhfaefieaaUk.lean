/- Texts of this claim, laid together: PvL, PvM, PvN, PvO, ArAr, PvP. -/
import Derived.Test.YtnipbfhfaefieaaUj
import Derived.Test.YtnipbfhfaefieaaUg
/-! pvec: a path of no levels; a cell's kids become others. -/
namespace Go.Proofs.Ytnipbfhfaefieaa.Pv
open Go.RowKit Go Go.Proofs.YtnipbfhfaefieaaW.PrintWords Go.Proofs.YtnipbfhfaefieaaW.PrintMore Go.Proofs.YtnipbfhfaefieaaW.PrintLast Go.Proofs.Ytnipbfhfaefieaa.Bts Go.Proofs.Ytnipbfhfaefieaa.Fra Go.Proofs.Ytnipbfhfaefieaa.ArnP Go.Proofs.Ytnipbfhfaefieaa.Arn Go.Proofs.Ytnipbfhfaefieaa.Ao
theorem path0_calls (a : Nat) (o leaf : Int) (w : World) : Calls Try.prog 96 #[workV a o, .int .i64 0, .int .i64 leaf] w fun e w' => e = .returned (.int .i64 leaf) ∧ Below w.heap.size w w' := by
  go_enter Try.func96, Try.ntmps96
  go_wp2
  go_loopw [2, 8] (fun x y wr => x = .int .i64 leaf ∧ y = .int .i64 0 ∧ wr = w.alloc (.cells #[.pointer (some ⟨a, 0, none⟩), .int .u32 o] 133)) (fun _ _ _ => 0)
  case atStart => exact ⟨rfl, rfl, rfl⟩
  case round =>
    obtain ⟨rfl, rfl, rfl⟩ := hrel
    go_wp2
    go_ret
    exact ⟨rfl, below_alloc (Below.refl _ _) _⟩
/-- A cell's kids become others, in its own row or a new one. -/
theorem CBO.kidz {w w1 : World} {O : Nat → Prop} {lo b : Nat} {v k k1 : Value} {c : Cell} {kids : List Int} (h : CBO w O lo b v k c) (hlt : ∀ j, O j → j < w.heap.size) (hf : Fr (fun j => k.ownBlock = some j) w w1) (hr : KR w1 lo k1 kids) (hv : ∀ j, k1.ownBlock = some j → k.ownBlock = some j ∨ w.heap.size ≤ j) :
    CBO (w1.setCell ⟨b, 4, none⟩ k1) O lo b v k1 {c with kids := kids} ∧ Fr (Wr O b v k) w (w1.setCell ⟨b, 4, none⟩ k1) := by
  have hbl := blk_lt h.blk
  have hvl : ∀ j, v.ownBlock = some j → j < w.heap.size := fun j hj => by obtain ⟨q, ho⟩ := Kd.R_own h.vr; exact own_lt ho j hj
  have hb1 := hf.blk h.blk (fun e => (h.kk b e).1 rfl)
  have hs : Fr (fun j => j = b) w1 (w1.setCell ⟨b, 4, none⟩ k1) := Fr.set b 4 k1
  have hvb : ∀ j, k1.ownBlock = some j → j ≠ b := fun j hj e => by
    rcases hv j hj with q | q
    · exact (h.kk j q).1 e
    · omega
  refine ⟨⟨(blk_put hb1 4 k1 rfl).trans rfl, ?_, ?_, fun j hj => ⟨fun e => ?_, (h.vk j hj).2⟩, fun j hj => ⟨hvb j hj, fun e => ?_⟩, h.no⟩, (hf.mono (fun j hj => .inl (.inr (.inr (.inr hj))))).then_ hs (fun j hj => .inl (.inr (.inl hj)))⟩
  · exact Kd.R_mono (Kd.R_kept (Kd.R_mono (Kd.R_kept (Kd.R_tight2 (d := kVal) rfl h.vr) hf.kept (fun j hj e => (h.vk j hj.1.symm).1 e)) (fun j hj => hj)) hs.kept (fun j hj e => (h.vk j hj.1.symm).2.1 e)) (fun j hj => hj.2)
  · exact Kd.R_mono (Kd.R_kept (Kd.R_tight2 (d := Kd.int .i64) rfl hr) hs.kept (fun j hj e => hvb j hj.1.symm e)) (fun j hj => hj.2)
  · rcases hv j e with q | q
    · exact (h.vk j hj).1 q
    · have := hvl j hj; omega
  · rcases hv j hj with q | q
    · exact (h.kk j q).2 e
    · have := hlt j e; omega
theorem kc_snoc (l : List Int) (z : Nat) (hz : 0 < z) : kc (l ++ [(z : Int)]) = fun x => one z x + kc l x := by
  funext x
  rw [kc_app, kc_cons z _ hz]
  show kc l x + (0 + one z x) = _
  omega
end Go.Proofs.Ytnipbfhfaefieaa.Pv
/-! pvec: a leaf is hung into a trunk of one level. -/
namespace Go.Proofs.Ytnipbfhfaefieaa.Pv
open Go.RowKit Go Go.Proofs.YtnipbfhfaefieaaW.PrintWords Go.Proofs.YtnipbfhfaefieaaW.PrintMore Go.Proofs.YtnipbfhfaefieaaW.PrintLast Go.Proofs.Ytnipbfhfaefieaa.Bts Go.Proofs.Ytnipbfhfaefieaa.Fra Go.Proofs.Ytnipbfhfaefieaa.ArnP Go.Proofs.Ytnipbfhfaefieaa.Arn Go.Proofs.Ytnipbfhfaefieaa.Ao
theorem infoInt : (Try.prog.info? 3).map (fun i => (i.zero, i.size, i.bytes)) = some (some (.int .i64 0), 1, 8) := by kernel_rfl
theorem path0w_calls (a : Nat) (o leaf : Int) (w : World) : Calls Try.prog 96 #[workV a o, .int .i64 (wrap64 0), .int .i64 leaf] w fun e w' => e = .returned (.int .i64 leaf) ∧ Below w.heap.size w w' := by
  have e : wrap64 0 = 0 := by unfold wrap64; omega
  rw [e]
  exact path0_calls a o leaf w
set_option maxHeartbeats 2000000 in
set_option maxRecDepth 100000 in
theorem cb_hang {O0 : Nat → Prop} {a : Nat} {f0 : Nat → Cell} {most : Int} {rest : Nat → Nat} {op : Nat → Bool} {c : Cell} {nb lb wb fb : Nat} (o : Int) (m lf : Nat) (w0 : World) (hN : IntB w0 nb (m : Int)) (hL : IntB w0 lb 1) (hW : WorkB w0 wb a o) (hL2 : IntB w0 fb (lf : Int)) (hO0 : ¬ O0 nb ∧ ¬ O0 lb ∧ ¬ O0 wb ∧ ¬ O0 fb) (hm : c.kids.length = m) (hm32 : m < 32) (hlf : 0 < lf) (hcl : c.vals.length ≤ 1000000000) (hkn : ∀ z ∈ c.kids, 0 ≤ z) (hro : ∀ z, op z = true → 1 ≤ rest z) :
    Cb 103 (fun p => #[p, .pointer (some ⟨nb, 0, none⟩), .pointer (some ⟨lb, 0, none⟩), .pointer (some ⟨wb, 0, none⟩), .pointer (some ⟨fb, 0, none⟩)]) w0 O0 a most rest (one lf) op f0 0 c (fun f' c' => c' = {c with kids := c.kids ++ [(lf : Int)]} ∧ ∀ x ∈ kidsOf (c.kids ++ [(lf : Int)]), Same f0 f' x) := by
  intro w O f live lo b v k hA hF hO hlo hlo2 hb0 hC hK hS hlm
  have hll : one lf lf = 1 := if_pos rfl
  have hop : op lf = false := by
    cases hq : op lf with
    | false => rfl
    | true =>
      have h1 := (hA.op_r hq).2.1
      have h2 := hro lf hq
      have h1 : rest lf + one lf lf + kc c.kids lf = 1 := h1
      omega
  have hsame : ∀ x ∈ kidsOf (c.kids ++ [(lf : Int)]), Same f0 f x := by
    intro x hx
    have h1 : 0 < kc (c.kids ++ [(lf : Int)]) x := List.count_pos_iff.2 hx
    rw [kc_snoc c.kids lf hlf] at h1
    have h1 : 0 < one lf x + kc c.kids x := h1
    by_cases e : x = lf
    · subst e
      exact (hK x hlf (by show 0 < rest x + one x x; omega)).2 hop
    · have h2 : one lf x = 0 := if_neg e
      exact hS x (List.count_pos_iff.1 (show 0 < kc c.kids x by omega))
  have HSM := Lib.hid hsame
  clear hsame
  have hNw := hF.blk hN hO0.1
  have hLw := hF.blk hL hO0.2.1
  have hWw := hF.blk hW hO0.2.2.1
  have hFw := hF.blk hL2 hO0.2.2.2
  obtain ⟨A1, c1, e1⟩ := Kd.R_slice hC.kr
  rw [hm] at e1
  subst e1
  obtain ⟨V, hV⟩ : ∃ V, w.drew = V := ⟨_, rfl⟩
  have hd : Below w.heap.size w V := by rw [← hV]; exact below_drew1 (Below.refl _ _)
  have HD := Lib.hid hd
  have hCd := hC.below hd
  have hWd := blk_below hWw hd
  have hLd := blk_below hLw hd
  have hFd := blk_below hFw hd
  have n0 := blk_cell hNw 0
  have l0 := blk_cell hLw 0
  have p4w := blk_cell hC.blk 4
  have p4 := blk_cell hCd.blk 4
  have w0' := blk_cell hWd 0
  have w1' := blk_cell hWd 1
  have l0' := blk_cell hLd 0
  have f0' := blk_cell hFd 0
  have hsz := hd.size
  have hlt := (hA.below hd).lt
  have HC := Lib.hid hCd
  have HA := Lib.hid hA
  have HW := Lib.hid hWd
  have HL := Lib.hid hLd
  have HFB := Lib.hid hFd
  have HLT := Lib.hid hlt
  have HM := Lib.hid hm
  clear hK hS hF hO hC hCd hA hd hlt hNw hLw hWw hFw hWd hLd hFd hN hL hW hL2 hm
  go_enter Try.func103, Try.ntmps103
  go_wp2_with (go_at_call 61; go_loud (refine (at_zero m hm32 _).mono ?_; rintro e w4 ⟨rfl, hw4⟩; subst w4))
  refine start_ (n := 15) (S := fun w' => w'.cell? ⟨b, 4, none⟩ = some (.slice A1 m c1) ∧ w'.cell? ⟨wb, 0, none⟩ = some (.pointer (some ⟨a, 0, none⟩)) ∧ w'.cell? ⟨wb, 1, none⟩ = some (.int .u32 o) ∧ w'.cell? ⟨lb, 0, none⟩ = some (.int .i64 1) ∧ w'.cell? ⟨fb, 0, none⟩ = some (.int .i64 (lf : Int))) (ds := [11, 14]) #[false, false, false, false, false, false, false, false, false, false, false, false, false, false, false] (by kernel_rfl) rfl rfl ⟨(by rw [hV]; exact p4), (by rw [hV]; exact w0'), (by rw [hV]; exact w1'), (by rw [hV]; exact l0'), (by rw [hV]; exact f0')⟩ (fun hHeld => ?_)
  refine pure_ (i := 0) (N := some 19) (v := ?_) (a' := ?_) #[true, false, false, false, false, false, false, false, false, false, false, false, false, false, false] rfl rfl (by kernel_rfl) (fun _ _ _ h => h) (Or.inl ⟨by rfl, ?_⟩) ?_ ?_
  rotate_left
  · intro w'
    go_simp
    with_reducible rfl
  rotate_left
  · simp only [Act.put, List.setIfInBounds_toArray, List.set_cons_zero, List.set_cons_succ, i64_w, i32_w]
    rfl
  refine pure_ (i := 1) (N := some 20) (v := ?_) (a' := ?_) #[true, true, false, false, false, false, false, false, false, false, false, false, false, false, false] rfl rfl (by kernel_rfl) (fun _ _ _ h => h) (Or.inl ⟨by rfl, ?_⟩) ?_ ?_
  rotate_left
  · intro w'
    go_simp
    with_reducible rfl
  rotate_left
  · simp only [Act.put, List.setIfInBounds_toArray, List.set_cons_zero, List.set_cons_succ, i64_w, i32_w]
    rfl
  refine pure_ (i := 2) (N := some 21) (v := ?_) (a' := ?_) #[true, true, true, false, false, false, false, false, false, false, false, false, false, false, false] rfl rfl (by kernel_rfl) (fun _ _ _ h => h) (Or.inl ⟨by rfl, ?_⟩) ?_ ?_
  rotate_left
  · intro w'
    go_simp
    with_reducible rfl
  rotate_left
  · simp only [Act.put, List.setIfInBounds_toArray, List.set_cons_zero, List.set_cons_succ, i64_w, i32_w]
    rfl
  refine pure_ (i := 3) (N := some 22) (v := ?_) (a' := ?_) #[true, true, true, true, false, false, false, false, false, false, false, false, false, false, false] rfl rfl (by kernel_rfl) (fun _ _ _ h => h) (Or.inl ⟨by rfl, ?_⟩) ?_ ?_
  rotate_left
  · intro w'
    go_simp
    with_reducible rfl
  rotate_left
  · simp only [Act.put, List.setIfInBounds_toArray, List.set_cons_zero, List.set_cons_succ, i64_w, i32_w]
    rfl
  refine take_ (i := 4) (N := some 23) (v := ?_) (a' := ?_) #[true, true, true, true, true, false, false, false, false, false, false, false, false, false, false] rfl rfl (by kernel_rfl) (fun _ _ _ h => h) (Or.inl ⟨by rfl, ?_⟩) hHeld ?_ ?_
  rotate_left
  · rintro w' ⟨s0, s1, s2, s3, s4⟩
    go_simp
    with_reducible rfl
  rotate_left
  · simp only [Act.put, List.setIfInBounds_toArray, List.set_cons_zero, List.set_cons_succ, i64_w, i32_w]
    rfl
  refine take_ (i := 5) (N := some 24) (v := ?_) (a' := ?_) #[true, true, true, true, true, true, false, false, false, false, false, false, false, false, false] rfl rfl (by kernel_rfl) (fun _ _ _ h => h) (Or.inl ⟨by rfl, ?_⟩) hHeld ?_ ?_
  rotate_left
  · rintro w' ⟨s0, s1, s2, s3, s4⟩
    go_simp
    with_reducible rfl
  rotate_left
  · simp only [Act.put, List.setIfInBounds_toArray, List.set_cons_zero, List.set_cons_succ, i64_w, i32_w]
    rfl
  refine take_ (i := 6) (N := some 25) (v := ?_) (a' := ?_) #[true, true, true, true, true, true, true, false, false, false, false, false, false, false, false] rfl rfl (by kernel_rfl) (fun _ _ _ h => h) (Or.inl ⟨by rfl, ?_⟩) hHeld ?_ ?_
  rotate_left
  · rintro w' ⟨s0, s1, s2, s3, s4⟩
    go_simp
    with_reducible rfl
  rotate_left
  · simp only [Act.put, List.setIfInBounds_toArray, List.set_cons_zero, List.set_cons_succ, i64_w, i32_w]
    rfl
  refine pure_ (i := 7) (N := some 26) (v := ?_) (a' := ?_) #[true, true, true, true, true, true, true, true, false, false, false, false, false, false, false] rfl rfl (by kernel_rfl) (fun _ _ _ h => h) (Or.inl ⟨by rfl, ?_⟩) ?_ ?_
  rotate_left
  · intro w'
    go_simp
    with_reducible rfl
  rotate_left
  · simp only [Act.put, List.setIfInBounds_toArray, List.set_cons_zero, List.set_cons_succ, i64_w, i32_w]
    rfl
  refine take_ (i := 8) (N := some 27) (v := ?_) (a' := ?_) #[true, true, true, true, true, true, true, true, true, false, false, false, false, false, false] rfl rfl (by kernel_rfl) (fun _ _ _ h => h) (Or.inl ⟨by rfl, ?_⟩) hHeld ?_ ?_
  rotate_left
  · rintro w' ⟨s0, s1, s2, s3, s4⟩
    go_simp
    with_reducible rfl
  rotate_left
  · simp only [Act.put, List.setIfInBounds_toArray, List.set_cons_zero, List.set_cons_succ, i64_w, i32_w]
    rfl
  refine one_ (i := 9) (N := some 28) #[true, true, true, true, true, true, true, true, true, true, false, false, false, false, false] rfl rfl (by kernel_rfl) (by decide) (fun K hK => ?_)
  refine goes_ Try.func96 (by kernel_rfl) rfl #[workV a o, .int .i64 (wrap64 0), .int .i64 lf] (by rfl) rfl rfl (by simp only [List.map_toArray, List.map_cons, List.map_nil]; rfl) ?_
  with_reducible refine (path0w_calls a o lf _).mono ?_
  rintro e w5 ⟨rfl, hB5⟩
  refine ⟨_, rfl, ?_⟩
  have hB5 : Below V.heap.size V w5 := hV ▸ hB5
  have HB5 := Lib.hid hB5
  have hsz5 := hB5.size
  refine hK.out _ _ ⟨(blk_cell (blk_below HC.out.blk HB5.out) 4), (blk_cell (blk_below HW.out HB5.out) 0), (blk_cell (blk_below HW.out HB5.out) 1), (blk_cell (blk_below HL.out HB5.out) 0), (blk_cell (blk_below HFB.out HB5.out) 0)⟩ (fun hHeld => ?_)
  clear hK K
  refine norm_ (a' := ?_) ?_ ?_
  rotate_left
  · show Act.put _ (some 28) _ = _
    simp only [Act.put, List.setIfInBounds_toArray, List.set_cons_zero, List.set_cons_succ, i64_w, i32_w]
    rfl
  refine one_ (i := 10) (N := some 29) #[true, true, true, true, true, true, true, true, true, true, true, false, false, false, false] rfl rfl (by kernel_rfl) (by decide) (fun K hK => ?_)
  refine value_ (w1 := ?_) (v := ?_) (by rfl) rfl ?_ ?_
  rotate_left 2
  · go_simp
    constructor
    · rfl
    · rfl
  refine hK.out _ _ ⟨(pw_cell_below (below_alloc (Below.refl w5.heap.size w5) _) (blk_cell (blk_below HC.out.blk HB5.out) 4)), (pw_cell_below (below_alloc (Below.refl w5.heap.size w5) _) (blk_cell (blk_below HW.out HB5.out) 0)), (pw_cell_below (below_alloc (Below.refl w5.heap.size w5) _) (blk_cell (blk_below HW.out HB5.out) 1)), (pw_cell_below (below_alloc (Below.refl w5.heap.size w5) _) (blk_cell (blk_below HL.out HB5.out) 0)), (pw_cell_below (below_alloc (Below.refl w5.heap.size w5) _) (blk_cell (blk_below HFB.out HB5.out) 0))⟩ (fun hHeld => ?_)
  clear hK K
  refine norm_ (a' := ?_) ?_ ?_
  rotate_left
  · show Act.put _ (some 29) _ = _
    simp only [Act.put, List.setIfInBounds_toArray, List.set_cons_zero, List.set_cons_succ, i64_w, i32_w]
    rfl
  refine last_ (i := 11) (N := some 30) #[true, true, true, true, true, true, true, true, true, true, true, true, false, false, false] rfl rfl (by kernel_rfl) (by decide) (fun K hK => ?_)
  have hC5 := HC.out.below HB5.out
  have hkr5 := hC5.kr
  refine Kd.R_append_step (Kd.int .i64) (w0 := w5) (W := w5) lo (by rfl) (.tmp 23) (.tmp 29) 27 3 (.int .i64 0) 8 rfl Try.underlying27 infoInt rfl (by decide) (by decide) (.slice A1 m c1) c.kids (lf : Int) [.int .i64 (lf : Int)] (fun j => lo ≤ j) (fun _ => False) rfl rfl rfl (fun _ h => h.elim) (fun j hj => by omega) hkr5 (Below.refl _ _) (by omega) (by have := HM.out; omega) ?_
  intro v7 w7 hR7 hB7 hg7 hat7
  obtain ⟨A7, c7, e7⟩ := Kd.R_slice hR7
  subst e7
  have hcv := hC5.kidz (v := v) (k1 := .slice A7 (c.kids ++ [(lf : Int)]).length c7) (fun j hj => Nat.lt_of_lt_of_le (HLT.out j hj) hsz5) (fr_grownBy hg7) hR7 (fun j hj => hat7.elim (fun e => .inl (e ▸ hj)) (fun ⟨b', e, hb'⟩ => .inr (by rw [e] at hj; cases hj; exact hb')))
  have HG7 := Lib.hid (fr_grownBy hg7)
  have hb7 := (fr_grownBy hg7).blk hC5.blk (fun e => (hC5.kk b e).1 rfl)
  have r4 := blk_cell hb7 4
  have z4 := blk_frozen hb7 4
  have HCV := Lib.hid hcv
  clear hcv
  refine hK.out _ _ ?_
  clear hK K
  refine norm_ (a' := ?_) ?_ ?_
  rotate_left
  · show Act.put _ (some 30) _ = _
    simp only [Act.put, List.setIfInBounds_toArray, List.set_cons_zero, List.set_cons_succ, i64_w, i32_w]
    rfl
  refine pure_ (i := 12) (N := some 31) (v := ?_) (a' := ?_) #[true, true, true, true, true, true, true, true, true, true, true, true, true, false, false] rfl rfl (by kernel_rfl) (fun _ _ _ h => h) (Or.inl ⟨by rfl, ?_⟩) ?_ ?_
  rotate_left
  · intro w'
    go_simp
    with_reducible rfl
  rotate_left
  · simp only [Act.put, List.setIfInBounds_toArray, List.set_cons_zero, List.set_cons_succ, i64_w, i32_w]
    rfl
  refine pure_ (i := 13) (N := some 32) (v := ?_) (a' := ?_) #[true, true, true, true, true, true, true, true, true, true, true, true, true, true, false] rfl rfl (by kernel_rfl) (fun _ _ _ h => h) (Or.inl ⟨by rfl, ?_⟩) ?_ ?_
  rotate_left
  · intro w'
    go_simp
    with_reducible rfl
  rotate_left
  · simp only [Act.put, List.setIfInBounds_toArray, List.set_cons_zero, List.set_cons_succ, i64_w, i32_w]
    rfl
  refine last_ (i := 14) (N := none) #[true, true, true, true, true, true, true, true, true, true, true, true, true, true, true] rfl rfl (by kernel_rfl) (by decide) (fun K hK => ?_)
  refine skip_ (w1 := ?_) (by rfl) rfl ?_ ?_
  rotate_left
  · go_simp
    rfl
  refine hK.out _ _ ?_
  clear hK K
  refine done_ (by kernel_rfl) ?_

  go_end0
  have hcv := HCV.out
  have hln : (c.kids ++ [(lf : Int)]).length = c.kids.length + 1 := by simp
  rw [hln] at hcv
  have hd := HD.out
  have hmm := HM.out
  have hb4 : Fr (fun j => j = b) w7 (w7.setCell ⟨b, 4, none⟩ (.slice A7 (c.kids.length + 1) c7)) := Fr.set b 4 _
  have hfa : Fr (fun j => (Value.slice A1 m c1).ownBlock = some j ∨ j = b) w (w7.setCell ⟨b, 4, none⟩ (.slice A7 (c.kids.length + 1) c7)) := (((Fr.of_new hd).then_ (Fr.of_new (S := fun _ => False) HB5.out) (fun j hj => hj.elim)).then_ HG7.out (fun j hj => .inl (.inl hj))).then_ hb4 (fun j hj => .inl (.inr hj))
  have hA' := HA.out.move hfa (fun j hj e => e.elim (fun e => (HC.out.kk j e).2 hj) (fun e => HC.out.no (e ▸ hj)))
  have e1 : (fun x => rest x + one lf x + kc c.kids x) = fun x => rest x + kc (c.kids ++ [(lf : Int)]) x := by
    funext x
    rw [kc_snoc c.kids lf hlf]
    show _ = rest x + (_ + _)
    omega
  rw [e1] at hA'
  have hkl' : (c.kids ++ [(lf : Int)]).length ≤ 1000 := by rw [hln]; omega
  refine ⟨rfl, O, f, live, {c with kids := c.kids ++ [(lf : Int)]}, _, _, hA', hcv.1, ((Fr.of_new (S := Wr O b v (.slice A1 m c1)) hd).then_ (Fr.of_new (S := fun _ => False) HB5.out) (fun j hj => hj.elim)).then_ hcv.2 (fun j hj => .inl hj), fun j hj => .inl hj, by omega, KeepR.refl _ _ _, ⟨rfl, HSM.out⟩, rfl, hkl', hcl, fun y hy => ?_⟩
  rcases List.mem_append.1 hy with h | h
  · exact hkn y h
  · rw [List.mem_singleton.1 h]; exact Int.natCast_nonneg _
end Go.Proofs.Ytnipbfhfaefieaa.Pv
/-! pvec: a leaf is hung into a trunk of one level. -/
namespace Go.Proofs.Ytnipbfhfaefieaa.Pv
open Go.RowKit Go Go.Proofs.YtnipbfhfaefieaaW.PrintWords Go.Proofs.YtnipbfhfaefieaaW.PrintMore Go.Proofs.YtnipbfhfaefieaaW.PrintLast Go.Proofs.Ytnipbfhfaefieaa.Bts Go.Proofs.Ytnipbfhfaefieaa.Fra Go.Proofs.Ytnipbfhfaefieaa.ArnP Go.Proofs.Ytnipbfhfaefieaa.Arn Go.Proofs.Ytnipbfhfaefieaa.Ao
set_option maxHeartbeats 2000000 in
set_option maxRecDepth 100000 in
theorem hang_calls {O : Nat → Prop} {a : Nat} {f : Nat → Cell} {live most : Int} {rest : Nat → Nat} {op : Nat → Bool} (o : Int) (k m lf : Nat) (w : World) (h : AO w O a f live most (fun z => rest z + one lf z + one k z) op) (hk : 0 < k) (ho : op k = false) (hb : ∀ x, rest x ≤ 60000000000) (hro : ∀ z, op z = true → 1 ≤ rest z) (hm : (f k).kids.length = m) (hm32 : m < 32) (hlf : 0 < lf) (hlm : live < most) :
    Calls Try.prog 97 #[workV a o, .int .i64 k, .int .i64 1, .int .i64 m, .int .i64 lf] w fun e w' => ∃ (k' : Nat) (O' : Nat → Prop) (f' : Nat → Cell) (live' : Int), e = .returned (.int .i64 k') ∧ AO w' O' a f' live' most (fun z => rest z + one k' z) op ∧ live' ≤ live + 1 ∧ f' k' = {f k with kids := (f k).kids ++ [(lf : Int)], ow := o, r := 1} ∧ (∀ x ∈ kidsOf ((f k).kids ++ [(lf : Int)]), Same f f' x) ∧ 0 < k' ∧ op k' = false ∧ KeepR rest op f f' ∧ (∀ j, O' j → O j ∨ w.heap.size ≤ j) ∧ Fr O w w' := by
  have hlive : 0 < (f k).r := h.ext_lv hk (by show 0 < rest k + one lf k + one k k; have : one k k = 1 := if_pos rfl; omega)
  have hkl := (AO.kl h hlive).1
  have hcl := (AO.kl h hlive).2
  have hkn := AO.kn h ⟨hk, hlive, ho⟩
  have hlt := h.lt
  have hbx := below_alloc (below_alloc (below_alloc (below_alloc (Below.refl w.heap.size w) (.cells #[.pointer (some ⟨a, 0, none⟩), .int .u32 o] 133)) (.cells #[.int .i64 1] 3)) (.cells #[.int .i64 (m : Int)] 3)) (.cells #[.int .i64 (lf : Int)] 3)
  have hX : IntB _ (w.heap.size + 3) (lf : Int) := new3 w (.cells #[.pointer (some ⟨a, 0, none⟩), .int .u32 o] 133) (.cells #[.int .i64 1] 3) (.cells #[.int .i64 (m : Int)] 3) (.cells #[.int .i64 (lf : Int)] 3)
  have hI : IntB _ (w.heap.size + 2) (m : Int) := blk_alloc (new2 w (.cells #[.pointer (some ⟨a, 0, none⟩), .int .u32 o] 133) (.cells #[.int .i64 1] 3) (.cells #[.int .i64 (m : Int)] 3)) (.cells #[.int .i64 (lf : Int)] 3)
  have hL : IntB _ (w.heap.size + 1) 1 := blk_alloc (blk_alloc (new1 w (.cells #[.pointer (some ⟨a, 0, none⟩), .int .u32 o] 133) (.cells #[.int .i64 1] 3)) (.cells #[.int .i64 (m : Int)] 3)) (.cells #[.int .i64 (lf : Int)] 3)
  have hWk : WorkB _ w.heap.size a o := blk_alloc (blk_alloc (blk_alloc (blk_new w (.cells #[.pointer (some ⟨a, 0, none⟩), .int .u32 o] 133)) (.cells #[.int .i64 1] 3)) (.cells #[.int .i64 (m : Int)] 3)) (.cells #[.int .i64 (lf : Int)] 3)
  have hA := h.below hbx
  obtain ⟨W, hW⟩ : ∃ W, ((((w.alloc (.cells #[.pointer (some ⟨a, 0, none⟩), .int .u32 o] 133)).alloc (.cells #[.int .i64 1] 3)).alloc (.cells #[.int .i64 (m : Int)] 3)).alloc (.cells #[.int .i64 (lf : Int)] 3)) = W := ⟨_, rfl⟩
  have hnB : ∀ b, w.heap.size ≤ b → ¬ O b := fun b hb e => by have := hlt b e; omega
  rw [hW] at hX hI hL hWk
  have hA' : AO W O a f live most (fun z => rest z + one lf z + one k z) op := by rw [← hW]; exact hA
  have hbW : Below w.heap.size w W := by rw [← hW]; exact hbx
  have hO4 : ¬ O (w.heap.size + 2) ∧ ¬ O (w.heap.size + 1) ∧ ¬ O w.heap.size ∧ ¬ O (w.heap.size + 3) := ⟨hnB _ (by omega), hnB _ (by omega), hnB _ (by omega), hnB _ (by omega)⟩
  have hch := change_hang (need := 0) o k (.pointer (some ⟨w.heap.size + 2, 0, none⟩)) (.pointer (some ⟨w.heap.size + 1, 0, none⟩)) (.pointer (some ⟨w.heap.size, 0, none⟩)) (.pointer (some ⟨w.heap.size + 3, 0, none⟩)) W W hA' hk ho (bnd_one lf hb (by decide)) hro (Fr.refl O W) (fun j hj => .inl hj)
    (cb_hang o m lf W hI hL hWk hX hO4 hm hm32 hlf hcl hkn hro)
    (cb_hang o m lf W hI hL hWk hX hO4 hm hm32 hlf hcl hkn (hro_one k hro)) (by omega)
  rw [← hW] at hch
  have HC := Lib.hid hch
  have HB := Lib.hid hbW
  have HW := Lib.hid hW
  have HM := Lib.hid hm
  clear hch hA hA' hbW hbx hX hI hL hWk h hW hm
  go_enter Try.func97, Try.ntmps97
  go_wp2_with (go_at_call 78; go_loud (refine HC.out.mono ?_; rintro e w5 ⟨k', O5, f5, live5, c5, rfl, hA5, hll5, hR5, hS5, hk5, ho5, hK5, hO5, hF5⟩; have HR5 := Lib.hid hR5; clear hR5))
  go_ret
  obtain ⟨rfl, hoth⟩ := HR5.out
  have hF6 : Fr O w w5 := by
    have h1 := HB.out
    rw [← HW.out] at h1
    exact (Fr.of_new h1).trans hF5
  refine ⟨k', O5, _, live5, rfl, hA5, by omega, upd_eq _ _ _, fun x hx => (hoth x hx).trans (hS5 x hx), hk5, ho5, hK5, fun j hj => (hO5 j hj).imp id (fun q => ?_), hF6⟩
  have h1 := HB.out.size
  rw [← HW.out] at h1
  omega
end Go.Proofs.Ytnipbfhfaefieaa.Pv
/-! pvec: a trunk grows: by its first leaf, and where it has room. -/
namespace Go.Proofs.Ytnipbfhfaefieaa.Pv
open Go.RowKit Go Go.Proofs.YtnipbfhfaefieaaW.PrintWords Go.Proofs.YtnipbfhfaefieaaW.PrintMore Go.Proofs.YtnipbfhfaefieaaW.PrintLast Go.Proofs.Ytnipbfhfaefieaa.Bts Go.Proofs.Ytnipbfhfaefieaa.Fra Go.Proofs.Ytnipbfhfaefieaa.ArnP Go.Proofs.Ytnipbfhfaefieaa.Arn Go.Proofs.Ytnipbfhfaefieaa.Ao
theorem grow0_calls (a : Nat) (o at_ leaf : Int) (w : World) : Calls Try.prog 80 #[workV a o, .int .i64 at_, .int .i64 0, .int .i64 leaf] w fun e w' => e = .returned (.int .i64 leaf) ∧ Below w.heap.size w w' := by
  go_enter Try.func80, Try.ntmps80
  go_wp2
  go_ret
  exact ⟨rfl, below_alloc (Below.refl _ _) _⟩
set_option maxHeartbeats 2000000 in
set_option maxRecDepth 100000 in
theorem grow2_calls {O : Nat → Prop} {a : Nat} {f : Nat → Cell} {live most : Int} {rest : Nat → Nat} {op : Nat → Bool} (o : Int) (k m lf : Nat) (w : World) (h : AO w O a f live most (fun z => rest z + one lf z + one k z) op) (hk : 0 < k) (ho : op k = false) (hb : ∀ x, rest x ≤ 60000000000) (hro : ∀ z, op z = true → 1 ≤ rest z) (hm : (f k).kids.length = m) (hm2 : 2 ≤ m) (hm32 : m < 32) (hlf : 0 < lf) (hlm : live < most) :
    Calls Try.prog 80 #[workV a o, .int .i64 k, .int .i64 m, .int .i64 lf] w fun e w' => ∃ (k' : Nat) (O' : Nat → Prop) (f' : Nat → Cell) (live' : Int), e = .returned (.int .i64 k') ∧ AO w' O' a f' live' most (fun z => rest z + one k' z) op ∧ live' ≤ live + 1 ∧ f' k' = {f k with kids := (f k).kids ++ [(lf : Int)], ow := o, r := 1} ∧ (∀ x ∈ kidsOf ((f k).kids ++ [(lf : Int)]), Same f f' x) ∧ 0 < k' ∧ op k' = false ∧ KeepR rest op f f' ∧ (∀ j, O' j → O j ∨ w.heap.size ≤ j) ∧ Fr O w w' := by
  have hbx := below_alloc (Below.refl w.heap.size w) (.cells #[.pointer (some ⟨a, 0, none⟩), .int .u32 o] 133)
  have hA := h.below hbx
  have hh := hang_calls o k m lf _ hA hk ho hb hro hm hm32 hlf hlm
  have l1 : lev m = 1 := by unfold lev; rw [if_neg (by omega)]
  have l2 : lev (m + 1) = 1 := by unfold lev; rw [if_neg (by omega)]
  have c1 : ∀ w, Calls Try.prog 62 #[.int .i64 (m : Int)] w fun e w' => e = .returned (.int .i64 1) ∧ w' = w := fun w => by
    have := levels_calls m (by omega) w
    rwa [l1] at this
  have c2 : ∀ w, Calls Try.prog 62 #[.int .i64 ((m : Int) + 1)] w fun e w' => e = .returned (.int .i64 1) ∧ w' = w := fun w => by
    have := levels_calls (m + 1) (by omega) w
    rwa [l2] at this
  have hne : ¬ (m : Int) = 0 := by omega
  have hm' : (m : Int) ≤ 31 := by omega
  have HH := Lib.hid hh
  have HB := Lib.hid hbx
  have LV := Lib.hid (show ∀ x : Int, (x = (m : Int) ∨ x = (m : Int) + 1) → ∀ w, Calls Try.prog 62 #[.int .i64 x] w fun e w' => e = .returned (.int .i64 1) ∧ w' = w from fun x hx w => hx.elim (fun e => e ▸ c1 w) (fun e => e ▸ c2 w))
  clear hh hA h hbx c1 c2 l1 l2 hm
  go_enter Try.func80, Try.ntmps80
  go_wp2_with (first
    | (go_at_call 62; refine (LV.out _ (by first | exact .inl rfl | exact .inr rfl) _).mono ?_; rintro e w4 ⟨rfl, hw4⟩; subst w4)
    | (go_at_call 97; refine HH.out.mono ?_; rintro e w5 ⟨k', O5, f5, live5, rfl, hA5, hll5, hR5, hS5, hk5, ho5, hK5, hO5, hF5⟩; have HR5 := Lib.hid hR5; clear hR5))
  go_ret
  have hsz := HB.out.size
  exact ⟨k', O5, f5, live5, rfl, hA5, hll5, HR5.out, hS5, hk5, ho5, hK5, fun j hj => (hO5 j hj).imp id (fun q => by omega), (Fr.of_new HB.out).trans hF5⟩
end Go.Proofs.Ytnipbfhfaefieaa.Pv
/-! arena: the law ArenaArgs, walked. -/
namespace Go.Proofs.Ytnipbfhfaefieaa.ArAr
open Go.RowKit Go Go.Proofs.YtnipbfhfaefieaaW.PrintWords Go.Proofs.YtnipbfhfaefieaaW.PrintMore Go.Proofs.YtnipbfhfaefieaaW.PrintLast Go.Proofs.Ytnipbfhfaefieaa.Bts Go.Proofs.Ytnipbfhfaefieaa.Fra Go.Proofs.Ytnipbfhfaefieaa.ArnP Go.Proofs.Ytnipbfhfaefieaa.Arn
/-- Numbers in a block of their own. -/
theorem row_lit (w : World) (l : List Int) (cs : Array Value) (hcs : cs.toList = nums .i64 l) (hl : l.length ≤ 1000) : RowIn (Kd.int .i64) (w.alloc (.cells cs 3)) (fun j => w.heap.size ≤ j) (.slice (some ⟨w.heap.size, 0, none⟩) l.length l.length) l := by
  have hs : cs.size = l.length * 1 := by rw [← Array.length_toList, hcs, nums_length]; omega
  have h := World.ownsRow_lit (base := w.heap.size) (e := 3) (size := 1) w cs l.length (Nat.le_refl _) (by unfold maxLen; omega) hs
  rw [hcs] at h
  exact RowIn.of_R (Kd.R_of_own (enc := Value.int .i64) (h1 := fun _ => rfl) (ok := fun _ => True) h (fun _ _ => trivial))
theorem bad2 (x : Int) : badC [nobC] [0, x] = (x != 0) := by
  have h : ∀ y, isC [nobC] y = false := by
    intro y
    cases hq : isC [nobC] y
    · rfl
    · obtain ⟨k, c, _, e2, e3, e4⟩ := isC_inv hq
      match k, e3 with
      | 0, e3 => omega
      | k + 1, e3 => simp at e3
  unfold badC
  simp [h]
set_option maxHeartbeats 4000000 in
set_option maxRecDepth 100000 in
theorem bad_walk (x0 x1 : Int) (w : World) (h : ¬ (1 ≤ x0 ∧ x0 ≤ 1048576)) : Calls Try.prog 5 #[.int .i64 x0, .int .i64 x1] w fun e w' => e = .returned (.bool true) ∧ Below w.heap.size w w' := by
  have HB := Lib.hid (Below.refl w.heap.size w)
  have HN := Lib.hid (fun V => new_err x0 V h)
  have t1 : (decide (1 ≤ x0) && decide (x0 ≤ 1048576)) = false := by simpa using h
  have HT := Lib.hid t1
  by_cases h1 : 1 ≤ x0
  · have h2 : decide (x0 ≤ 1048576) = false := by simp; omega
    clear h t1
    go_enter Try.func5, Try.ntmps5
    go_wp2_with (first
      | (go_at_call 28; go_loud (refine (edit_nil _ _ _ _ _ _ _ _ ⟨_, _, _, rfl⟩ ⟨_, _, _, rfl⟩).mono ?_; rintro e w9 ⟨rfl, hb9⟩; have HB9 := Lib.hid (below_step HB8.out hb9); clear hb9))
      | (go_at_call 23; go_loud (refine (drop_nil _ _).mono ?_; rintro e w8 ⟨rfl, hb8⟩; have HB8 := Lib.hid (below_step HB7.out hb8); clear hb8))
      | (go_at_call 27; go_loud (refine (keep_nil _ _).mono ?_; rintro e w7 ⟨rfl, hb7⟩; have HB7 := Lib.hid (below_step HB6.out hb7); clear hb7))
      | (go_at_call 26; go_loud (refine (refs_nil _ _).mono ?_; rintro e w6 ⟨rfl, hb6⟩; have HB6 := Lib.hid (below_step (below_step HB4.out (by repeat (first | (with_reducible first | exact Below.refl _ _ | apply below_alloc | apply pw_below_drewN | apply below_drew1)))) hb6); clear hb6))
      | (go_at_call 25; go_loud (refine (room_nil _).mono ?_; rintro e w5 ⟨rfl, rfl⟩))
      | (go_at_call 22; go_loud (refine (live_nil _).mono ?_; rintro e w5 ⟨rfl, rfl⟩))
      | (go_at_call 24; go_loud (refine (get_nil _ _).mono ?_; rintro e w4 ⟨rfl, hb4⟩; have HB4 := Lib.hid (below_step HB3.out hb4); clear hb4))
      | (go_at_call 21; go_loud (refine (make_nil _ _ _ _ _ _ ⟨_, _, _, rfl⟩ ⟨_, _, _, rfl⟩).mono ?_; rintro e w3 ⟨rfl, hb3⟩; have HB3 := Lib.hid (below_step HB2.out hb3); clear hb3))
      | (go_at_call 20; go_loud (refine (HN.out _).mono ?_; rintro e w2 ⟨rfl, hb2⟩; have HB2 := Lib.hid (below_step HB1.out hb2); clear hb2))
      | (go_at_call 19; go_loud (refine (lives_calls _).mono ?_; rintro e w1 ⟨rfl, hb1⟩; have HB1 := Lib.hid hb1; clear hb1)))
    go_ret
    exact ⟨rfl, HB9.out⟩
  · have h2 : decide (1 ≤ x0) = false := by simp; omega
    clear h t1
    go_enter Try.func5, Try.ntmps5
    go_wp2_with (first
      | (go_at_call 28; go_loud (refine (edit_nil _ _ _ _ _ _ _ _ ⟨_, _, _, rfl⟩ ⟨_, _, _, rfl⟩).mono ?_; rintro e w9 ⟨rfl, hb9⟩; have HB9 := Lib.hid (below_step HB8.out hb9); clear hb9))
      | (go_at_call 23; go_loud (refine (drop_nil _ _).mono ?_; rintro e w8 ⟨rfl, hb8⟩; have HB8 := Lib.hid (below_step HB7.out hb8); clear hb8))
      | (go_at_call 27; go_loud (refine (keep_nil _ _).mono ?_; rintro e w7 ⟨rfl, hb7⟩; have HB7 := Lib.hid (below_step HB6.out hb7); clear hb7))
      | (go_at_call 26; go_loud (refine (refs_nil _ _).mono ?_; rintro e w6 ⟨rfl, hb6⟩; have HB6 := Lib.hid (below_step (below_step HB4.out (by repeat (first | (with_reducible first | exact Below.refl _ _ | apply below_alloc | apply pw_below_drewN | apply below_drew1)))) hb6); clear hb6))
      | (go_at_call 25; go_loud (refine (room_nil _).mono ?_; rintro e w5 ⟨rfl, rfl⟩))
      | (go_at_call 22; go_loud (refine (live_nil _).mono ?_; rintro e w5 ⟨rfl, rfl⟩))
      | (go_at_call 24; go_loud (refine (get_nil _ _).mono ?_; rintro e w4 ⟨rfl, hb4⟩; have HB4 := Lib.hid (below_step HB3.out hb4); clear hb4))
      | (go_at_call 21; go_loud (refine (make_nil _ _ _ _ _ _ ⟨_, _, _, rfl⟩ ⟨_, _, _, rfl⟩).mono ?_; rintro e w3 ⟨rfl, hb3⟩; have HB3 := Lib.hid (below_step HB2.out hb3); clear hb3))
      | (go_at_call 20; go_loud (refine (HN.out _).mono ?_; rintro e w2 ⟨rfl, hb2⟩; have HB2 := Lib.hid (below_step HB1.out hb2); clear hb2))
      | (go_at_call 19; go_loud (refine (lives_calls _).mono ?_; rintro e w1 ⟨rfl, hb1⟩; have HB1 := Lib.hid hb1; clear hb1)))
    go_ret
    exact ⟨rfl, HB9.out⟩
set_option maxHeartbeats 4000000 in
set_option maxRecDepth 100000 in
theorem ok_walk (x0 x1 : Int) (w : World) (h1 : 1 ≤ x0) (h2 : x0 ≤ 1048576) : Calls Try.prog 5 #[.int .i64 x0, .int .i64 x1] w fun e w' => e = .returned (.bool true) ∧ Below w.heap.size w w' := by
  by_cases hx : x1 = 0
  · subst hx
    go_enter Try.func5, Try.ntmps5
    go_wp2_with (first
      | (go_at_call 28; go_loud (refine (edit_nil _ _ _ _ _ _ _ _ ⟨_, _, _, rfl⟩ ⟨_, _, _, rfl⟩).mono ?_; rintro e w9 ⟨rfl, hb9⟩; have HB9 := Lib.hid (below_step HB8.out hb9); have HA9 := Lib.hid (HA.out.below (below_step HC8.out hb9)); clear hb9))
      | (go_at_call 23; go_loud (refine (drop_nil _ _).mono ?_; rintro e w8 ⟨rfl, hb8⟩; have HB8 := Lib.hid (below_step HB7.out hb8); have HC8 := Lib.hid (below_step HC7.out hb8); clear hb8))
      | (go_at_call 27; go_loud (refine (keep_nil _ _).mono ?_; rintro e w7 ⟨rfl, hb7⟩; have HB7 := Lib.hid (below_step HB6.out hb7); have HC7 := Lib.hid (below_step HC6.out hb7); clear hb7))
      | (go_at_call 26; go_loud (refine (refs_nil _ _).mono ?_; rintro e w6 ⟨rfl, hb6⟩; have HB6 := Lib.hid (below_step (below_step HB4.out (by repeat (first | (with_reducible first | exact Below.refl _ _ | apply below_alloc | apply pw_below_drewN | apply below_drew1)))) hb6); have HC6 := Lib.hid (below_step (below_step HC4.out (by repeat (first | (with_reducible first | exact Below.refl _ _ | apply below_alloc | apply pw_below_drewN | apply below_drew1)))) hb6); clear hb6))
      | (go_at_call 25; go_loud (refine (room_nil _).mono ?_; rintro e w5 ⟨rfl, rfl⟩))
      | (go_at_call 22; go_loud (refine (live_AR _ HA10.out).mono ?_; rintro e w11 ⟨rfl, rfl⟩))
      | (go_at_call 22; go_loud (refine (live_nil _).mono ?_; rintro e w5 ⟨rfl, rfl⟩))
      | (go_at_call 24; go_loud (refine (get_nil _ _).mono ?_; rintro e w4 ⟨rfl, hb4⟩; have HB4 := Lib.hid (below_step HB3.out hb4); have HC4 := Lib.hid (below_step HC3.out hb4); clear hb4))
      | (go_at_call 21; go_loud (refine (make_AR0 (Q := fun j => w9.heap.size ≤ j) 0 0 0 (.slice none 0 0) (.slice (some ⟨w9.heap.size, 0, none⟩) 2 2) [] [0, 0] _ (HA9.out.below (by repeat (first | (with_reducible first | exact Below.refl _ _ | apply below_alloc | apply pw_below_drewN | apply below_drew1)))) (row_none _ _ _) (row_lit w9 [0, 0] #[.int .i64 0, .int .i64 0] rfl (by decide)) (fun j hj hj2 => by have := HA9.out.mem.ol j hj2; omega) (by rw [bad2]; rfl) (by omega) (by decide) (by decide) (fun _ _ => Nat.zero_le _)).mono ?_; rintro e w10 ⟨O2, rfl, h10, ho10, hF10⟩; have HA10 := Lib.hid h10; have HB10 := Lib.hid (bel_fr (below_step HB9.out (by repeat (first | (with_reducible first | exact Below.refl _ _ | apply below_alloc | apply pw_below_drewN | apply below_drew1)))) hF10 (fun j hj => Nat.le_trans HB1.out.size (HO.out j hj))); clear h10 ho10 hF10))
      | (go_at_call 21; go_loud (refine (make_nil _ _ _ _ _ _ ⟨_, _, _, rfl⟩ ⟨_, _, _, rfl⟩).mono ?_; rintro e w3 ⟨rfl, hb3⟩; have HB3 := Lib.hid (below_step HB2.out hb3); have HC3 := Lib.hid (below_step HC2.out hb3); clear hb3))
      | (go_at_call 20; go_loud (refine (new_AR x0 _ h1 h2).mono ?_; rintro e w2 ⟨a, O, rfl, h0, ho0, hb2⟩; have HO := Lib.hid ho0; have HA := Lib.hid h0; clear h0 ho0; have HB2 := Lib.hid (below_step HB1.out hb2); have HC2 := Lib.hid (Below.refl w2.heap.size w2); clear hb2))
      | (go_at_call 19; go_loud (refine (lives_calls _).mono ?_; rintro e w1 ⟨rfl, hb1⟩; have HB1 := Lib.hid hb1; clear hb1)))

    go_ret
    exact ⟨rfl, HB10.out⟩
  · have hx0 : (x1 == 0) = false := by simpa using hx
    have hx1 : (x1 != 0) = true := by simpa using hx
    go_enter Try.func5, Try.ntmps5
    go_wp2_with (first
      | (go_at_call 28; go_loud (refine (edit_nil _ _ _ _ _ _ _ _ ⟨_, _, _, rfl⟩ ⟨_, _, _, rfl⟩).mono ?_; rintro e w9 ⟨rfl, hb9⟩; have HB9 := Lib.hid (below_step HB8.out hb9); have HA9 := Lib.hid (HA.out.below (below_step HC8.out hb9)); clear hb9))
      | (go_at_call 23; go_loud (refine (drop_nil _ _).mono ?_; rintro e w8 ⟨rfl, hb8⟩; have HB8 := Lib.hid (below_step HB7.out hb8); have HC8 := Lib.hid (below_step HC7.out hb8); clear hb8))
      | (go_at_call 27; go_loud (refine (keep_nil _ _).mono ?_; rintro e w7 ⟨rfl, hb7⟩; have HB7 := Lib.hid (below_step HB6.out hb7); have HC7 := Lib.hid (below_step HC6.out hb7); clear hb7))
      | (go_at_call 26; go_loud (refine (refs_nil _ _).mono ?_; rintro e w6 ⟨rfl, hb6⟩; have HB6 := Lib.hid (below_step (below_step HB4.out (by repeat (first | (with_reducible first | exact Below.refl _ _ | apply below_alloc | apply pw_below_drewN | apply below_drew1)))) hb6); have HC6 := Lib.hid (below_step (below_step HC4.out (by repeat (first | (with_reducible first | exact Below.refl _ _ | apply below_alloc | apply pw_below_drewN | apply below_drew1)))) hb6); clear hb6))
      | (go_at_call 25; go_loud (refine (room_nil _).mono ?_; rintro e w5 ⟨rfl, rfl⟩))
      | (go_at_call 22; go_loud (refine (live_AR _ HA10.out).mono ?_; rintro e w11 ⟨rfl, rfl⟩))
      | (go_at_call 22; go_loud (refine (live_nil _).mono ?_; rintro e w5 ⟨rfl, rfl⟩))
      | (go_at_call 24; go_loud (refine (get_nil _ _).mono ?_; rintro e w4 ⟨rfl, hb4⟩; have HB4 := Lib.hid (below_step HB3.out hb4); have HC4 := Lib.hid (below_step HC3.out hb4); clear hb4))
      | (go_at_call 21; go_loud (refine (makea_AR (Q := fun j => w9.heap.size ≤ j) 0 0 0 (.slice none 0 0) (.slice (some ⟨w9.heap.size, 0, none⟩) 2 2) [0, x1] _ (HA9.out.below (by repeat (first | (with_reducible first | exact Below.refl _ _ | apply below_alloc | apply pw_below_drewN | apply below_drew1)))) ⟨_, _, _, rfl⟩ (row_lit w9 [0, x1] #[.int .i64 0, .int .i64 x1] rfl (by simp)) (by simp) (by rw [bad2]; exact hx1)).mono ?_; rintro e w10 ⟨rfl, hb10⟩; have HA10 := Lib.hid ((HA9.out.below (by repeat (first | (with_reducible first | exact Below.refl _ _ | apply below_alloc | apply pw_below_drewN | apply below_drew1)))).below hb10); have HB10 := Lib.hid (below_step (below_step HB9.out (by repeat (first | (with_reducible first | exact Below.refl _ _ | apply below_alloc | apply pw_below_drewN | apply below_drew1)))) hb10); clear hb10))
      | (go_at_call 21; go_loud (refine (make_nil _ _ _ _ _ _ ⟨_, _, _, rfl⟩ ⟨_, _, _, rfl⟩).mono ?_; rintro e w3 ⟨rfl, hb3⟩; have HB3 := Lib.hid (below_step HB2.out hb3); have HC3 := Lib.hid (below_step HC2.out hb3); clear hb3))
      | (go_at_call 20; go_loud (refine (new_AR x0 _ h1 h2).mono ?_; rintro e w2 ⟨a, O, rfl, h0, ho0, hb2⟩; have HO := Lib.hid ho0; have HA := Lib.hid h0; clear h0 ho0; have HB2 := Lib.hid (below_step HB1.out hb2); have HC2 := Lib.hid (Below.refl w2.heap.size w2); clear hb2))
      | (go_at_call 19; go_loud (refine (lives_calls _).mono ?_; rintro e w1 ⟨rfl, hb1⟩; have HB1 := Lib.hid hb1; clear hb1)))
    go_ret
    exact ⟨rfl, HB10.out⟩
theorem walk (x0 : Int) (x1 : Int) (W : World) (p0 : (IntKind.i64.min ≤ x0 ∧ x0 ≤ IntKind.i64.max)) (p1 : (IntKind.i64.min ≤ x1 ∧ x1 ≤ IntKind.i64.max)) :
    Calls Try.prog 5 #[.int .i64 x0, .int .i64 x1] W fun e W' => e = .returned (.bool true) ∧ Below W.heap.size W W' := by
  by_cases h : 1 ≤ x0 ∧ x0 ≤ 1048576
  · exact ok_walk x0 x1 W h.1 h.2
  · exact bad_walk x0 x1 W h
end Go.Proofs.Ytnipbfhfaefieaa.ArAr
/-! pvec: one leaf becomes a trunk of two. -/
namespace Go.Proofs.Ytnipbfhfaefieaa.Pv
open Go.RowKit Go Go.Proofs.YtnipbfhfaefieaaW.PrintWords Go.Proofs.YtnipbfhfaefieaaW.PrintMore Go.Proofs.YtnipbfhfaefieaaW.PrintLast Go.Proofs.Ytnipbfhfaefieaa.Bts Go.Proofs.Ytnipbfhfaefieaa.Fra Go.Proofs.Ytnipbfhfaefieaa.ArnP Go.Proofs.Ytnipbfhfaefieaa.Arn Go.Proofs.Ytnipbfhfaefieaa.Ao
theorem kc_two (k lf : Nat) (hk : 0 < k) (hl : 0 < lf) : kc [(k : Int), (lf : Int)] = fun x => one lf x + one k x := by
  funext x
  rw [kc_cons k _ hk, kc_cons lf _ hl]
  show 0 + one lf x + one k x = _
  omega
set_option maxHeartbeats 1000000 in
set_option maxRecDepth 100000 in
theorem grow1_calls {O : Nat → Prop} {a : Nat} {f : Nat → Cell} {live most : Int} {rest : Nat → Nat} {op : Nat → Bool} (o : Int) (k lf : Nat) (w : World) (h : AO w O a f live most (fun z => rest z + one lf z + one k z) op) (hk : 0 < k) (hro : ∀ z, op z = true → 1 ≤ rest z) (hlf : 0 < lf) (hlm : live < most) :
    Calls Try.prog 80 #[workV a o, .int .i64 k, .int .i64 1, .int .i64 lf] w fun e w' => ∃ (i : Nat) (O' : Nat → Prop), e = .returned (.int .i64 i) ∧ AO w' O' a (upd f i ⟨o, 0, 0, [], [(k : Int), (lf : Int)], 1⟩) (live + 1) most (fun z => rest z + one i z) op ∧ 0 < i ∧ op i = false ∧ KeepR (fun z => rest z + one lf z + one k z) op f (upd f i ⟨o, 0, 0, [], [(k : Int), (lf : Int)], 1⟩) ∧ (∀ j, O' j → O j ∨ w.heap.size ≤ j) ∧ Fr O w w' := by
  have hkr : ∀ i, 0 < i → (f i).r = 0 → op i = false → KeepR (fun z => rest z + one lf z + one k z) op f (upd f i ⟨o, 0, 0, [], [(k : Int), (lf : Int)], 1⟩) := fun i h0 hr hoi => keepR_upd h i _ (fun hl => by have := hl.2.1; omega) (.inl hoi) (fun j h0 hj => h.ext_lv h0 hj)
  have e1 : (fun z => rest z + one lf z + one k z) = fun z => rest z + kc [(k : Int), (lf : Int)] z := by
    funext z
    rw [kc_two k lf hk hlf]
    show _ = rest z + (_ + _)
    omega
  have hkr2 := Lib.hid hkr
  clear hkr
  rw [e1] at h
  have hlt := h.lt
  have hbx := below_alloc (Below.refl w.heap.size w) (.cells #[.pointer (some ⟨a, 0, none⟩), .int .u32 o] 133)
  have hW : WorkB _ w.heap.size a o := blk_new w (.cells #[.pointer (some ⟨a, 0, none⟩), .int .u32 o] 133)
  have hl1 : lev 1 = 0 := rfl
  have hl2 : lev 2 = 1 := rfl
  have c1 : ∀ w, Calls Try.prog 62 #[.int .i64 1] w fun e w' => e = .returned (.int .i64 0) ∧ w' = w := fun w => by
    have := levels_calls 1 (by decide) w
    rw [hl1] at this
    exact this
  have c2 : ∀ w, Calls Try.prog 62 #[.int .i64 2] w fun e w' => e = .returned (.int .i64 1) ∧ w' = w := fun w => by
    have := levels_calls 2 (by decide) w
    rw [hl2] at this
    exact this
  clear hl1 hl2
  obtain ⟨V, hV⟩ : ∃ V, (w.alloc (.cells #[.pointer (some ⟨a, 0, none⟩), .int .u32 o] 133)).drew = V := ⟨_, rfl⟩
  have hd : Below (w.alloc (.cells #[.pointer (some ⟨a, 0, none⟩), .int .u32 o] 133)).heap.size (w.alloc (.cells #[.pointer (some ⟨a, 0, none⟩), .int .u32 o] 133)) V := by rw [← hV]; exact below_drew1 (Below.refl _ _)
  have hWd := blk_below hW hd
  have hbV : Below w.heap.size w V := hbx.trans (hd.mono (by simp))
  have LV := Lib.hid (show ∀ x y : Int, ((x = 1 ∧ y = 0) ∨ (x = 2 ∧ y = 1)) → ∀ w, Calls Try.prog 62 #[.int .i64 x] w fun e w' => e = .returned (.int .i64 y) ∧ w' = w from fun x y hx w => by
    rcases hx with ⟨rfl, rfl⟩ | ⟨rfl, rfl⟩
    · exact c1 w
    · exact c2 w)
  have q0 := blk_cell hWd 0
  have q1 := blk_cell hWd 1
  have HA := Lib.hid (h.below hbV)
  have HB := Lib.hid hbV
  have HW := Lib.hid hWd
  have HLT := Lib.hid hlt
  clear h hbx hW hd hWd hbV hlt e1 c1 c2
  go_enter Try.func80, Try.ntmps80
  go_wp2_with (go_at_call 62; refine (LV.out _ _ (by first | exact .inl ⟨rfl, rfl⟩ | exact .inr ⟨rfl, rfl⟩) _).mono ?_; rintro e w4 ⟨rfl, hw4⟩; subst w4)
  refine start_ (n := 10) (S := fun w' => w'.cell? ⟨w.heap.size, 0, none⟩ = some (.pointer (some ⟨a, 0, none⟩)) ∧ w'.cell? ⟨w.heap.size, 1, none⟩ = some (.int .u32 o)) (ds := [8]) #[false, false, false, false, false, false, false, false, false, false] (by kernel_rfl) rfl rfl ⟨(by rw [hV]; exact q0), (by rw [hV]; exact q1)⟩ (fun hHeld => ?_)
  refine pure_ (i := 1) (N := some 21) (v := ?_) (a' := ?_) #[false, true, false, false, false, false, false, false, false, false] rfl rfl (by kernel_rfl) (fun _ _ _ h => h) (Or.inl ⟨by rfl, ?_⟩) ?_ ?_
  rotate_left
  · intro w'
    go_simp
    with_reducible rfl
  rotate_left
  · simp only [Act.put, List.setIfInBounds_toArray, List.set_cons_zero, List.set_cons_succ, i64_w, i32_w]
    rfl
  refine pure_ (i := 3) (N := some 23) (v := ?_) (a' := ?_) #[false, true, false, true, false, false, false, false, false, false] rfl rfl (by kernel_rfl) (fun _ _ _ h => h) (Or.inl ⟨by rfl, ?_⟩) ?_ ?_
  rotate_left
  · intro w'
    go_simp
    with_reducible rfl
  rotate_left
  · simp only [Act.put, List.setIfInBounds_toArray, List.set_cons_zero, List.set_cons_succ, i64_w, i32_w]
    rfl
  refine pure_ (i := 4) (N := some 24) (v := ?_) (a' := ?_) #[false, true, false, true, true, false, false, false, false, false] rfl rfl (by kernel_rfl) (fun _ _ _ h => h) (Or.inl ⟨by rfl, ?_⟩) ?_ ?_
  rotate_left
  · intro w'
    go_simp
    with_reducible rfl
  rotate_left
  · simp only [Act.put, List.setIfInBounds_toArray, List.set_cons_zero, List.set_cons_succ, i64_w, i32_w]
    rfl
  refine take_ (i := 0) (N := some 20) (v := ?_) (a' := ?_) #[true, true, false, true, true, false, false, false, false, false] rfl rfl (by kernel_rfl) (fun _ _ _ h => h) (Or.inl ⟨by rfl, ?_⟩) hHeld ?_ ?_
  rotate_left
  · rintro w' ⟨s0, s1⟩
    go_simp
    with_reducible rfl
  rotate_left
  · simp only [Act.put, List.setIfInBounds_toArray, List.set_cons_zero, List.set_cons_succ, i64_w, i32_w]
    rfl
  refine take_ (i := 2) (N := some 22) (v := ?_) (a' := ?_) #[true, true, true, true, true, false, false, false, false, false] rfl rfl (by kernel_rfl) (fun _ _ _ h => h) (Or.inl ⟨by rfl, ?_⟩) hHeld ?_ ?_
  rotate_left
  · rintro w' ⟨s0, s1⟩
    go_simp
    with_reducible rfl
  rotate_left
  · simp only [Act.put, List.setIfInBounds_toArray, List.set_cons_zero, List.set_cons_succ, i64_w, i32_w]
    rfl
  refine one_ (i := 5) (N := some 25) #[true, true, true, true, true, true, false, false, false, false] rfl rfl (by kernel_rfl) (by decide) (fun K hK => ?_)
  refine goes_ Try.func96 (by kernel_rfl) rfl #[workV a o, .int .i64 0, .int .i64 lf] (by rfl) rfl rfl (by simp only [List.map_toArray, List.map_cons, List.map_nil]; rfl) ?_
  with_reducible refine (path0_calls a o lf _).mono ?_
  rintro e w5 ⟨rfl, hB5⟩
  refine ⟨_, rfl, ?_⟩
  have hB5 : Below V.heap.size V w5 := hV ▸ hB5
  have HB5 := Lib.hid hB5
  have hbw := HB.out.trans (hB5.mono HB.out.size)
  have hbl := below_alloc hbw (.cells #[.int .i64 (k : Int), .int .i64 (lf : Int)] 3)
  have HBL := Lib.hid hbl
  have hA6 := HA.out.below (below_alloc hB5 (.cells #[.int .i64 (k : Int), .int .i64 (lf : Int)] 3))
  have HA6 := Lib.hid hA6
  have hs5 := hbw.size
  have hrow : RowIn (Kd.int .i64) (w5.alloc (.cells #[.int .i64 (k : Int), .int .i64 (lf : Int)] 3)) (fun j => w5.heap.size ≤ j) (.slice (some ⟨w5.heap.size, 0, none⟩) 2 2) [(k : Int), (lf : Int)] := ArAr.row_lit w5 [(k : Int), (lf : Int)] #[.int .i64 k, .int .i64 lf] rfl (by simp)
  have hrn : RowIn kVal (w5.alloc (.cells #[.int .i64 (k : Int), .int .i64 (lf : Int)] 3)) (fun j => w5.heap.size ≤ j) (.slice none 0 0) [] := row_none _ _ _
  clear hbw hbl hA6
  refine hK.out _ _ ⟨(blk_cell (blk_below HW.out HB5.out) 0), (blk_cell (blk_below HW.out HB5.out) 1)⟩ (fun hHeld => ?_)
  clear hK K
  refine norm_ (a' := ?_) ?_ ?_
  rotate_left
  · show Act.put _ (some 25) _ = _
    simp only [Act.put, List.setIfInBounds_toArray, List.set_cons_zero, List.set_cons_succ, i64_w, i32_w]
    rfl
  refine one_ (i := 6) (N := some 26) #[true, true, true, true, true, true, true, false, false, false] rfl rfl (by kernel_rfl) (by decide) (fun K hK => ?_)
  refine value_ (w1 := ?_) (v := ?_) (by rfl) rfl ?_ ?_
  rotate_left 2
  · go_simp
    constructor
    · rfl
    · rfl
  refine hK.out _ _ ⟨(pw_cell_below (below_alloc (Below.refl w5.heap.size w5) _) (blk_cell (blk_below HW.out HB5.out) 0)), (pw_cell_below (below_alloc (Below.refl w5.heap.size w5) _) (blk_cell (blk_below HW.out HB5.out) 1))⟩ (fun hHeld => ?_)
  clear hK K
  refine norm_ (a' := ?_) ?_ ?_
  rotate_left
  · show Act.put _ (some 26) _ = _
    simp only [Act.put, List.setIfInBounds_toArray, List.set_cons_zero, List.set_cons_succ, i64_w, i32_w]
    rfl
  refine pure_ (i := 7) (N := some 27) (v := ?_) (a' := ?_) #[true, true, true, true, true, true, true, true, false, false] rfl rfl (by kernel_rfl) (fun _ _ _ h => h) (Or.inl ⟨by rfl, ?_⟩) ?_ ?_
  rotate_left
  · intro w'
    go_simp
    with_reducible rfl
  rotate_left
  · simp only [Act.put, List.setIfInBounds_toArray, List.set_cons_zero, List.set_cons_succ, i64_w, i32_w]
    rfl
  refine last_ (i := 8) (N := some 28) #[true, true, true, true, true, true, true, true, true, false] rfl rfl (by kernel_rfl) (by decide) (fun K hK => ?_)
  refine goes_ Try.func82 (by kernel_rfl) rfl #[workV a o, cellV 0 0 0 (.slice none 0 0) (.slice (some ⟨w5.heap.size, 0, none⟩) 2 2), .nilFunc] (by rfl) rfl rfl (by simp only [List.map_toArray, List.map_cons, List.map_nil]; rfl) ?_
  with_reducible refine (make_nil (Q := fun j => w5.heap.size ≤ j) o 0 0 0 (.slice none 0 0) (.slice (some ⟨w5.heap.size, 0, none⟩) 2 2) [] [(k : Int), (lf : Int)] _ HA6.out hrn hrow (fun j hj hj2 => by have := HLT.out j hj2; omega) (by intro z hz; simp at hz; omega) hlm (by simp) (by simp) hro).mono ?_
  rintro e w7 ⟨i, O', rfl, hA7, h0, hr, hoi, hK7, hO7, hF7⟩
  refine ⟨_, rfl, ?_⟩
  have HA7 := Lib.hid hA7
  have HF7 := Lib.hid hF7
  clear hA7 hF7
  refine hK.out _ _ ?_
  clear hK K
  refine norm_ (a' := ?_) ?_ ?_
  rotate_left
  · show Act.put _ (some 28) _ = _
    simp only [Act.put, List.setIfInBounds_toArray, List.set_cons_zero, List.set_cons_succ, i64_w, i32_w]
    rfl
  refine pure_ (i := 9) (N := some 8) (v := ?_) (a' := ?_) #[true, true, true, true, true, true, true, true, true, true] rfl rfl (by kernel_rfl) (fun _ _ _ h => h) (Or.inl ⟨by rfl, ?_⟩) ?_ ?_
  rotate_left
  · intro w'
    go_simp
    with_reducible rfl
  rotate_left
  · simp only [Act.put, List.setIfInBounds_toArray, List.set_cons_zero, List.set_cons_succ, i64_w, i32_w]
    rfl
  refine done_ (by kernel_rfl) ?_

  go_wp2
  go_ret
  have hs := HBL.out.size
  exact ⟨i, O', rfl, HA7.out, h0, hoi, hkr2.out i h0 hr hoi, fun j hj => (hO7 j hj).imp id (fun q => by omega), (Fr.of_new HBL.out).trans HF7.out⟩
end Go.Proofs.Ytnipbfhfaefieaa.Pv
