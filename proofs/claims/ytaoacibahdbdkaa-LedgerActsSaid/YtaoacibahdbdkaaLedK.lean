/- ledger: Take, as a contract. -/
import Derived.Test.YtaoacibahdbdkaaLedT
namespace Go.Proofs.Ytaoacibahdbdkaa.Led
open Go.RowKit Go Go.Proofs.YtaoacibahdbdkaaW.PrintWords Go.Proofs.YtaoacibahdbdkaaW.PrintMore Go.Proofs.YtaoacibahdbdkaaW.PrintLast Go.Proofs.Ytaoacibahdbdkaa.Bts Go.Proofs.Ytaoacibahdbdkaa.Fra Go.Maps
section
variable {B g b n : Nat} {most : Int × Int × Int} {keys : List Int} {D : DM} {blk : Int → Nat} {f : Int → Int × Int × Int}
theorem take_nil (k x y z : Int) (w : World) :
    Calls Try.prog 23 #[.pointer none, .int .u32 k, bill x y z] w fun e w' => e = .returned (.int .i64 1) ∧ Below w.heap.size w w' := by
  go_enter Try.func23, Try.ntmps23
  go_wp2
  go_ret
  exact ⟨rfl, below_alloc (Below.refl _ _) _⟩
theorem take_wrong (k x y z : Int) (w : World) (hr : rightB x y z = false) :
    Calls Try.prog 23 #[.pointer (some ⟨g, 0, none⟩), .int .u32 k, bill x y z] w fun e w' => e = .returned (.int .i64 1) ∧ Below w.heap.size w w' := by
  have HR := Lib.hid hr
  clear hr
  go_enter Try.func23, Try.ntmps23
  go_wp2_with (go_at_call 21; go_loud (refine (right_is false _ _ _ _ HR.out).mono ?_; rintro e w2 ⟨rfl, hB2⟩))
  go_ret
  exact ⟨rfl, below_then (below_alloc (Below.refl _ _) _) (by simp) hB2⟩
set_option maxHeartbeats 2000000 in
set_option maxRecDepth 100000 in
theorem take_over (k x y z : Int) (w : World) (h : LX B w g n most keys f) (h0 : 0 ≤ k) (h1 : k ≤ 4294967295) (hkk : k ∈ keys) (hB : B ≤ w.heap.size) (hn : n < maxLen)
    (hr : rightB x y z = true) (hw : withinB x y z (wi (most.1 - (f k).1)) (wi (most.2.1 - (f k).2.1)) (wi (most.2.2 - (f k).2.2)) = false) :
    Calls Try.prog 23 #[.pointer (some ⟨g, 0, none⟩), .int .u32 k, bill x y z] w fun e w' => e = .returned (.int .i64 8) ∧ LX B w' g (n + 1) most keys f ∧ Fl B w w' := by
  obtain ⟨p, q, r, hx⟩ : ∃ p q r, f k = (p, q, r) := ⟨_, _, _, rfl⟩
  obtain ⟨m1, m2, m3⟩ := most
  rw [hx] at hw
  have HX := Lib.hid hx
  have H := Lib.hid h
  have HNN := Lib.hid hn
  have HKB := Lib.hid hB
  have HR := Lib.hid hr
  have HW := Lib.hid hw
  clear h hn hB hx hr hw
  go_enter Try.func23, Try.ntmps23
  go_wp2_with (go_at_call 21; go_loud (refine (right_is true _ _ _ _ HR.out).mono ?_; rintro e w2 ⟨rfl, hB2⟩; have HB2 := Lib.hid (below_then (below_alloc (Below.refl _ _) _) (by simp) hB2); have HP2 := Lib.hid (blk_below (blk_new w _) hB2); clear hB2))
  have hL2 := Lib.hid (H.out.below (HB2.out))
  have hP := blk_below HP2.out (below_drew1 (Below.refl _ _))
  have hL := hL2.out.below (below_drew1 (Below.refl _ _))
  obtain ⟨b0, hO⟩ := hL.obj
  have p0 := blk_cell hP 0
  have p1 := blk_cell hP 1
  have p2 := blk_cell hP 2
  have o0 := blk_cell hO 0
  have o1 := blk_cell hO 1
  have o2 := blk_cell hO 2
  have HZ := Lib.hid (show B ≤ w2.drew.heap.size from Nat.le_trans HKB.out HB2.out.size)
  have HP := Lib.hid hP
  have HL := Lib.hid hL
  clear hP hL hO
  refine start_ (n := 12) (S := fun w' => w'.cell? ⟨w.heap.size, 0, none⟩ = some (.int .i64 x) ∧ w'.cell? ⟨w.heap.size, 1, none⟩ = some (.int .i64 y) ∧ w'.cell? ⟨w.heap.size, 2, none⟩ = some (.int .i64 z) ∧ w'.cell? ⟨g, 0, none⟩ = some (.int .i64 m1) ∧ w'.cell? ⟨g, 1, none⟩ = some (.int .i64 m2) ∧ w'.cell? ⟨g, 2, none⟩ = some (.int .i64 m3)) (ds := []) #[false, false, false, false, false, false, false, false, false, false, false, false] (by kernel_rfl) rfl rfl ⟨p0, p1, p2, o0, o1, o2⟩ (fun hHeld => ?_)
  refine pure_ (i := 1) (N := some 17) (v := ?_) (a' := ?_) #[false, true, false, false, false, false, false, false, false, false, false, false] rfl rfl (by kernel_rfl) (fun _ _ _ h => h) (Or.inl ⟨by rfl, ?_⟩) ?_ ?_
  rotate_left
  · intro w'
    go_simp
    with_reducible rfl
  rotate_left
  · simp only [Act.put, List.setIfInBounds_toArray, List.set_cons_zero, List.set_cons_succ, i64_w, i32_w]
    rfl
  refine pure_ (i := 2) (N := some 18) (v := ?_) (a' := ?_) #[false, true, true, false, false, false, false, false, false, false, false, false] rfl rfl (by kernel_rfl) (fun _ _ _ h => h) (Or.inl ⟨by rfl, ?_⟩) ?_ ?_
  rotate_left
  · intro w'
    go_simp
    with_reducible rfl
  rotate_left
  · simp only [Act.put, List.setIfInBounds_toArray, List.set_cons_zero, List.set_cons_succ, i64_w, i32_w]
    rfl
  refine pure_ (i := 3) (N := some 19) (v := ?_) (a' := ?_) #[false, true, true, true, false, false, false, false, false, false, false, false] rfl rfl (by kernel_rfl) (fun _ _ _ h => h) (Or.inl ⟨by rfl, ?_⟩) ?_ ?_
  rotate_left
  · intro w'
    go_simp
    with_reducible rfl
  rotate_left
  · simp only [Act.put, List.setIfInBounds_toArray, List.set_cons_zero, List.set_cons_succ, i64_w, i32_w]
    rfl
  refine pure_ (i := 5) (N := some 21) (v := ?_) (a' := ?_) #[false, true, true, true, false, true, false, false, false, false, false, false] rfl rfl (by kernel_rfl) (fun _ _ _ h => h) (Or.inl ⟨by rfl, ?_⟩) ?_ ?_
  rotate_left
  · intro w'
    go_simp
    with_reducible rfl
  rotate_left
  · simp only [Act.put, List.setIfInBounds_toArray, List.set_cons_zero, List.set_cons_succ, i64_w, i32_w]
    rfl
  refine pure_ (i := 6) (N := some 22) (v := ?_) (a' := ?_) #[false, true, true, true, false, true, true, false, false, false, false, false] rfl rfl (by kernel_rfl) (fun _ _ _ h => h) (Or.inl ⟨by rfl, ?_⟩) ?_ ?_
  rotate_left
  · intro w'
    go_simp
    with_reducible rfl
  rotate_left
  · simp only [Act.put, List.setIfInBounds_toArray, List.set_cons_zero, List.set_cons_succ, i64_w, i32_w]
    rfl
  refine take_ (i := 0) (N := some 16) (v := ?_) (a' := ?_) #[true, true, true, true, false, true, true, false, false, false, false, false] rfl rfl (by kernel_rfl) (fun _ _ _ h => h) (Or.inl ⟨by rfl, ?_⟩) hHeld ?_ ?_
  rotate_left
  · rintro w' ⟨s0, s1, s2, s3, s4, s5⟩
    go_simp
    with_reducible rfl
  rotate_left
  · simp only [Act.put, List.setIfInBounds_toArray, List.set_cons_zero, List.set_cons_succ, i64_w, i32_w]
    rfl
  refine take_ (i := 4) (N := some 20) (v := ?_) (a' := ?_) #[true, true, true, true, true, true, true, false, false, false, false, false] rfl rfl (by kernel_rfl) (fun _ _ _ h => h) (Or.inl ⟨by rfl, ?_⟩) hHeld ?_ ?_
  rotate_left
  · rintro w' ⟨s0, s1, s2, s3, s4, s5⟩
    go_simp
    with_reducible rfl
  rotate_left
  · simp only [Act.put, List.setIfInBounds_toArray, List.set_cons_zero, List.set_cons_succ, i64_w, i32_w]
    rfl
  refine one_ (i := 7) (N := some 23) #[true, true, true, true, true, true, true, true, false, false, false, false] rfl rfl (by kernel_rfl) (by decide) (fun K hK => ?_)
  refine goes_ Try.func26 (by kernel_rfl) rfl #[.pointer (some ⟨g, 0, none⟩), .int .u32 k] (by rfl) rfl rfl (by simp only [List.map_toArray, List.map_cons, List.map_nil]; rfl) ?_
  with_reducible refine (has_calls k _ HL.out h0 h1 hkk HZ.out HNN.out).mono ?_
  rintro e w3 ⟨rfl, ⟨a, hA⟩, hF3⟩
  refine ⟨_, rfl, ?_⟩
  rw [HX.out]
  obtain ⟨b1, hO3⟩ := hA.lx.obj
  have hP3 := hF3.blk HP.out (Lt.no HP.out (by decide))
  refine hK.out _ _ ⟨(blk_cell hP3 0), (blk_cell hP3 1), (blk_cell hP3 2), (blk_cell hO3 0), (blk_cell hO3 1), (blk_cell hO3 2)⟩ (fun hHeld => ?_)
  clear hK K
  refine norm_ (a' := ?_) ?_ ?_
  rotate_left
  · show Act.put _ (some 23) _ = _
    simp only [Act.put, List.setIfInBounds_toArray, List.set_cons_zero, List.set_cons_succ, i64_w, i32_w]
    rfl
  refine one_ (i := 8) (N := some 24) #[true, true, true, true, true, true, true, true, true, false, false, false] rfl rfl (by kernel_rfl) (by decide) (fun K hK => ?_)
  refine goes_ Try.func19 (by kernel_rfl) rfl #[bill m1 m2 m3, bill p q r] (by rfl) rfl rfl (by simp only [List.map_toArray, List.map_cons, List.map_nil]; rfl) ?_
  with_reducible refine (minus_calls _ _ _ _ _ _ _).mono ?_
  rintro e w4 ⟨rfl, hB4⟩
  refine ⟨_, rfl, ?_⟩
  have hP4 := blk_below hP3 hB4
  have hO4 := blk_below hO3 hB4
  refine hK.out _ _ ⟨(blk_cell hP4 0), (blk_cell hP4 1), (blk_cell hP4 2), (blk_cell hO4 0), (blk_cell hO4 1), (blk_cell hO4 2)⟩ (fun hHeld => ?_)
  clear hK K
  refine norm_ (a' := ?_) ?_ ?_
  rotate_left
  · show Act.put _ (some 24) _ = _
    simp only [Act.put, List.setIfInBounds_toArray, List.set_cons_zero, List.set_cons_succ, i64_w, i32_w]
    rfl
  refine one_ (i := 9) (N := some 25) #[true, true, true, true, true, true, true, true, true, true, false, false] rfl rfl (by kernel_rfl) (by decide) (fun K hK => ?_)
  refine goes_ Try.func20 (by kernel_rfl) rfl #[bill x y z, bill (wi (m1 - p)) (wi (m2 - q)) (wi (m3 - r))] (by rfl) rfl rfl (by simp only [List.map_toArray, List.map_cons, List.map_nil]; rfl) ?_
  with_reducible refine (within_is false _ _ _ _ _ _ _ HW.out).mono ?_
  rintro e w5 ⟨rfl, hB5⟩
  refine ⟨_, rfl, ?_⟩
  have hP5 := blk_below hP4 hB5
  have hO5 := blk_below hO4 hB5
  refine hK.out _ _ ⟨(blk_cell hP5 0), (blk_cell hP5 1), (blk_cell hP5 2), (blk_cell hO5 0), (blk_cell hO5 1), (blk_cell hO5 2)⟩ (fun hHeld => ?_)
  clear hK K
  refine norm_ (a' := ?_) ?_ ?_
  rotate_left
  · show Act.put _ (some 25) _ = _
    simp only [Act.put, List.setIfInBounds_toArray, List.set_cons_zero, List.set_cons_succ, i64_w, i32_w]
    rfl
  refine pure_ (i := 10) (N := some 26) (v := ?_) (a' := ?_) #[true, true, true, true, true, true, true, true, true, true, true, false] rfl rfl (by kernel_rfl) (fun _ _ _ h => h) (Or.inl ⟨by rfl, ?_⟩) ?_ ?_
  rotate_left
  · intro w'
    go_simp
    with_reducible rfl
  rotate_left
  · simp only [Act.put, List.setIfInBounds_toArray, List.set_cons_zero, List.set_cons_succ, i64_w, i32_w]
    rfl
  refine pure_ (i := 11) (N := some 15) (v := ?_) (a' := ?_) #[true, true, true, true, true, true, true, true, true, true, true, true] rfl rfl (by kernel_rfl) (fun _ _ _ h => h) (Or.inl ⟨by rfl, ?_⟩) ?_ ?_
  rotate_left
  · intro w'
    go_simp
    with_reducible rfl
  rotate_left
  · simp only [Act.put, List.setIfInBounds_toArray, List.set_cons_zero, List.set_cons_succ, i64_w, i32_w]
    rfl
  refine done_ (by kernel_rfl) ?_

  have HA5 := Lib.hid ((hA.below hB4).below hB5)
  have HF5 := Lib.hid (Fr.more (Fr.more hF3 hB4) hB5)
  clear hA hF3 hB4 hB5 hP3 hO3 hP4 hO4 hP5 hO5
  go_wp2
  go_ret
  exact ⟨rfl, HA5.out.lx, Fl.trans (Fr.of_new (below_drew1 HB2.out)) HF5.out⟩
end
end Go.Proofs.Ytaoacibahdbdkaa.Led
