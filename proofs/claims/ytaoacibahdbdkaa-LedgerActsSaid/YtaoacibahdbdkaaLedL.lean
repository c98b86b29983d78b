/- ledger: Take, as a contract: it is taken. -/
import Derived.Test.YtaoacibahdbdkaaLedK
namespace Go.Proofs.Ytaoacibahdbdkaa.Led
open Go.RowKit Go Go.Proofs.YtaoacibahdbdkaaW.PrintWords Go.Proofs.YtaoacibahdbdkaaW.PrintMore Go.Proofs.YtaoacibahdbdkaaW.PrintLast Go.Proofs.Ytaoacibahdbdkaa.Bts Go.Proofs.Ytaoacibahdbdkaa.Fra Go.Maps
section
variable {B g b n : Nat} {most : Int × Int × Int} {keys : List Int} {D : DM} {blk : Int → Nat} {f : Int → Int × Int × Int}
theorem bill_C {w : World} {b : Nat} {T : TypeId} {s : Nat × Nat} {x y z : Int} (h : w.heap[b]? = some (.cells #[.int .i64 x, .int .i64 y, .int .i64 z] T (0, 0))) : kBill.C w (some ⟨b, 0, none⟩) 1 [(x, y, z)] := by
  refine ⟨rfl, by simp, fun _ => ⟨⟨b, 0, none⟩, rfl, fun j p hj => ?_⟩⟩
  match j, hj with
  | 0, hj =>
    obtain rfl : (x, y, z) = p := by simpa using hj
    refine ⟨[.int .i64 x, .int .i64 y, .int .i64 z], rfl, ⟨_, _, rfl, rfl, _, _, rfl, rfl, rfl⟩, fun i u hi => ?_⟩
    show w.cell? ((⟨b, 0, none⟩ : Addr).add (0 * 3 + i)) = some u
    rw [add_plain, blk_cell h]
    simpa using hi
theorem plus_one (b : Nat) (x y z p q r : Int) (w : World) (h : w.heap[b]? = some (.cells #[.int .i64 x, .int .i64 y, .int .i64 z] 23 (0, 0))) :
    Calls Try.prog 18 #[bill p q r, .slice (some ⟨b, 0, none⟩) 1 1] w fun e w' => e = .returned (bill (wi (p + x)) (wi (q + y)) (wi (r + z))) ∧ Below w.heap.size w w' :=
  plus_calls (some ⟨b, 0, none⟩) 1 [(x, y, z)] p q r w (bill_C (s := (0, 0)) h) (by simp)
set_option maxHeartbeats 2000000 in
set_option maxRecDepth 100000 in
theorem take_ok (k x y z : Int) (w : World) (h : LX B w g n most keys f) (h0 : 0 ≤ k) (h1 : k ≤ 4294967295) (hkk : k ∈ keys) (hB : B ≤ w.heap.size) (hn : n < maxLen)
    (hr : rightB x y z = true) (hw : withinB x y z (wi (most.1 - (f k).1)) (wi (most.2.1 - (f k).2.1)) (wi (most.2.2 - (f k).2.2)) = true) :
    Calls Try.prog 23 #[.pointer (some ⟨g, 0, none⟩), .int .u32 k, bill x y z] w fun e w' => e = .returned (.int .i64 0) ∧ LX B w' g (n + 1) most keys (fun j => if j = k then (wi ((f k).1 + x), wi ((f k).2.1 + y), wi ((f k).2.2 + z)) else f j) ∧ Fl B w w' := by
  obtain ⟨p, q, r, hx⟩ : ∃ p q r, f k = (p, q, r) := ⟨_, _, _, rfl⟩
  obtain ⟨m1, m2, m3⟩ := most
  rw [hx] at hw
  have HX := Lib.hid hx
  have H := Lib.hid h
  have HNN := Lib.hid hn
  have HKB := Lib.hid hB
  have HR := Lib.hid hr
  have HW := Lib.hid hw
  clear h hn hB hx hr hw
  go_enter Try.func23, Try.ntmps23
  go_wp2_with (go_at_call 21; go_loud (refine (right_is true _ _ _ _ HR.out).mono ?_; rintro e w2 ⟨rfl, hB2⟩; have HB2 := Lib.hid (below_then (below_alloc (Below.refl _ _) _) (by simp) hB2); have HP2 := Lib.hid (blk_below (blk_new w _) hB2); clear hB2))
  have hL2 := Lib.hid (H.out.below (HB2.out))
  have hP := blk_below HP2.out (below_drew1 (Below.refl _ _))
  have hL := hL2.out.below (below_drew1 (Below.refl _ _))
  obtain ⟨b0, hO⟩ := hL.obj
  have p0 := blk_cell hP 0
  have p1 := blk_cell hP 1
  have p2 := blk_cell hP 2
  have o0 := blk_cell hO 0
  have o1 := blk_cell hO 1
  have o2 := blk_cell hO 2
  have HZ := Lib.hid (show B ≤ w2.drew.heap.size from Nat.le_trans HKB.out HB2.out.size)
  have HP := Lib.hid hP
  have HL := Lib.hid hL
  clear hP hL hO
  refine start_ (n := 12) (S := fun w' => w'.cell? ⟨w.heap.size, 0, none⟩ = some (.int .i64 x) ∧ w'.cell? ⟨w.heap.size, 1, none⟩ = some (.int .i64 y) ∧ w'.cell? ⟨w.heap.size, 2, none⟩ = some (.int .i64 z) ∧ w'.cell? ⟨g, 0, none⟩ = some (.int .i64 m1) ∧ w'.cell? ⟨g, 1, none⟩ = some (.int .i64 m2) ∧ w'.cell? ⟨g, 2, none⟩ = some (.int .i64 m3)) (ds := []) #[false, false, false, false, false, false, false, false, false, false, false, false] (by kernel_rfl) rfl rfl ⟨p0, p1, p2, o0, o1, o2⟩ (fun hHeld => ?_)
  refine pure_ (i := 1) (N := some 17) (v := ?_) (a' := ?_) #[false, true, false, false, false, false, false, false, false, false, false, false] rfl rfl (by kernel_rfl) (fun _ _ _ h => h) (Or.inl ⟨by rfl, ?_⟩) ?_ ?_
  rotate_left
  · intro w'
    go_simp
    with_reducible rfl
  rotate_left
  · simp only [Act.put, List.setIfInBounds_toArray, List.set_cons_zero, List.set_cons_succ, i64_w, i32_w]
    rfl
  refine pure_ (i := 2) (N := some 18) (v := ?_) (a' := ?_) #[false, true, true, false, false, false, false, false, false, false, false, false] rfl rfl (by kernel_rfl) (fun _ _ _ h => h) (Or.inl ⟨by rfl, ?_⟩) ?_ ?_
  rotate_left
  · intro w'
    go_simp
    with_reducible rfl
  rotate_left
  · simp only [Act.put, List.setIfInBounds_toArray, List.set_cons_zero, List.set_cons_succ, i64_w, i32_w]
    rfl
  refine pure_ (i := 3) (N := some 19) (v := ?_) (a' := ?_) #[false, true, true, true, false, false, false, false, false, false, false, false] rfl rfl (by kernel_rfl) (fun _ _ _ h => h) (Or.inl ⟨by rfl, ?_⟩) ?_ ?_
  rotate_left
  · intro w'
    go_simp
    with_reducible rfl
  rotate_left
  · simp only [Act.put, List.setIfInBounds_toArray, List.set_cons_zero, List.set_cons_succ, i64_w, i32_w]
    rfl
  refine pure_ (i := 5) (N := some 21) (v := ?_) (a' := ?_) #[false, true, true, true, false, true, false, false, false, false, false, false] rfl rfl (by kernel_rfl) (fun _ _ _ h => h) (Or.inl ⟨by rfl, ?_⟩) ?_ ?_
  rotate_left
  · intro w'
    go_simp
    with_reducible rfl
  rotate_left
  · simp only [Act.put, List.setIfInBounds_toArray, List.set_cons_zero, List.set_cons_succ, i64_w, i32_w]
    rfl
  refine pure_ (i := 6) (N := some 22) (v := ?_) (a' := ?_) #[false, true, true, true, false, true, true, false, false, false, false, false] rfl rfl (by kernel_rfl) (fun _ _ _ h => h) (Or.inl ⟨by rfl, ?_⟩) ?_ ?_
  rotate_left
  · intro w'
    go_simp
    with_reducible rfl
  rotate_left
  · simp only [Act.put, List.setIfInBounds_toArray, List.set_cons_zero, List.set_cons_succ, i64_w, i32_w]
    rfl
  refine take_ (i := 0) (N := some 16) (v := ?_) (a' := ?_) #[true, true, true, true, false, true, true, false, false, false, false, false] rfl rfl (by kernel_rfl) (fun _ _ _ h => h) (Or.inl ⟨by rfl, ?_⟩) hHeld ?_ ?_
  rotate_left
  · rintro w' ⟨s0, s1, s2, s3, s4, s5⟩
    go_simp
    with_reducible rfl
  rotate_left
  · simp only [Act.put, List.setIfInBounds_toArray, List.set_cons_zero, List.set_cons_succ, i64_w, i32_w]
    rfl
  refine take_ (i := 4) (N := some 20) (v := ?_) (a' := ?_) #[true, true, true, true, true, true, true, false, false, false, false, false] rfl rfl (by kernel_rfl) (fun _ _ _ h => h) (Or.inl ⟨by rfl, ?_⟩) hHeld ?_ ?_
  rotate_left
  · rintro w' ⟨s0, s1, s2, s3, s4, s5⟩
    go_simp
    with_reducible rfl
  rotate_left
  · simp only [Act.put, List.setIfInBounds_toArray, List.set_cons_zero, List.set_cons_succ, i64_w, i32_w]
    rfl
  refine one_ (i := 7) (N := some 23) #[true, true, true, true, true, true, true, true, false, false, false, false] rfl rfl (by kernel_rfl) (by decide) (fun K hK => ?_)
  refine goes_ Try.func26 (by kernel_rfl) rfl #[.pointer (some ⟨g, 0, none⟩), .int .u32 k] (by rfl) rfl rfl (by simp only [List.map_toArray, List.map_cons, List.map_nil]; rfl) ?_
  with_reducible refine (has_calls k _ HL.out h0 h1 hkk HZ.out HNN.out).mono ?_
  rintro e w3 ⟨rfl, ⟨a, hA⟩, hF3⟩
  refine ⟨_, rfl, ?_⟩
  rw [HX.out]
  obtain ⟨b1, hO3⟩ := hA.lx.obj
  have hP3 := hF3.blk HP.out (Lt.no HP.out (by decide))
  refine hK.out _ _ ⟨(blk_cell hP3 0), (blk_cell hP3 1), (blk_cell hP3 2), (blk_cell hO3 0), (blk_cell hO3 1), (blk_cell hO3 2)⟩ (fun hHeld => ?_)
  clear hK K
  refine norm_ (a' := ?_) ?_ ?_
  rotate_left
  · show Act.put _ (some 23) _ = _
    simp only [Act.put, List.setIfInBounds_toArray, List.set_cons_zero, List.set_cons_succ, i64_w, i32_w]
    rfl
  refine one_ (i := 8) (N := some 24) #[true, true, true, true, true, true, true, true, true, false, false, false] rfl rfl (by kernel_rfl) (by decide) (fun K hK => ?_)
  refine goes_ Try.func19 (by kernel_rfl) rfl #[bill m1 m2 m3, bill p q r] (by rfl) rfl rfl (by simp only [List.map_toArray, List.map_cons, List.map_nil]; rfl) ?_
  with_reducible refine (minus_calls _ _ _ _ _ _ _).mono ?_
  rintro e w4 ⟨rfl, hB4⟩
  refine ⟨_, rfl, ?_⟩
  have hP4 := blk_below hP3 hB4
  have hO4 := blk_below hO3 hB4
  refine hK.out _ _ ⟨(blk_cell hP4 0), (blk_cell hP4 1), (blk_cell hP4 2), (blk_cell hO4 0), (blk_cell hO4 1), (blk_cell hO4 2)⟩ (fun hHeld => ?_)
  clear hK K
  refine norm_ (a' := ?_) ?_ ?_
  rotate_left
  · show Act.put _ (some 24) _ = _
    simp only [Act.put, List.setIfInBounds_toArray, List.set_cons_zero, List.set_cons_succ, i64_w, i32_w]
    rfl
  refine one_ (i := 9) (N := some 25) #[true, true, true, true, true, true, true, true, true, true, false, false] rfl rfl (by kernel_rfl) (by decide) (fun K hK => ?_)
  refine goes_ Try.func20 (by kernel_rfl) rfl #[bill x y z, bill (wi (m1 - p)) (wi (m2 - q)) (wi (m3 - r))] (by rfl) rfl rfl (by simp only [List.map_toArray, List.map_cons, List.map_nil]; rfl) ?_
  with_reducible refine (within_is true _ _ _ _ _ _ _ HW.out).mono ?_
  rintro e w5 ⟨rfl, hB5⟩
  refine ⟨_, rfl, ?_⟩
  have hP5 := blk_below hP4 hB5
  have hO5 := blk_below hO4 hB5
  refine hK.out _ _ ⟨(blk_cell hP5 0), (blk_cell hP5 1), (blk_cell hP5 2), (blk_cell hO5 0), (blk_cell hO5 1), (blk_cell hO5 2)⟩ (fun hHeld => ?_)
  clear hK K
  refine norm_ (a' := ?_) ?_ ?_
  rotate_left
  · show Act.put _ (some 25) _ = _
    simp only [Act.put, List.setIfInBounds_toArray, List.set_cons_zero, List.set_cons_succ, i64_w, i32_w]
    rfl
  refine pure_ (i := 10) (N := some 26) (v := ?_) (a' := ?_) #[true, true, true, true, true, true, true, true, true, true, true, false] rfl rfl (by kernel_rfl) (fun _ _ _ h => h) (Or.inl ⟨by rfl, ?_⟩) ?_ ?_
  rotate_left
  · intro w'
    go_simp
    with_reducible rfl
  rotate_left
  · simp only [Act.put, List.setIfInBounds_toArray, List.set_cons_zero, List.set_cons_succ, i64_w, i32_w]
    rfl
  refine pure_ (i := 11) (N := some 15) (v := ?_) (a' := ?_) #[true, true, true, true, true, true, true, true, true, true, true, true] rfl rfl (by kernel_rfl) (fun _ _ _ h => h) (Or.inl ⟨by rfl, ?_⟩) ?_ ?_
  rotate_left
  · intro w'
    go_simp
    with_reducible rfl
  rotate_left
  · simp only [Act.put, List.setIfInBounds_toArray, List.set_cons_zero, List.set_cons_succ, i64_w, i32_w]
    rfl
  refine done_ (by kernel_rfl) ?_

  have HA5 := Lib.hid ((hA.below hB4).below hB5)
  have HF5 := Lib.hid (Fl.trans (Fr.of_new (S := Lt B w) (below_drew1 HB2.out)) (Fr.more (Fr.more hF3 hB4) hB5))
  have HP5 := Lib.hid hP5
  clear hA hF3 hB4 hB5 hP3 hO3 hP4 hO4 hP5 hO5 p0 p1 p2 o0 o1 o2
  go_wp2
  have hS := Below.refl w5.heap.size w5
  have hna : ¬ w.heap.size = a := fun e => by
    have := HA5.out.acc
    unfold Acc at this
    rw [← e, HP5.out] at this
    injection (Option.some.inj this) with _ h2
    exact absurd h2 (by decide)
  have hc0 : ∀ W, Fr (· = a) w5 W → W.cell? ⟨w.heap.size, 0, none⟩ = some (.int .i64 x) := fun W hW => blk_cell (hW.blk HP5.out hna) 0
  have hc1 : ∀ W, Fr (· = a) w5 W → W.cell? ⟨w.heap.size, 1, none⟩ = some (.int .i64 y) := fun W hW => blk_cell (hW.blk HP5.out hna) 1
  have hc2 : ∀ W, Fr (· = a) w5 W → W.cell? ⟨w.heap.size, 2, none⟩ = some (.int .i64 z) := fun W hW => blk_cell (hW.blk HP5.out hna) 2
  go_region_held3 (fun W => Fr (· = a) w5 W) (first | assumption | (refine Fr.of_new ?_; first | exact hb8 | exact hb7 | exact below_alloc hb7 _ | exact below_drew1 hS | exact below_alloc (below_drew1 hS) _ | exact below_drew1 (below_alloc hS _)) | exact Fr.trans (Fr.of_new hb8) hF9) (first
    | (go_at_call 63; refine (ofA_calls k a _ (HA5.out.below (by repeat (first | (with_reducible first | exact hS | apply below_alloc | apply pw_below_drewN | apply below_drew1) | exact hS))) h0 h1).mono ?_; rintro e w6 ⟨rfl, rfl⟩)
    | (go_at_call 26; refine (hasA_calls k a _ (HA5.out.below (by repeat (first | (with_reducible first | exact hS | apply below_alloc | apply pw_below_drewN | apply below_drew1) | exact hS))) h0 h1).mono ?_; rw [HX.out]; rintro e w7 ⟨rfl, hB7⟩; have hb7 : Below w5.heap.size w5 w7 := below_step (by repeat (first | (with_reducible first | exact hS | apply below_alloc | apply pw_below_drewN | apply below_drew1) | exact hS)) hB7)
    | (go_at_call 18; go_loud (refine (plus_one _ x y z p q r _ (by first | exact blk_new _ _ | (refine blk_below ?_ hB7; first | exact blk_new _ _ | exact blk_drew (blk_new _ _)))).mono ?_; rintro e w8 ⟨rfl, hB8⟩; have hb8 : Below w5.heap.size w5 w8 := below_step (by repeat (first | (with_reducible first | exact hb7 | apply below_alloc | apply pw_below_drewN | apply below_drew1) | exact hb7)) hB8))
    | (go_at_call 64; refine (set_calls a _ _ _ _ _ ((HA5.out.below hb8).acc)).mono ?_; rintro e w9 ⟨rfl, hA9, hF9⟩))
  all_goals (
    have HA9 := Lib.hid hA9
    have HF9 := Lib.hid hF9
    have Hb8 := Lib.hid hb8
    clear hA9 hF9
    go_wp2
    go_ret
    have hr := (HA5.out.below Hb8.out).set HA9.out HF9.out
    refine ⟨rfl, ?_, Fl.trans HF5.out (Fl.trans (Fr.of_new Hb8.out) hr.2)⟩
    rw [HX.out]
    exact hr.1)
end
end Go.Proofs.Ytaoacibahdbdkaa.Led
