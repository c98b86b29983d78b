/- arena: the law ArenaArgs, walked. -/
import Derived.Test.YtnipbfhfaefieaaArnQ
namespace Go.Proofs.Ytnipbfhfaefieaa.ArAr
open Go.RowKit Go Go.Proofs.YtnipbfhfaefieaaW.PrintWords Go.Proofs.YtnipbfhfaefieaaW.PrintMore Go.Proofs.YtnipbfhfaefieaaW.PrintLast Go.Proofs.Ytnipbfhfaefieaa.Bts Go.Proofs.Ytnipbfhfaefieaa.Fra Go.Proofs.Ytnipbfhfaefieaa.ArnP Go.Proofs.Ytnipbfhfaefieaa.Arn
/-- Numbers in a block of their own. -/
theorem row_lit (w : World) (l : List Int) (cs : Array Value) (hcs : cs.toList = nums .i64 l) (hl : l.length ≤ 1000) : RowIn (Kd.int .i64) (w.alloc (.cells cs 3)) (fun j => w.heap.size ≤ j) (.slice (some ⟨w.heap.size, 0, none⟩) l.length l.length) l := by
  have hs : cs.size = l.length * 1 := by rw [← Array.length_toList, hcs, nums_length]; omega
  have h := World.ownsRow_lit (base := w.heap.size) (e := 3) (size := 1) w cs l.length (Nat.le_refl _) (by unfold maxLen; omega) hs
  rw [hcs] at h
  exact RowIn.of_R (Kd.R_of_own (enc := Value.int .i64) (h1 := fun _ => rfl) (ok := fun _ => True) h (fun _ _ => trivial))
theorem bad2 (x : Int) : badC [nobC] [0, x] = (x != 0) := by
  have h : ∀ y, isC [nobC] y = false := by
    intro y
    cases hq : isC [nobC] y
    · rfl
    · obtain ⟨k, c, _, e2, e3, e4⟩ := isC_inv hq
      match k, e3 with
      | 0, e3 => omega
      | k + 1, e3 => simp at e3
  unfold badC
  simp [h]
set_option maxHeartbeats 4000000 in
set_option maxRecDepth 100000 in
theorem bad_walk (x0 x1 : Int) (w : World) (h : ¬ (1 ≤ x0 ∧ x0 ≤ 1048576)) : Calls Try.prog 5 #[.int .i64 x0, .int .i64 x1] w fun e w' => e = .returned (.bool true) ∧ Below w.heap.size w w' := by
  have HB := Lib.hid (Below.refl w.heap.size w)
  have HN := Lib.hid (fun V => new_err x0 V h)
  have t1 : (decide (1 ≤ x0) && decide (x0 ≤ 1048576)) = false := by simpa using h
  have HT := Lib.hid t1
  by_cases h1 : 1 ≤ x0
  · have h2 : decide (x0 ≤ 1048576) = false := by simp; omega
    clear h t1
    go_enter Try.func5, Try.ntmps5
    go_wp2_with (first
      | (go_at_call 28; go_loud (refine (edit_nil _ _ _ _ _ _ _ _ ⟨_, _, _, rfl⟩ ⟨_, _, _, rfl⟩).mono ?_; rintro e w9 ⟨rfl, hb9⟩; have HB9 := Lib.hid (below_step HB8.out hb9); clear hb9))
      | (go_at_call 23; go_loud (refine (drop_nil _ _).mono ?_; rintro e w8 ⟨rfl, hb8⟩; have HB8 := Lib.hid (below_step HB7.out hb8); clear hb8))
      | (go_at_call 27; go_loud (refine (keep_nil _ _).mono ?_; rintro e w7 ⟨rfl, hb7⟩; have HB7 := Lib.hid (below_step HB6.out hb7); clear hb7))
      | (go_at_call 26; go_loud (refine (refs_nil _ _).mono ?_; rintro e w6 ⟨rfl, hb6⟩; have HB6 := Lib.hid (below_step (below_step HB4.out (by repeat (first | (with_reducible first | exact Below.refl _ _ | apply below_alloc | apply pw_below_drewN | apply below_drew1)))) hb6); clear hb6))
      | (go_at_call 25; go_loud (refine (room_nil _).mono ?_; rintro e w5 ⟨rfl, rfl⟩))
      | (go_at_call 22; go_loud (refine (live_nil _).mono ?_; rintro e w5 ⟨rfl, rfl⟩))
      | (go_at_call 24; go_loud (refine (get_nil _ _).mono ?_; rintro e w4 ⟨rfl, hb4⟩; have HB4 := Lib.hid (below_step HB3.out hb4); clear hb4))
      | (go_at_call 21; go_loud (refine (make_nil _ _ _ _ _ _ ⟨_, _, _, rfl⟩ ⟨_, _, _, rfl⟩).mono ?_; rintro e w3 ⟨rfl, hb3⟩; have HB3 := Lib.hid (below_step HB2.out hb3); clear hb3))
      | (go_at_call 20; go_loud (refine (HN.out _).mono ?_; rintro e w2 ⟨rfl, hb2⟩; have HB2 := Lib.hid (below_step HB1.out hb2); clear hb2))
      | (go_at_call 19; go_loud (refine (lives_calls _).mono ?_; rintro e w1 ⟨rfl, hb1⟩; have HB1 := Lib.hid hb1; clear hb1)))
    go_ret
    exact ⟨rfl, HB9.out⟩
  · have h2 : decide (1 ≤ x0) = false := by simp; omega
    clear h t1
    go_enter Try.func5, Try.ntmps5
    go_wp2_with (first
      | (go_at_call 28; go_loud (refine (edit_nil _ _ _ _ _ _ _ _ ⟨_, _, _, rfl⟩ ⟨_, _, _, rfl⟩).mono ?_; rintro e w9 ⟨rfl, hb9⟩; have HB9 := Lib.hid (below_step HB8.out hb9); clear hb9))
      | (go_at_call 23; go_loud (refine (drop_nil _ _).mono ?_; rintro e w8 ⟨rfl, hb8⟩; have HB8 := Lib.hid (below_step HB7.out hb8); clear hb8))
      | (go_at_call 27; go_loud (refine (keep_nil _ _).mono ?_; rintro e w7 ⟨rfl, hb7⟩; have HB7 := Lib.hid (below_step HB6.out hb7); clear hb7))
      | (go_at_call 26; go_loud (refine (refs_nil _ _).mono ?_; rintro e w6 ⟨rfl, hb6⟩; have HB6 := Lib.hid (below_step (below_step HB4.out (by repeat (first | (with_reducible first | exact Below.refl _ _ | apply below_alloc | apply pw_below_drewN | apply below_drew1)))) hb6); clear hb6))
      | (go_at_call 25; go_loud (refine (room_nil _).mono ?_; rintro e w5 ⟨rfl, rfl⟩))
      | (go_at_call 22; go_loud (refine (live_nil _).mono ?_; rintro e w5 ⟨rfl, rfl⟩))
      | (go_at_call 24; go_loud (refine (get_nil _ _).mono ?_; rintro e w4 ⟨rfl, hb4⟩; have HB4 := Lib.hid (below_step HB3.out hb4); clear hb4))
      | (go_at_call 21; go_loud (refine (make_nil _ _ _ _ _ _ ⟨_, _, _, rfl⟩ ⟨_, _, _, rfl⟩).mono ?_; rintro e w3 ⟨rfl, hb3⟩; have HB3 := Lib.hid (below_step HB2.out hb3); clear hb3))
      | (go_at_call 20; go_loud (refine (HN.out _).mono ?_; rintro e w2 ⟨rfl, hb2⟩; have HB2 := Lib.hid (below_step HB1.out hb2); clear hb2))
      | (go_at_call 19; go_loud (refine (lives_calls _).mono ?_; rintro e w1 ⟨rfl, hb1⟩; have HB1 := Lib.hid hb1; clear hb1)))
    go_ret
    exact ⟨rfl, HB9.out⟩
set_option maxHeartbeats 4000000 in
set_option maxRecDepth 100000 in
theorem ok_walk (x0 x1 : Int) (w : World) (h1 : 1 ≤ x0) (h2 : x0 ≤ 1048576) : Calls Try.prog 5 #[.int .i64 x0, .int .i64 x1] w fun e w' => e = .returned (.bool true) ∧ Below w.heap.size w w' := by
  by_cases hx : x1 = 0
  · subst hx
    go_enter Try.func5, Try.ntmps5
    go_wp2_with (first
      | (go_at_call 28; go_loud (refine (edit_nil _ _ _ _ _ _ _ _ ⟨_, _, _, rfl⟩ ⟨_, _, _, rfl⟩).mono ?_; rintro e w9 ⟨rfl, hb9⟩; have HB9 := Lib.hid (below_step HB8.out hb9); have HA9 := Lib.hid (HA.out.below (below_step HC8.out hb9)); clear hb9))
      | (go_at_call 23; go_loud (refine (drop_nil _ _).mono ?_; rintro e w8 ⟨rfl, hb8⟩; have HB8 := Lib.hid (below_step HB7.out hb8); have HC8 := Lib.hid (below_step HC7.out hb8); clear hb8))
      | (go_at_call 27; go_loud (refine (keep_nil _ _).mono ?_; rintro e w7 ⟨rfl, hb7⟩; have HB7 := Lib.hid (below_step HB6.out hb7); have HC7 := Lib.hid (below_step HC6.out hb7); clear hb7))
      | (go_at_call 26; go_loud (refine (refs_nil _ _).mono ?_; rintro e w6 ⟨rfl, hb6⟩; have HB6 := Lib.hid (below_step (below_step HB4.out (by repeat (first | (with_reducible first | exact Below.refl _ _ | apply below_alloc | apply pw_below_drewN | apply below_drew1)))) hb6); have HC6 := Lib.hid (below_step (below_step HC4.out (by repeat (first | (with_reducible first | exact Below.refl _ _ | apply below_alloc | apply pw_below_drewN | apply below_drew1)))) hb6); clear hb6))
      | (go_at_call 25; go_loud (refine (room_nil _).mono ?_; rintro e w5 ⟨rfl, rfl⟩))
      | (go_at_call 22; go_loud (refine (live_AR _ HA10.out).mono ?_; rintro e w11 ⟨rfl, rfl⟩))
      | (go_at_call 22; go_loud (refine (live_nil _).mono ?_; rintro e w5 ⟨rfl, rfl⟩))
      | (go_at_call 24; go_loud (refine (get_nil _ _).mono ?_; rintro e w4 ⟨rfl, hb4⟩; have HB4 := Lib.hid (below_step HB3.out hb4); have HC4 := Lib.hid (below_step HC3.out hb4); clear hb4))
      | (go_at_call 21; go_loud (refine (make_AR0 (Q := fun j => w9.heap.size ≤ j) 0 0 0 (.slice none 0 0) (.slice (some ⟨w9.heap.size, 0, none⟩) 2 2) [] [0, 0] _ (HA9.out.below (by repeat (first | (with_reducible first | exact Below.refl _ _ | apply below_alloc | apply pw_below_drewN | apply below_drew1)))) (row_none _ _ _) (row_lit w9 [0, 0] #[.int .i64 0, .int .i64 0] rfl (by decide)) (fun j hj hj2 => by have := HA9.out.mem.ol j hj2; omega) (by rw [bad2]; rfl) (by omega) (by decide) (by decide) (fun _ _ => Nat.zero_le _)).mono ?_; rintro e w10 ⟨O2, rfl, h10, ho10, hF10⟩; have HA10 := Lib.hid h10; have HB10 := Lib.hid (bel_fr (below_step HB9.out (by repeat (first | (with_reducible first | exact Below.refl _ _ | apply below_alloc | apply pw_below_drewN | apply below_drew1)))) hF10 (fun j hj => Nat.le_trans HB1.out.size (HO.out j hj))); clear h10 ho10 hF10))
      | (go_at_call 21; go_loud (refine (make_nil _ _ _ _ _ _ ⟨_, _, _, rfl⟩ ⟨_, _, _, rfl⟩).mono ?_; rintro e w3 ⟨rfl, hb3⟩; have HB3 := Lib.hid (below_step HB2.out hb3); have HC3 := Lib.hid (below_step HC2.out hb3); clear hb3))
      | (go_at_call 20; go_loud (refine (new_AR x0 _ h1 h2).mono ?_; rintro e w2 ⟨a, O, rfl, h0, ho0, hb2⟩; have HO := Lib.hid ho0; have HA := Lib.hid h0; clear h0 ho0; have HB2 := Lib.hid (below_step HB1.out hb2); have HC2 := Lib.hid (Below.refl w2.heap.size w2); clear hb2))
      | (go_at_call 19; go_loud (refine (lives_calls _).mono ?_; rintro e w1 ⟨rfl, hb1⟩; have HB1 := Lib.hid hb1; clear hb1)))

    go_ret
    exact ⟨rfl, HB10.out⟩
  · have hx0 : (x1 == 0) = false := by simpa using hx
    have hx1 : (x1 != 0) = true := by simpa using hx
    go_enter Try.func5, Try.ntmps5
    go_wp2_with (first
      | (go_at_call 28; go_loud (refine (edit_nil _ _ _ _ _ _ _ _ ⟨_, _, _, rfl⟩ ⟨_, _, _, rfl⟩).mono ?_; rintro e w9 ⟨rfl, hb9⟩; have HB9 := Lib.hid (below_step HB8.out hb9); have HA9 := Lib.hid (HA.out.below (below_step HC8.out hb9)); clear hb9))
      | (go_at_call 23; go_loud (refine (drop_nil _ _).mono ?_; rintro e w8 ⟨rfl, hb8⟩; have HB8 := Lib.hid (below_step HB7.out hb8); have HC8 := Lib.hid (below_step HC7.out hb8); clear hb8))
      | (go_at_call 27; go_loud (refine (keep_nil _ _).mono ?_; rintro e w7 ⟨rfl, hb7⟩; have HB7 := Lib.hid (below_step HB6.out hb7); have HC7 := Lib.hid (below_step HC6.out hb7); clear hb7))
      | (go_at_call 26; go_loud (refine (refs_nil _ _).mono ?_; rintro e w6 ⟨rfl, hb6⟩; have HB6 := Lib.hid (below_step (below_step HB4.out (by repeat (first | (with_reducible first | exact Below.refl _ _ | apply below_alloc | apply pw_below_drewN | apply below_drew1)))) hb6); have HC6 := Lib.hid (below_step (below_step HC4.out (by repeat (first | (with_reducible first | exact Below.refl _ _ | apply below_alloc | apply pw_below_drewN | apply below_drew1)))) hb6); clear hb6))
      | (go_at_call 25; go_loud (refine (room_nil _).mono ?_; rintro e w5 ⟨rfl, rfl⟩))
      | (go_at_call 22; go_loud (refine (live_AR _ HA10.out).mono ?_; rintro e w11 ⟨rfl, rfl⟩))
      | (go_at_call 22; go_loud (refine (live_nil _).mono ?_; rintro e w5 ⟨rfl, rfl⟩))
      | (go_at_call 24; go_loud (refine (get_nil _ _).mono ?_; rintro e w4 ⟨rfl, hb4⟩; have HB4 := Lib.hid (below_step HB3.out hb4); have HC4 := Lib.hid (below_step HC3.out hb4); clear hb4))
      | (go_at_call 21; go_loud (refine (makea_AR (Q := fun j => w9.heap.size ≤ j) 0 0 0 (.slice none 0 0) (.slice (some ⟨w9.heap.size, 0, none⟩) 2 2) [0, x1] _ (HA9.out.below (by repeat (first | (with_reducible first | exact Below.refl _ _ | apply below_alloc | apply pw_below_drewN | apply below_drew1)))) ⟨_, _, _, rfl⟩ (row_lit w9 [0, x1] #[.int .i64 0, .int .i64 x1] rfl (by simp)) (by simp) (by rw [bad2]; exact hx1)).mono ?_; rintro e w10 ⟨rfl, hb10⟩; have HA10 := Lib.hid ((HA9.out.below (by repeat (first | (with_reducible first | exact Below.refl _ _ | apply below_alloc | apply pw_below_drewN | apply below_drew1)))).below hb10); have HB10 := Lib.hid (below_step (below_step HB9.out (by repeat (first | (with_reducible first | exact Below.refl _ _ | apply below_alloc | apply pw_below_drewN | apply below_drew1)))) hb10); clear hb10))
      | (go_at_call 21; go_loud (refine (make_nil _ _ _ _ _ _ ⟨_, _, _, rfl⟩ ⟨_, _, _, rfl⟩).mono ?_; rintro e w3 ⟨rfl, hb3⟩; have HB3 := Lib.hid (below_step HB2.out hb3); have HC3 := Lib.hid (below_step HC2.out hb3); clear hb3))
      | (go_at_call 20; go_loud (refine (new_AR x0 _ h1 h2).mono ?_; rintro e w2 ⟨a, O, rfl, h0, ho0, hb2⟩; have HO := Lib.hid ho0; have HA := Lib.hid h0; clear h0 ho0; have HB2 := Lib.hid (below_step HB1.out hb2); have HC2 := Lib.hid (Below.refl w2.heap.size w2); clear hb2))
      | (go_at_call 19; go_loud (refine (lives_calls _).mono ?_; rintro e w1 ⟨rfl, hb1⟩; have HB1 := Lib.hid hb1; clear hb1)))
    go_ret
    exact ⟨rfl, HB10.out⟩
theorem walk (x0 : Int) (x1 : Int) (W : World) (p0 : (IntKind.i64.min ≤ x0 ∧ x0 ≤ IntKind.i64.max)) (p1 : (IntKind.i64.min ≤ x1 ∧ x1 ≤ IntKind.i64.max)) :
    Calls Try.prog 5 #[.int .i64 x0, .int .i64 x1] W fun e W' => e = .returned (.bool true) ∧ Below W.heap.size W W' := by
  by_cases h : 1 ≤ x0 ∧ x0 ≤ 1048576
  · exact ok_walk x0 x1 W h.1 h.2
  · exact bad_walk x0 x1 W h
end Go.Proofs.Ytnipbfhfaefieaa.ArAr
