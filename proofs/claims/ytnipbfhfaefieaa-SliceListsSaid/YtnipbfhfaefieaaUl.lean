/- Texts of this claim, laid together: PvO, ArAr, PvP, As. -/
import Derived.Test.YtnipbfhfaefieaaUk
import Derived.Test.YtnipbfhfaefieaaUg
import Derived.Test.YtnipbfhfaefieaaUh
/-! pvec: a trunk grows: by its first leaf, and where it has room. -/
namespace Go.Proofs.Ytnipbfhfaefieaa.Pv
open Go.RowKit Go Go.Proofs.YtnipbfhfaefieaaW.PrintWords Go.Proofs.YtnipbfhfaefieaaW.PrintMore Go.Proofs.YtnipbfhfaefieaaW.PrintLast Go.Proofs.Ytnipbfhfaefieaa.Bts Go.Proofs.Ytnipbfhfaefieaa.Fra Go.Proofs.Ytnipbfhfaefieaa.ArnP Go.Proofs.Ytnipbfhfaefieaa.Arn Go.Proofs.Ytnipbfhfaefieaa.Ao
theorem grow0_calls (a : Nat) (o at_ leaf : Int) (w : World) : Calls Try.prog 80 #[workV a o, .int .i64 at_, .int .i64 0, .int .i64 leaf] w fun e w' => e = .returned (.int .i64 leaf) ∧ Below w.heap.size w w' := by
  go_enter Try.func80, Try.ntmps80
  go_wp2
  go_ret
  exact ⟨rfl, below_alloc (Below.refl _ _) _⟩
set_option maxHeartbeats 2000000 in
set_option maxRecDepth 100000 in
theorem grow2_calls {O : Nat → Prop} {a : Nat} {f : Nat → Cell} {live most : Int} {rest : Nat → Nat} {op : Nat → Bool} (o : Int) (k m lf : Nat) (w : World) (h : AO w O a f live most (fun z => rest z + one lf z + one k z) op) (hk : 0 < k) (ho : op k = false) (hb : ∀ x, rest x ≤ 60000000000) (hro : ∀ z, op z = true → 1 ≤ rest z) (hm : (f k).kids.length = m) (hm2 : 2 ≤ m) (hm32 : m < 32) (hlf : 0 < lf) (hlm : live < most) :
    Calls Try.prog 80 #[workV a o, .int .i64 k, .int .i64 m, .int .i64 lf] w fun e w' => ∃ (k' : Nat) (O' : Nat → Prop) (f' : Nat → Cell) (live' : Int), e = .returned (.int .i64 k') ∧ AO w' O' a f' live' most (fun z => rest z + one k' z) op ∧ live' ≤ live + 1 ∧ f' k' = {f k with kids := (f k).kids ++ [(lf : Int)], ow := o, r := 1} ∧ (∀ x ∈ kidsOf ((f k).kids ++ [(lf : Int)]), Same f f' x) ∧ 0 < k' ∧ op k' = false ∧ KeepR rest op f f' ∧ (∀ j, O' j → O j ∨ w.heap.size ≤ j) ∧ Fr O w w' := by
  have hbx := below_alloc (Below.refl w.heap.size w) (.cells #[.pointer (some ⟨a, 0, none⟩), .int .u32 o] 133)
  have hA := h.below hbx
  have hh := hang_calls o k m lf _ hA hk ho hb hro hm hm32 hlf hlm
  have l1 : lev m = 1 := by unfold lev; rw [if_neg (by omega)]
  have l2 : lev (m + 1) = 1 := by unfold lev; rw [if_neg (by omega)]
  have c1 : ∀ w, Calls Try.prog 62 #[.int .i64 (m : Int)] w fun e w' => e = .returned (.int .i64 1) ∧ w' = w := fun w => by
    have := levels_calls m (by omega) w
    rwa [l1] at this
  have c2 : ∀ w, Calls Try.prog 62 #[.int .i64 ((m : Int) + 1)] w fun e w' => e = .returned (.int .i64 1) ∧ w' = w := fun w => by
    have := levels_calls (m + 1) (by omega) w
    rwa [l2] at this
  have hne : ¬ (m : Int) = 0 := by omega
  have hm' : (m : Int) ≤ 31 := by omega
  have HH := Lib.hid hh
  have HB := Lib.hid hbx
  have LV := Lib.hid (show ∀ x : Int, (x = (m : Int) ∨ x = (m : Int) + 1) → ∀ w, Calls Try.prog 62 #[.int .i64 x] w fun e w' => e = .returned (.int .i64 1) ∧ w' = w from fun x hx w => hx.elim (fun e => e ▸ c1 w) (fun e => e ▸ c2 w))
  clear hh hA h hbx c1 c2 l1 l2 hm
  go_enter Try.func80, Try.ntmps80
  go_wp2_with (first
    | (go_at_call 62; refine (LV.out _ (by first | exact .inl rfl | exact .inr rfl) _).mono ?_; rintro e w4 ⟨rfl, hw4⟩; subst w4)
    | (go_at_call 97; refine HH.out.mono ?_; rintro e w5 ⟨k', O5, f5, live5, rfl, hA5, hll5, hR5, hS5, hk5, ho5, hK5, hO5, hF5⟩; have HR5 := Lib.hid hR5; clear hR5))
  go_ret
  have hsz := HB.out.size
  exact ⟨k', O5, f5, live5, rfl, hA5, hll5, HR5.out, hS5, hk5, ho5, hK5, fun j hj => (hO5 j hj).imp id (fun q => by omega), (Fr.of_new HB.out).trans hF5⟩
end Go.Proofs.Ytnipbfhfaefieaa.Pv
/-! arena: the law ArenaArgs, walked. -/
namespace Go.Proofs.Ytnipbfhfaefieaa.ArAr
open Go.RowKit Go Go.Proofs.YtnipbfhfaefieaaW.PrintWords Go.Proofs.YtnipbfhfaefieaaW.PrintMore Go.Proofs.YtnipbfhfaefieaaW.PrintLast Go.Proofs.Ytnipbfhfaefieaa.Bts Go.Proofs.Ytnipbfhfaefieaa.Fra Go.Proofs.Ytnipbfhfaefieaa.ArnP Go.Proofs.Ytnipbfhfaefieaa.Arn
/-- Numbers in a block of their own. -/
theorem row_lit (w : World) (l : List Int) (cs : Array Value) (hcs : cs.toList = nums .i64 l) (hl : l.length ≤ 1000) : RowIn (Kd.int .i64) (w.alloc (.cells cs 3)) (fun j => w.heap.size ≤ j) (.slice (some ⟨w.heap.size, 0, none⟩) l.length l.length) l := by
  have hs : cs.size = l.length * 1 := by rw [← Array.length_toList, hcs, nums_length]; omega
  have h := World.ownsRow_lit (base := w.heap.size) (e := 3) (size := 1) w cs l.length (Nat.le_refl _) (by unfold maxLen; omega) hs
  rw [hcs] at h
  exact RowIn.of_R (Kd.R_of_own (enc := Value.int .i64) (h1 := fun _ => rfl) (ok := fun _ => True) h (fun _ _ => trivial))
theorem bad2 (x : Int) : badC [nobC] [0, x] = (x != 0) := by
  have h : ∀ y, isC [nobC] y = false := by
    intro y
    cases hq : isC [nobC] y
    · rfl
    · obtain ⟨k, c, _, e2, e3, e4⟩ := isC_inv hq
      match k, e3 with
      | 0, e3 => omega
      | k + 1, e3 => simp at e3
  unfold badC
  simp [h]
set_option maxHeartbeats 4000000 in
set_option maxRecDepth 100000 in
theorem bad_walk (x0 x1 : Int) (w : World) (h : ¬ (1 ≤ x0 ∧ x0 ≤ 1048576)) : Calls Try.prog 5 #[.int .i64 x0, .int .i64 x1] w fun e w' => e = .returned (.bool true) ∧ Below w.heap.size w w' := by
  have HB := Lib.hid (Below.refl w.heap.size w)
  have HN := Lib.hid (fun V => new_err x0 V h)
  have t1 : (decide (1 ≤ x0) && decide (x0 ≤ 1048576)) = false := by simpa using h
  have HT := Lib.hid t1
  by_cases h1 : 1 ≤ x0
  · have h2 : decide (x0 ≤ 1048576) = false := by simp; omega
    clear h t1
    go_enter Try.func5, Try.ntmps5
    go_wp2_with (first
      | (go_at_call 28; go_loud (refine (edit_nil _ _ _ _ _ _ _ _ ⟨_, _, _, rfl⟩ ⟨_, _, _, rfl⟩).mono ?_; rintro e w9 ⟨rfl, hb9⟩; have HB9 := Lib.hid (below_step HB8.out hb9); clear hb9))
      | (go_at_call 23; go_loud (refine (drop_nil _ _).mono ?_; rintro e w8 ⟨rfl, hb8⟩; have HB8 := Lib.hid (below_step HB7.out hb8); clear hb8))
      | (go_at_call 27; go_loud (refine (keep_nil _ _).mono ?_; rintro e w7 ⟨rfl, hb7⟩; have HB7 := Lib.hid (below_step HB6.out hb7); clear hb7))
      | (go_at_call 26; go_loud (refine (refs_nil _ _).mono ?_; rintro e w6 ⟨rfl, hb6⟩; have HB6 := Lib.hid (below_step (below_step HB4.out (by repeat (first | (with_reducible first | exact Below.refl _ _ | apply below_alloc | apply pw_below_drewN | apply below_drew1)))) hb6); clear hb6))
      | (go_at_call 25; go_loud (refine (room_nil _).mono ?_; rintro e w5 ⟨rfl, rfl⟩))
      | (go_at_call 22; go_loud (refine (live_nil _).mono ?_; rintro e w5 ⟨rfl, rfl⟩))
      | (go_at_call 24; go_loud (refine (get_nil _ _).mono ?_; rintro e w4 ⟨rfl, hb4⟩; have HB4 := Lib.hid (below_step HB3.out hb4); clear hb4))
      | (go_at_call 21; go_loud (refine (make_nil _ _ _ _ _ _ ⟨_, _, _, rfl⟩ ⟨_, _, _, rfl⟩).mono ?_; rintro e w3 ⟨rfl, hb3⟩; have HB3 := Lib.hid (below_step HB2.out hb3); clear hb3))
      | (go_at_call 20; go_loud (refine (HN.out _).mono ?_; rintro e w2 ⟨rfl, hb2⟩; have HB2 := Lib.hid (below_step HB1.out hb2); clear hb2))
      | (go_at_call 19; go_loud (refine (lives_calls _).mono ?_; rintro e w1 ⟨rfl, hb1⟩; have HB1 := Lib.hid hb1; clear hb1)))
    go_ret
    exact ⟨rfl, HB9.out⟩
  · have h2 : decide (1 ≤ x0) = false := by simp; omega
    clear h t1
    go_enter Try.func5, Try.ntmps5
    go_wp2_with (first
      | (go_at_call 28; go_loud (refine (edit_nil _ _ _ _ _ _ _ _ ⟨_, _, _, rfl⟩ ⟨_, _, _, rfl⟩).mono ?_; rintro e w9 ⟨rfl, hb9⟩; have HB9 := Lib.hid (below_step HB8.out hb9); clear hb9))
      | (go_at_call 23; go_loud (refine (drop_nil _ _).mono ?_; rintro e w8 ⟨rfl, hb8⟩; have HB8 := Lib.hid (below_step HB7.out hb8); clear hb8))
      | (go_at_call 27; go_loud (refine (keep_nil _ _).mono ?_; rintro e w7 ⟨rfl, hb7⟩; have HB7 := Lib.hid (below_step HB6.out hb7); clear hb7))
      | (go_at_call 26; go_loud (refine (refs_nil _ _).mono ?_; rintro e w6 ⟨rfl, hb6⟩; have HB6 := Lib.hid (below_step (below_step HB4.out (by repeat (first | (with_reducible first | exact Below.refl _ _ | apply below_alloc | apply pw_below_drewN | apply below_drew1)))) hb6); clear hb6))
      | (go_at_call 25; go_loud (refine (room_nil _).mono ?_; rintro e w5 ⟨rfl, rfl⟩))
      | (go_at_call 22; go_loud (refine (live_nil _).mono ?_; rintro e w5 ⟨rfl, rfl⟩))
      | (go_at_call 24; go_loud (refine (get_nil _ _).mono ?_; rintro e w4 ⟨rfl, hb4⟩; have HB4 := Lib.hid (below_step HB3.out hb4); clear hb4))
      | (go_at_call 21; go_loud (refine (make_nil _ _ _ _ _ _ ⟨_, _, _, rfl⟩ ⟨_, _, _, rfl⟩).mono ?_; rintro e w3 ⟨rfl, hb3⟩; have HB3 := Lib.hid (below_step HB2.out hb3); clear hb3))
      | (go_at_call 20; go_loud (refine (HN.out _).mono ?_; rintro e w2 ⟨rfl, hb2⟩; have HB2 := Lib.hid (below_step HB1.out hb2); clear hb2))
      | (go_at_call 19; go_loud (refine (lives_calls _).mono ?_; rintro e w1 ⟨rfl, hb1⟩; have HB1 := Lib.hid hb1; clear hb1)))
    go_ret
    exact ⟨rfl, HB9.out⟩
set_option maxHeartbeats 4000000 in
set_option maxRecDepth 100000 in
theorem ok_walk (x0 x1 : Int) (w : World) (h1 : 1 ≤ x0) (h2 : x0 ≤ 1048576) : Calls Try.prog 5 #[.int .i64 x0, .int .i64 x1] w fun e w' => e = .returned (.bool true) ∧ Below w.heap.size w w' := by
  by_cases hx : x1 = 0
  · subst hx
    go_enter Try.func5, Try.ntmps5
    go_wp2_with (first
      | (go_at_call 28; go_loud (refine (edit_nil _ _ _ _ _ _ _ _ ⟨_, _, _, rfl⟩ ⟨_, _, _, rfl⟩).mono ?_; rintro e w9 ⟨rfl, hb9⟩; have HB9 := Lib.hid (below_step HB8.out hb9); have HA9 := Lib.hid (HA.out.below (below_step HC8.out hb9)); clear hb9))
      | (go_at_call 23; go_loud (refine (drop_nil _ _).mono ?_; rintro e w8 ⟨rfl, hb8⟩; have HB8 := Lib.hid (below_step HB7.out hb8); have HC8 := Lib.hid (below_step HC7.out hb8); clear hb8))
      | (go_at_call 27; go_loud (refine (keep_nil _ _).mono ?_; rintro e w7 ⟨rfl, hb7⟩; have HB7 := Lib.hid (below_step HB6.out hb7); have HC7 := Lib.hid (below_step HC6.out hb7); clear hb7))
      | (go_at_call 26; go_loud (refine (refs_nil _ _).mono ?_; rintro e w6 ⟨rfl, hb6⟩; have HB6 := Lib.hid (below_step (below_step HB4.out (by repeat (first | (with_reducible first | exact Below.refl _ _ | apply below_alloc | apply pw_below_drewN | apply below_drew1)))) hb6); have HC6 := Lib.hid (below_step (below_step HC4.out (by repeat (first | (with_reducible first | exact Below.refl _ _ | apply below_alloc | apply pw_below_drewN | apply below_drew1)))) hb6); clear hb6))
      | (go_at_call 25; go_loud (refine (room_nil _).mono ?_; rintro e w5 ⟨rfl, rfl⟩))
      | (go_at_call 22; go_loud (refine (live_AR _ HA10.out).mono ?_; rintro e w11 ⟨rfl, rfl⟩))
      | (go_at_call 22; go_loud (refine (live_nil _).mono ?_; rintro e w5 ⟨rfl, rfl⟩))
      | (go_at_call 24; go_loud (refine (get_nil _ _).mono ?_; rintro e w4 ⟨rfl, hb4⟩; have HB4 := Lib.hid (below_step HB3.out hb4); have HC4 := Lib.hid (below_step HC3.out hb4); clear hb4))
      | (go_at_call 21; go_loud (refine (make_AR0 (Q := fun j => w9.heap.size ≤ j) 0 0 0 (.slice none 0 0) (.slice (some ⟨w9.heap.size, 0, none⟩) 2 2) [] [0, 0] _ (HA9.out.below (by repeat (first | (with_reducible first | exact Below.refl _ _ | apply below_alloc | apply pw_below_drewN | apply below_drew1)))) (row_none _ _ _) (row_lit w9 [0, 0] #[.int .i64 0, .int .i64 0] rfl (by decide)) (fun j hj hj2 => by have := HA9.out.mem.ol j hj2; omega) (by rw [bad2]; rfl) (by omega) (by decide) (by decide) (fun _ _ => Nat.zero_le _)).mono ?_; rintro e w10 ⟨O2, rfl, h10, ho10, hF10⟩; have HA10 := Lib.hid h10; have HB10 := Lib.hid (bel_fr (below_step HB9.out (by repeat (first | (with_reducible first | exact Below.refl _ _ | apply below_alloc | apply pw_below_drewN | apply below_drew1)))) hF10 (fun j hj => Nat.le_trans HB1.out.size (HO.out j hj))); clear h10 ho10 hF10))
      | (go_at_call 21; go_loud (refine (make_nil _ _ _ _ _ _ ⟨_, _, _, rfl⟩ ⟨_, _, _, rfl⟩).mono ?_; rintro e w3 ⟨rfl, hb3⟩; have HB3 := Lib.hid (below_step HB2.out hb3); have HC3 := Lib.hid (below_step HC2.out hb3); clear hb3))
      | (go_at_call 20; go_loud (refine (new_AR x0 _ h1 h2).mono ?_; rintro e w2 ⟨a, O, rfl, h0, ho0, hb2⟩; have HO := Lib.hid ho0; have HA := Lib.hid h0; clear h0 ho0; have HB2 := Lib.hid (below_step HB1.out hb2); have HC2 := Lib.hid (Below.refl w2.heap.size w2); clear hb2))
      | (go_at_call 19; go_loud (refine (lives_calls _).mono ?_; rintro e w1 ⟨rfl, hb1⟩; have HB1 := Lib.hid hb1; clear hb1)))

    go_ret
    exact ⟨rfl, HB10.out⟩
  · have hx0 : (x1 == 0) = false := by simpa using hx
    have hx1 : (x1 != 0) = true := by simpa using hx
    go_enter Try.func5, Try.ntmps5
    go_wp2_with (first
      | (go_at_call 28; go_loud (refine (edit_nil _ _ _ _ _ _ _ _ ⟨_, _, _, rfl⟩ ⟨_, _, _, rfl⟩).mono ?_; rintro e w9 ⟨rfl, hb9⟩; have HB9 := Lib.hid (below_step HB8.out hb9); have HA9 := Lib.hid (HA.out.below (below_step HC8.out hb9)); clear hb9))
      | (go_at_call 23; go_loud (refine (drop_nil _ _).mono ?_; rintro e w8 ⟨rfl, hb8⟩; have HB8 := Lib.hid (below_step HB7.out hb8); have HC8 := Lib.hid (below_step HC7.out hb8); clear hb8))
      | (go_at_call 27; go_loud (refine (keep_nil _ _).mono ?_; rintro e w7 ⟨rfl, hb7⟩; have HB7 := Lib.hid (below_step HB6.out hb7); have HC7 := Lib.hid (below_step HC6.out hb7); clear hb7))
      | (go_at_call 26; go_loud (refine (refs_nil _ _).mono ?_; rintro e w6 ⟨rfl, hb6⟩; have HB6 := Lib.hid (below_step (below_step HB4.out (by repeat (first | (with_reducible first | exact Below.refl _ _ | apply below_alloc | apply pw_below_drewN | apply below_drew1)))) hb6); have HC6 := Lib.hid (below_step (below_step HC4.out (by repeat (first | (with_reducible first | exact Below.refl _ _ | apply below_alloc | apply pw_below_drewN | apply below_drew1)))) hb6); clear hb6))
      | (go_at_call 25; go_loud (refine (room_nil _).mono ?_; rintro e w5 ⟨rfl, rfl⟩))
      | (go_at_call 22; go_loud (refine (live_AR _ HA10.out).mono ?_; rintro e w11 ⟨rfl, rfl⟩))
      | (go_at_call 22; go_loud (refine (live_nil _).mono ?_; rintro e w5 ⟨rfl, rfl⟩))
      | (go_at_call 24; go_loud (refine (get_nil _ _).mono ?_; rintro e w4 ⟨rfl, hb4⟩; have HB4 := Lib.hid (below_step HB3.out hb4); have HC4 := Lib.hid (below_step HC3.out hb4); clear hb4))
      | (go_at_call 21; go_loud (refine (makea_AR (Q := fun j => w9.heap.size ≤ j) 0 0 0 (.slice none 0 0) (.slice (some ⟨w9.heap.size, 0, none⟩) 2 2) [0, x1] _ (HA9.out.below (by repeat (first | (with_reducible first | exact Below.refl _ _ | apply below_alloc | apply pw_below_drewN | apply below_drew1)))) ⟨_, _, _, rfl⟩ (row_lit w9 [0, x1] #[.int .i64 0, .int .i64 x1] rfl (by simp)) (by simp) (by rw [bad2]; exact hx1)).mono ?_; rintro e w10 ⟨rfl, hb10⟩; have HA10 := Lib.hid ((HA9.out.below (by repeat (first | (with_reducible first | exact Below.refl _ _ | apply below_alloc | apply pw_below_drewN | apply below_drew1)))).below hb10); have HB10 := Lib.hid (below_step (below_step HB9.out (by repeat (first | (with_reducible first | exact Below.refl _ _ | apply below_alloc | apply pw_below_drewN | apply below_drew1)))) hb10); clear hb10))
      | (go_at_call 21; go_loud (refine (make_nil _ _ _ _ _ _ ⟨_, _, _, rfl⟩ ⟨_, _, _, rfl⟩).mono ?_; rintro e w3 ⟨rfl, hb3⟩; have HB3 := Lib.hid (below_step HB2.out hb3); have HC3 := Lib.hid (below_step HC2.out hb3); clear hb3))
      | (go_at_call 20; go_loud (refine (new_AR x0 _ h1 h2).mono ?_; rintro e w2 ⟨a, O, rfl, h0, ho0, hb2⟩; have HO := Lib.hid ho0; have HA := Lib.hid h0; clear h0 ho0; have HB2 := Lib.hid (below_step HB1.out hb2); have HC2 := Lib.hid (Below.refl w2.heap.size w2); clear hb2))
      | (go_at_call 19; go_loud (refine (lives_calls _).mono ?_; rintro e w1 ⟨rfl, hb1⟩; have HB1 := Lib.hid hb1; clear hb1)))
    go_ret
    exact ⟨rfl, HB10.out⟩
theorem walk (x0 : Int) (x1 : Int) (W : World) (p0 : (IntKind.i64.min ≤ x0 ∧ x0 ≤ IntKind.i64.max)) (p1 : (IntKind.i64.min ≤ x1 ∧ x1 ≤ IntKind.i64.max)) :
    Calls Try.prog 5 #[.int .i64 x0, .int .i64 x1] W fun e W' => e = .returned (.bool true) ∧ Below W.heap.size W W' := by
  by_cases h : 1 ≤ x0 ∧ x0 ≤ 1048576
  · exact ok_walk x0 x1 W h.1 h.2
  · exact bad_walk x0 x1 W h
end Go.Proofs.Ytnipbfhfaefieaa.ArAr
/-! pvec: one leaf becomes a trunk of two. -/
namespace Go.Proofs.Ytnipbfhfaefieaa.Pv
open Go.RowKit Go Go.Proofs.YtnipbfhfaefieaaW.PrintWords Go.Proofs.YtnipbfhfaefieaaW.PrintMore Go.Proofs.YtnipbfhfaefieaaW.PrintLast Go.Proofs.Ytnipbfhfaefieaa.Bts Go.Proofs.Ytnipbfhfaefieaa.Fra Go.Proofs.Ytnipbfhfaefieaa.ArnP Go.Proofs.Ytnipbfhfaefieaa.Arn Go.Proofs.Ytnipbfhfaefieaa.Ao
theorem kc_two (k lf : Nat) (hk : 0 < k) (hl : 0 < lf) : kc [(k : Int), (lf : Int)] = fun x => one lf x + one k x := by
  funext x
  rw [kc_cons k _ hk, kc_cons lf _ hl]
  show 0 + one lf x + one k x = _
  omega
set_option maxHeartbeats 1000000 in
set_option maxRecDepth 100000 in
theorem grow1_calls {O : Nat → Prop} {a : Nat} {f : Nat → Cell} {live most : Int} {rest : Nat → Nat} {op : Nat → Bool} (o : Int) (k lf : Nat) (w : World) (h : AO w O a f live most (fun z => rest z + one lf z + one k z) op) (hk : 0 < k) (hro : ∀ z, op z = true → 1 ≤ rest z) (hlf : 0 < lf) (hlm : live < most) :
    Calls Try.prog 80 #[workV a o, .int .i64 k, .int .i64 1, .int .i64 lf] w fun e w' => ∃ (i : Nat) (O' : Nat → Prop), e = .returned (.int .i64 i) ∧ AO w' O' a (upd f i ⟨o, 0, 0, [], [(k : Int), (lf : Int)], 1⟩) (live + 1) most (fun z => rest z + one i z) op ∧ 0 < i ∧ op i = false ∧ KeepR (fun z => rest z + one lf z + one k z) op f (upd f i ⟨o, 0, 0, [], [(k : Int), (lf : Int)], 1⟩) ∧ (∀ j, O' j → O j ∨ w.heap.size ≤ j) ∧ Fr O w w' := by
  have hkr : ∀ i, 0 < i → (f i).r = 0 → op i = false → KeepR (fun z => rest z + one lf z + one k z) op f (upd f i ⟨o, 0, 0, [], [(k : Int), (lf : Int)], 1⟩) := fun i h0 hr hoi => keepR_upd h i _ (fun hl => by have := hl.2.1; omega) (.inl hoi) (fun j h0 hj => h.ext_lv h0 hj)
  have e1 : (fun z => rest z + one lf z + one k z) = fun z => rest z + kc [(k : Int), (lf : Int)] z := by
    funext z
    rw [kc_two k lf hk hlf]
    show _ = rest z + (_ + _)
    omega
  have hkr2 := Lib.hid hkr
  clear hkr
  rw [e1] at h
  have hlt := h.lt
  have hbx := below_alloc (Below.refl w.heap.size w) (.cells #[.pointer (some ⟨a, 0, none⟩), .int .u32 o] 133)
  have hW : WorkB _ w.heap.size a o := blk_new w (.cells #[.pointer (some ⟨a, 0, none⟩), .int .u32 o] 133)
  have hl1 : lev 1 = 0 := rfl
  have hl2 : lev 2 = 1 := rfl
  have c1 : ∀ w, Calls Try.prog 62 #[.int .i64 1] w fun e w' => e = .returned (.int .i64 0) ∧ w' = w := fun w => by
    have := levels_calls 1 (by decide) w
    rw [hl1] at this
    exact this
  have c2 : ∀ w, Calls Try.prog 62 #[.int .i64 2] w fun e w' => e = .returned (.int .i64 1) ∧ w' = w := fun w => by
    have := levels_calls 2 (by decide) w
    rw [hl2] at this
    exact this
  clear hl1 hl2
  obtain ⟨V, hV⟩ : ∃ V, (w.alloc (.cells #[.pointer (some ⟨a, 0, none⟩), .int .u32 o] 133)).drew = V := ⟨_, rfl⟩
  have hd : Below (w.alloc (.cells #[.pointer (some ⟨a, 0, none⟩), .int .u32 o] 133)).heap.size (w.alloc (.cells #[.pointer (some ⟨a, 0, none⟩), .int .u32 o] 133)) V := by rw [← hV]; exact below_drew1 (Below.refl _ _)
  have hWd := blk_below hW hd
  have hbV : Below w.heap.size w V := hbx.trans (hd.mono (by simp))
  have LV := Lib.hid (show ∀ x y : Int, ((x = 1 ∧ y = 0) ∨ (x = 2 ∧ y = 1)) → ∀ w, Calls Try.prog 62 #[.int .i64 x] w fun e w' => e = .returned (.int .i64 y) ∧ w' = w from fun x y hx w => by
    rcases hx with ⟨rfl, rfl⟩ | ⟨rfl, rfl⟩
    · exact c1 w
    · exact c2 w)
  have q0 := blk_cell hWd 0
  have q1 := blk_cell hWd 1
  have HA := Lib.hid (h.below hbV)
  have HB := Lib.hid hbV
  have HW := Lib.hid hWd
  have HLT := Lib.hid hlt
  clear h hbx hW hd hWd hbV hlt e1 c1 c2
  go_enter Try.func80, Try.ntmps80
  go_wp2_with (go_at_call 62; refine (LV.out _ _ (by first | exact .inl ⟨rfl, rfl⟩ | exact .inr ⟨rfl, rfl⟩) _).mono ?_; rintro e w4 ⟨rfl, hw4⟩; subst w4)
  refine start_ (n := 10) (S := fun w' => w'.cell? ⟨w.heap.size, 0, none⟩ = some (.pointer (some ⟨a, 0, none⟩)) ∧ w'.cell? ⟨w.heap.size, 1, none⟩ = some (.int .u32 o)) (ds := [8]) #[false, false, false, false, false, false, false, false, false, false] (by kernel_rfl) rfl rfl ⟨(by rw [hV]; exact q0), (by rw [hV]; exact q1)⟩ (fun hHeld => ?_)
  refine pure_ (i := 1) (N := some 21) (v := ?_) (a' := ?_) #[false, true, false, false, false, false, false, false, false, false] rfl rfl (by kernel_rfl) (fun _ _ _ h => h) (Or.inl ⟨by rfl, ?_⟩) ?_ ?_
  rotate_left
  · intro w'
    go_simp
    with_reducible rfl
  rotate_left
  · simp only [Act.put, List.setIfInBounds_toArray, List.set_cons_zero, List.set_cons_succ, i64_w, i32_w]
    rfl
  refine pure_ (i := 3) (N := some 23) (v := ?_) (a' := ?_) #[false, true, false, true, false, false, false, false, false, false] rfl rfl (by kernel_rfl) (fun _ _ _ h => h) (Or.inl ⟨by rfl, ?_⟩) ?_ ?_
  rotate_left
  · intro w'
    go_simp
    with_reducible rfl
  rotate_left
  · simp only [Act.put, List.setIfInBounds_toArray, List.set_cons_zero, List.set_cons_succ, i64_w, i32_w]
    rfl
  refine pure_ (i := 4) (N := some 24) (v := ?_) (a' := ?_) #[false, true, false, true, true, false, false, false, false, false] rfl rfl (by kernel_rfl) (fun _ _ _ h => h) (Or.inl ⟨by rfl, ?_⟩) ?_ ?_
  rotate_left
  · intro w'
    go_simp
    with_reducible rfl
  rotate_left
  · simp only [Act.put, List.setIfInBounds_toArray, List.set_cons_zero, List.set_cons_succ, i64_w, i32_w]
    rfl
  refine take_ (i := 0) (N := some 20) (v := ?_) (a' := ?_) #[true, true, false, true, true, false, false, false, false, false] rfl rfl (by kernel_rfl) (fun _ _ _ h => h) (Or.inl ⟨by rfl, ?_⟩) hHeld ?_ ?_
  rotate_left
  · rintro w' ⟨s0, s1⟩
    go_simp
    with_reducible rfl
  rotate_left
  · simp only [Act.put, List.setIfInBounds_toArray, List.set_cons_zero, List.set_cons_succ, i64_w, i32_w]
    rfl
  refine take_ (i := 2) (N := some 22) (v := ?_) (a' := ?_) #[true, true, true, true, true, false, false, false, false, false] rfl rfl (by kernel_rfl) (fun _ _ _ h => h) (Or.inl ⟨by rfl, ?_⟩) hHeld ?_ ?_
  rotate_left
  · rintro w' ⟨s0, s1⟩
    go_simp
    with_reducible rfl
  rotate_left
  · simp only [Act.put, List.setIfInBounds_toArray, List.set_cons_zero, List.set_cons_succ, i64_w, i32_w]
    rfl
  refine one_ (i := 5) (N := some 25) #[true, true, true, true, true, true, false, false, false, false] rfl rfl (by kernel_rfl) (by decide) (fun K hK => ?_)
  refine goes_ Try.func96 (by kernel_rfl) rfl #[workV a o, .int .i64 0, .int .i64 lf] (by rfl) rfl rfl (by simp only [List.map_toArray, List.map_cons, List.map_nil]; rfl) ?_
  with_reducible refine (path0_calls a o lf _).mono ?_
  rintro e w5 ⟨rfl, hB5⟩
  refine ⟨_, rfl, ?_⟩
  have hB5 : Below V.heap.size V w5 := hV ▸ hB5
  have HB5 := Lib.hid hB5
  have hbw := HB.out.trans (hB5.mono HB.out.size)
  have hbl := below_alloc hbw (.cells #[.int .i64 (k : Int), .int .i64 (lf : Int)] 3)
  have HBL := Lib.hid hbl
  have hA6 := HA.out.below (below_alloc hB5 (.cells #[.int .i64 (k : Int), .int .i64 (lf : Int)] 3))
  have HA6 := Lib.hid hA6
  have hs5 := hbw.size
  have hrow : RowIn (Kd.int .i64) (w5.alloc (.cells #[.int .i64 (k : Int), .int .i64 (lf : Int)] 3)) (fun j => w5.heap.size ≤ j) (.slice (some ⟨w5.heap.size, 0, none⟩) 2 2) [(k : Int), (lf : Int)] := ArAr.row_lit w5 [(k : Int), (lf : Int)] #[.int .i64 k, .int .i64 lf] rfl (by simp)
  have hrn : RowIn kVal (w5.alloc (.cells #[.int .i64 (k : Int), .int .i64 (lf : Int)] 3)) (fun j => w5.heap.size ≤ j) (.slice none 0 0) [] := row_none _ _ _
  clear hbw hbl hA6
  refine hK.out _ _ ⟨(blk_cell (blk_below HW.out HB5.out) 0), (blk_cell (blk_below HW.out HB5.out) 1)⟩ (fun hHeld => ?_)
  clear hK K
  refine norm_ (a' := ?_) ?_ ?_
  rotate_left
  · show Act.put _ (some 25) _ = _
    simp only [Act.put, List.setIfInBounds_toArray, List.set_cons_zero, List.set_cons_succ, i64_w, i32_w]
    rfl
  refine one_ (i := 6) (N := some 26) #[true, true, true, true, true, true, true, false, false, false] rfl rfl (by kernel_rfl) (by decide) (fun K hK => ?_)
  refine value_ (w1 := ?_) (v := ?_) (by rfl) rfl ?_ ?_
  rotate_left 2
  · go_simp
    constructor
    · rfl
    · rfl
  refine hK.out _ _ ⟨(pw_cell_below (below_alloc (Below.refl w5.heap.size w5) _) (blk_cell (blk_below HW.out HB5.out) 0)), (pw_cell_below (below_alloc (Below.refl w5.heap.size w5) _) (blk_cell (blk_below HW.out HB5.out) 1))⟩ (fun hHeld => ?_)
  clear hK K
  refine norm_ (a' := ?_) ?_ ?_
  rotate_left
  · show Act.put _ (some 26) _ = _
    simp only [Act.put, List.setIfInBounds_toArray, List.set_cons_zero, List.set_cons_succ, i64_w, i32_w]
    rfl
  refine pure_ (i := 7) (N := some 27) (v := ?_) (a' := ?_) #[true, true, true, true, true, true, true, true, false, false] rfl rfl (by kernel_rfl) (fun _ _ _ h => h) (Or.inl ⟨by rfl, ?_⟩) ?_ ?_
  rotate_left
  · intro w'
    go_simp
    with_reducible rfl
  rotate_left
  · simp only [Act.put, List.setIfInBounds_toArray, List.set_cons_zero, List.set_cons_succ, i64_w, i32_w]
    rfl
  refine last_ (i := 8) (N := some 28) #[true, true, true, true, true, true, true, true, true, false] rfl rfl (by kernel_rfl) (by decide) (fun K hK => ?_)
  refine goes_ Try.func82 (by kernel_rfl) rfl #[workV a o, cellV 0 0 0 (.slice none 0 0) (.slice (some ⟨w5.heap.size, 0, none⟩) 2 2), .nilFunc] (by rfl) rfl rfl (by simp only [List.map_toArray, List.map_cons, List.map_nil]; rfl) ?_
  with_reducible refine (make_nil (Q := fun j => w5.heap.size ≤ j) o 0 0 0 (.slice none 0 0) (.slice (some ⟨w5.heap.size, 0, none⟩) 2 2) [] [(k : Int), (lf : Int)] _ HA6.out hrn hrow (fun j hj hj2 => by have := HLT.out j hj2; omega) (by intro z hz; simp at hz; omega) hlm (by simp) (by simp) hro).mono ?_
  rintro e w7 ⟨i, O', rfl, hA7, h0, hr, hoi, hK7, hO7, hF7⟩
  refine ⟨_, rfl, ?_⟩
  have HA7 := Lib.hid hA7
  have HF7 := Lib.hid hF7
  clear hA7 hF7
  refine hK.out _ _ ?_
  clear hK K
  refine norm_ (a' := ?_) ?_ ?_
  rotate_left
  · show Act.put _ (some 28) _ = _
    simp only [Act.put, List.setIfInBounds_toArray, List.set_cons_zero, List.set_cons_succ, i64_w, i32_w]
    rfl
  refine pure_ (i := 9) (N := some 8) (v := ?_) (a' := ?_) #[true, true, true, true, true, true, true, true, true, true] rfl rfl (by kernel_rfl) (fun _ _ _ h => h) (Or.inl ⟨by rfl, ?_⟩) ?_ ?_
  rotate_left
  · intro w'
    go_simp
    with_reducible rfl
  rotate_left
  · simp only [Act.put, List.setIfInBounds_toArray, List.set_cons_zero, List.set_cons_succ, i64_w, i32_w]
    rfl
  refine done_ (by kernel_rfl) ?_

  go_wp2
  go_ret
  have hs := HBL.out.size
  exact ⟨i, O', rfl, HA7.out, h0, hoi, hkr2.out i h0 hr hoi, fun j hj => (hO7 j hj).imp id (fun q => by omega), (Fr.of_new HBL.out).trans HF7.out⟩
end Go.Proofs.Ytnipbfhfaefieaa.Pv
/-! arena: who is live is led to from a caller's hold; so the live ones can be counted. -/
namespace Go.Proofs.Ytnipbfhfaefieaa.Ao
open Go.RowKit Go Go.Proofs.YtnipbfhfaefieaaW.PrintWords Go.Proofs.YtnipbfhfaefieaaW.PrintMore Go.Proofs.YtnipbfhfaefieaaW.PrintLast Go.Proofs.Ytnipbfhfaefieaa.Bts Go.Proofs.Ytnipbfhfaefieaa.Fra Go.Proofs.Ytnipbfhfaefieaa.ArnP Go.Proofs.Ytnipbfhfaefieaa.Arn
theorem sm_pos {f : Nat → Nat} : ∀ n, 0 < sm f n → ∃ y, y < n ∧ 0 < f y
  | 0, h => absurd h (Nat.lt_irrefl 0)
  | n + 1, h => by
    by_cases e : 0 < f n
    · exact ⟨n, by omega, e⟩
    · have h1 : 0 < sm f n + f n := h
      obtain ⟨y, q1, q2⟩ := sm_pos (f := f) n (by omega)
      exact ⟨y, by omega, q2⟩
theorem nodup_le : ∀ (l m : List Nat), l.Nodup → (∀ x ∈ l, x ∈ m) → l.length ≤ m.length
  | [], _, _, _ => Nat.zero_le _
  | x :: l, m, hn, hs => by
    have hx := hs x (by simp)
    obtain ⟨h1, h2⟩ := List.nodup_cons.1 hn
    have := nodup_le l (m.erase x) h2 (fun y hy => (List.mem_erase_of_ne (fun e => by rw [e] at hy; exact h1 hy)).2 (hs y (by simp [hy])))
    have h3 := List.length_erase_of_mem hx
    have h4 := List.length_pos_of_mem hx
    simp only [List.length_cons]
    omega
section
variable {W W' : World} {O O' : Nat → Prop} {a : Nat} {cl : List Cell} {fr : List Int} {f f' : Nat → Cell} {live live' most most' : Int} {ext : Nat → Nat} {op : Nat → Bool}
theorem AL.holder (h : AL W O a cl fr live most ext op) {i : Nat} (h0 : 0 < i) (hr : 0 < (fn cl i).r) : 0 < ext i ∨ ∃ y, Lv (fn cl) op y ∧ i ∈ kidsOf (fn cl y).kids := by
  have hc := fn_live hr
  have h1 := h.acc i _ h0 hc
  by_cases e : 0 < ext i
  · exact .inl e
  · obtain ⟨y, hy, hp⟩ := sm_pos _ (show 0 < held (gOf (mask op cl)) cl.length i by omega)
    have hp2 : 0 < (gOf (mask op cl)).refs y := Classical.byContradiction fun q => by rw [if_neg q] at hp; omega
    rw [if_pos hp2] at hp
    obtain ⟨d, hd⟩ : ∃ d, cl[y]? = some d := ⟨cl[y], List.getElem?_eq_getElem hy⟩
    have hm := mask_at (op := op) hd
    rw [gOf_kids hm] at hp
    rw [gOf_refs hm, opn_r] at hp2
    have hy2 : op y = false := by
      cases q : op y
      · rfl
      · unfold opn at hp
        rw [q] at hp
        exact absurd hp (Nat.lt_irrefl 0)
    rw [opn_no hy2] at hp
    have hyp : 0 < y := by
      rcases Nat.eq_zero_or_pos y with rfl | q
      · have hz := h.wf.z
        rw [hm, opn_no hy2] at hz
        rw [Option.some.inj hz] at hp2
        exact absurd hp2 (by decide)
      · exact q
    rw [← fn_at hd] at hp hp2
    exact .inr ⟨y, ⟨hyp, by omega, hy2⟩, List.count_pos_iff.1 hp⟩
/-- What holds for all that callers hold, and goes on to whom one holds, holds for all that are live. -/
theorem AO.reach (h : AO W O a f live most ext op) (P : Nat → Prop) (h1 : ∀ j, 0 < j → 0 < ext j → P j) (h2 : ∀ j, Lv f op j → P j → ∀ x ∈ kidsOf (f j).kids, P x) : ∀ j, 0 < j → 0 < (f j).r → P j := by
  obtain ⟨cl, fr, rfl, h⟩ := h
  obtain ⟨rank, hrk⟩ := h.ac
  have key : ∀ d j, 0 < j → 0 < (fn cl j).r → ((List.range cl.length).map rank).sum < rank j + d → P j := by
    intro d
    induction d with
    | zero =>
      intro j h0 hr hd
      have hj := (List.getElem?_eq_some_iff.1 (fn_live hr)).1
      have := le_sum_map rank (List.range cl.length) j (by simpa using hj)
      omega
    | succ d ih =>
      intro j h0 hr hd
      rcases h.holder h0 hr with e | ⟨y, hy, hx⟩
      · exact h1 j h0 e
      · have := hrk y hy.2.1 hy.2.2 j hx
        exact h2 y hy (ih y hy.1 hy.2.1 (by omega)) j hx
  intro j h0 hr
  exact key (((List.range cl.length).map rank).sum + 1) j h0 hr (by omega)
theorem countP_range (cl : List Cell) : ∀ n, n ≤ cl.length → (cl.take n).countP (fun c => decide (0 < c.r)) = ((List.range n).filter fun i => decide (0 < (fn cl i).r)).length
  | 0, _ => by simp
  | n + 1, h => by
    have hn : n < cl.length := h
    rw [List.take_succ_eq_append_getElem hn, List.countP_append, countP_range cl n (by omega), List.range_succ, List.filter_append, List.length_append]
    congr 1
    have e2 : fn cl n = cl[n] := fn_at (List.getElem?_eq_getElem hn)
    by_cases e : 0 < (cl[n]).r
    · simp [e, e2]
    · simp [e, e2]
/-- All that are live, in a list. -/
theorem AO.all (h : AO W O a f live most ext op) : ∃ l : List Nat, l.Nodup ∧ (∀ j, j ∈ l ↔ 0 < j ∧ 0 < (f j).r) ∧ live = (l.length : Int) := by
  obtain ⟨cl, fr, rfl, h⟩ := h
  have hz : (fn cl 0).r = 0 := by
    have := h.wf.z
    rw [mask_get] at this
    obtain ⟨c, q1, q2⟩ := Option.map_eq_some_iff.1 this
    have q3 := congrArg Cell.r q2
    rw [opn_r] at q3
    rw [fn_at q1, q3]
    rfl
  refine ⟨(List.range cl.length).filter fun i => decide (0 < (fn cl i).r), List.nodup_range.filter _, fun j => ?_, ?_⟩
  · rw [List.mem_filter]
    constructor
    · intro hj
      have hr : 0 < (fn cl j).r := by simpa using hj.2
      refine ⟨Nat.pos_of_ne_zero fun e => ?_, hr⟩
      rw [e, hz] at hr
      exact absurd hr (by decide)
    · intro hj
      exact ⟨by simpa using (List.getElem?_eq_some_iff.1 (fn_live hj.2)).1, by simpa using hj.2⟩
  · rw [h.wf.lv, ← countP_range cl cl.length (Nat.le_refl _), List.take_length]
    unfold liveN
    have : ∀ l : List Cell, ∀ g : Nat → Cell → Cell, (∀ i c, (g i c).r = c.r) → (l.mapIdx g).countP (fun c => decide (0 < c.r)) = l.countP (fun c => decide (0 < c.r)) := by
      intro l
      induction l with
      | nil => intros; rfl
      | cons c l ih =>
        intro g hg
        rw [List.mapIdx_cons, List.countP_cons, List.countP_cons, hg, ih _ (fun i c => hg (i + 1) c)]
    have h3 := this cl (opn op) (fun i c => opn_r op i c)
    unfold mask
    first | exact congrArg Int.ofNat h3 | (rw [h3]) | (simpa using h3)
theorem AO.live_le (h : AO W O a f live most ext op) (l : List Nat) (hl : ∀ j, 0 < j → 0 < (f j).r → j ∈ l) : live ≤ (l.length : Int) := by
  obtain ⟨m, h1, h2, rfl⟩ := h.all
  have := nodup_le m l h1 (fun x hx => hl x ((h2 x).1 hx).1 ((h2 x).1 hx).2)
  omega
theorem AO.live_mono {ext' : Nat → Nat} {op' : Nat → Bool} {a' : Nat} (h : AO W O a f live most ext op) (h' : AO W' O' a' f' live' most' ext' op') (hs : ∀ j, 0 < j → 0 < (f j).r → 0 < (f' j).r) : live ≤ live' := by
  obtain ⟨m, h1, h2, rfl⟩ := h'.all
  exact h.live_le m (fun j h0 hr => (h2 j).2 ⟨h0, hs j h0 hr⟩)
/-- All let go: none is live. -/
theorem AO.none_live (h : AO W O a f live most ext op) (he : ∀ j, 0 < j → ext j = 0) : live = 0 := by
  have h1 := h.live_le [] (fun j h0 hr => (h.reach (fun _ => False) (fun j h0 hj => by have := he j h0; omega) (fun _ _ q => q.elim) j h0 hr).elim)
  have h2 := h.room.1
  have : (([] : List Nat).length : Int) = 0 := rfl
  omega
theorem live_same {a' : Nat} (h : AO W O a f live most ext (fun _ => false)) (h' : AO W' O' a' f' live' most' ext (fun _ => false)) (hk : ∀ j, 0 < j → 0 < ext j → Same f f' j) : live = live' := by
  have h1 := h.live_mono h' (fun j h0 hr => (h.reach (fun j => Same f f' j ∧ 0 < (f' j).r) (fun j h0 he => ⟨hk j h0 he, h'.ext_lv h0 he⟩) (fun j hj q x hx => ⟨q.1.kid hx, (h'.lv_kid ⟨hj.1, q.2, rfl⟩ (by rw [q.1.at_]; exact hx)).1.2.1⟩) j h0 hr).2)
  have h2 := h'.live_mono h (fun j h0 hr => (h'.reach (fun j => Same f f' j ∧ 0 < (f j).r) (fun j h0 he => ⟨hk j h0 he, h.ext_lv h0 he⟩) (fun j hj q x hx => by
    rw [q.1.at_] at hx
    exact ⟨q.1.kid hx, (h.lv_kid ⟨hj.1, q.2, rfl⟩ hx).1.2.1⟩) j h0 hr).2)
  omega
end
end Go.Proofs.Ytnipbfhfaefieaa.Ao
