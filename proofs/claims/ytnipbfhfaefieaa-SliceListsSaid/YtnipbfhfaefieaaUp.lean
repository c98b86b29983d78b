/- Texts of this claim, laid together: PwA, PwB, PwC, SlA, SlB. -/
import Derived.Test.YtnipbfhfaefieaaUo
import Derived.Deep.LoopGhost
/-! pvec: changes that are refused. -/
namespace Go.Proofs.Ytnipbfhfaefieaa.Pv
open Go.RowKit Go Go.Proofs.YtnipbfhfaefieaaW.PrintWords Go.Proofs.YtnipbfhfaefieaaW.PrintMore Go.Proofs.YtnipbfhfaefieaaW.PrintLast Go.Proofs.Ytnipbfhfaefieaa.Bts Go.Proofs.Ytnipbfhfaefieaa.Fra Go.Proofs.Ytnipbfhfaefieaa.ArnP Go.Proofs.Ytnipbfhfaefieaa.Arn Go.Proofs.Ytnipbfhfaefieaa.Ao
section
variable {O : Nat → Prop} {a : Nat} {f : Nat → Cell} {live most : Int} {ext rest : Nat → Nat}
set_option maxHeartbeats 4000000 in
set_option maxRecDepth 100000 in
theorem push_full (o : Int) (n r t : Nat) (q m : Int) (s : ByteArray) (w : World) (h : AO w O a f live most (fun z => rest z + vx r t z) nop) (hn : n ≤ 1024) (hn2 : n < 1024) (he : ∀ x, rest x ≤ 50000000000) (hful : most - live < (lev (lvs n + 1) : Int) + 3) :
    Calls Try.prog 33 #[.pointer (some ⟨a, 0, none⟩), vecV n r t, valV q m s, .int .u32 o] w fun e w' => e = .returned (.tuple #[vecV 0 0 0, .int .i64 5]) ∧ Below w.heap.size w w' := by
  have hbx := below_alloc (below_alloc (below_alloc (Below.refl w.heap.size w) (.cells #[.int .i64 n, .int .i64 r, .int .i64 t] 61)) (.cells #[.int .u8 q, .int .i64 m, .string s] 66)) (.cells #[.int .i64 0, .int .i64 0, .int .i64 0] 61)
  have hk0 := blk_alloc (blk_alloc (blk_new w (.cells #[.int .i64 n, .int .i64 r, .int .i64 t] 61)) (.cells #[.int .u8 q, .int .i64 m, .string s] 66)) (.cells #[.int .i64 0, .int .i64 0, .int .i64 0] 61)
  have hk1 := blk_alloc (new1 w (.cells #[.int .i64 n, .int .i64 r, .int .i64 t] 61) (.cells #[.int .u8 q, .int .i64 m, .string s] 66)) (.cells #[.int .i64 0, .int .i64 0, .int .i64 0] 61)
  have hk2 := new2 w (.cells #[.int .i64 n, .int .i64 r, .int .i64 t] 61) (.cells #[.int .u8 q, .int .i64 m, .string s] 66) (.cells #[.int .i64 0, .int .i64 0, .int .i64 0] 61)
  have hbg := begin_full o n r t _ (h.below hbx) hn he hful
  have hlong : ¬ (1024 : Int) ≤ (n : Int) := by omega
  have HBG := Lib.hid hbg
  have HB := Lib.hid hbx
  have HK := Lib.hid (And.intro hk0 (And.intro hk1 hk2))
  clear h hbx hk0 hk1 hk2 hbg hful he
  go_enter Try.func33, Try.ntmps33
  go_wp2_with (go_at_call 77; go_loud (refine HBG.out.mono ?_; rintro e w5 ⟨rfl, hB5⟩; have b2 := blk_alloc (blk_below HK.out.2.2 hB5) (.cells #[.pointer none, .int .u32 0] 133); have v0 := blk_cell b2 0; have v1 := blk_cell b2 1; have v2 := blk_cell b2 2; have z0 := blk_frozen b2 0; have z1 := blk_frozen b2 1; have z2 := blk_frozen b2 2; have HK5 := Lib.hid b2; have HB5 := Lib.hid hB5; clear b2 hB5))
  refine bodyPost_ret (results_ct rfl _ _ (w.heap.size + 1 + 1) 61 #[.int .i64 0, .int .i64 0, .int .i64 0] (0, 0) _ rfl (ret3 HK5.out _ _ _) Try.underlying61 rfl (by kernel_rfl)) rfl ?_
  exact ⟨rfl, Below.setCell (Below.setCell (Below.setCell (below_alloc (HB.out.trans (HB5.out.mono HB.out.size)) _) (show w.heap.size ≤ w.heap.size + 1 + 1 by omega) _) (show w.heap.size ≤ w.heap.size + 1 + 1 by omega) _) (show w.heap.size ≤ w.heap.size + 1 + 1 by omega) _⟩
set_option maxHeartbeats 4000000 in
set_option maxRecDepth 100000 in
theorem push_long (n r t o q m : Int) (s : ByteArray) (w : World) (hc : 1024 ≤ n) :
    Calls Try.prog 33 #[.pointer (some ⟨a, 0, none⟩), vecV n r t, valV q m s, .int .u32 o] w fun e w' => e = .returned (.tuple #[vecV 0 0 0, .int .i64 12]) ∧ Below w.heap.size w w' := by
  have hbx := below_alloc (below_alloc (below_alloc (Below.refl w.heap.size w) (.cells #[.int .i64 n, .int .i64 r, .int .i64 t] 61)) (.cells #[.int .u8 q, .int .i64 m, .string s] 66)) (.cells #[.int .i64 0, .int .i64 0, .int .i64 0] 61)
  have hk0 := blk_alloc (blk_alloc (blk_new w (.cells #[.int .i64 n, .int .i64 r, .int .i64 t] 61)) (.cells #[.int .u8 q, .int .i64 m, .string s] 66)) (.cells #[.int .i64 0, .int .i64 0, .int .i64 0] 61)
  have hk1 := blk_alloc (new1 w (.cells #[.int .i64 n, .int .i64 r, .int .i64 t] 61) (.cells #[.int .u8 q, .int .i64 m, .string s] 66)) (.cells #[.int .i64 0, .int .i64 0, .int .i64 0] 61)
  have hk2 := new2 w (.cells #[.int .i64 n, .int .i64 r, .int .i64 t] 61) (.cells #[.int .u8 q, .int .i64 m, .string s] 66) (.cells #[.int .i64 0, .int .i64 0, .int .i64 0] 61)
  have v0 := blk_cell hk2 0
  have v1 := blk_cell hk2 1
  have v2 := blk_cell hk2 2
  have z0 := blk_frozen hk2 0
  have z1 := blk_frozen hk2 1
  have z2 := blk_frozen hk2 2
  have HB := Lib.hid hbx
  have HK := Lib.hid hk2
  clear hbx hk0 hk1 hk2
  go_enter Try.func33, Try.ntmps33
  go_wp2
  refine bodyPost_ret (results_ct rfl _ _ (w.heap.size + 1 + 1) 61 #[.int .i64 0, .int .i64 0, .int .i64 0] (0, 0) _ rfl HK.out Try.underlying61 rfl (by kernel_rfl)) rfl ?_
  exact ⟨rfl, HB.out⟩
end
end Go.Proofs.Ytnipbfhfaefieaa.Pv
/-! pvec: the chapter's example. -/
namespace Go.Proofs.Ytnipbfhfaefieaa.Pv
open Go.RowKit Go Go.Proofs.YtnipbfhfaefieaaW.PrintWords Go.Proofs.YtnipbfhfaefieaaW.PrintMore Go.Proofs.YtnipbfhfaefieaaW.PrintLast Go.Proofs.Ytnipbfhfaefieaa.Bts Go.Proofs.Ytnipbfhfaefieaa.Fra Go.Proofs.Ytnipbfhfaefieaa.ArnP Go.Proofs.Ytnipbfhfaefieaa.Arn Go.Proofs.Ytnipbfhfaefieaa.Ao
theorem number_calls (x : Int) (w : World) : Calls Try.prog 34 #[.int .i64 x] w fun e w' => e = .returned (valV 2 x ⟨#[]⟩) ∧ Below w.heap.size w w' := by
  go_enter Try.func34, Try.ntmps34
  go_wp2
  refine bodyPost_ret (results_cell_row rfl _ _ w.heap.size 66 #[.int .u8 2, .int .i64 x, .string ⟨#[]⟩] (0, 0) _ rfl (blk_new w _) Try.underlying66 rfl (by kernel_rfl)) rfl ?_
  exact ⟨rfl, below_alloc (Below.refl _ _) _⟩
def f0 : Nat → Cell := fn [nobC]
theorem f0_r (i : Nat) : (f0 i).r = 0 := by
  unfold f0 fn
  rcases i with _ | i
  · rfl
  · rfl
abbrev no0 : Nat → Nat := fun _ => 0
theorem new_AO (n : Int) (w : World) (h1 : 1 ≤ n) (h2 : n ≤ 1048576) : Calls Try.prog 20 #[.int .i64 n] w fun e w' => ∃ a O, e = .returned (.tuple #[.pointer (some ⟨a, 0, none⟩), .int .i64 0]) ∧ AO w' O a f0 0 n (fun z => no0 z + vx 0 0 z) nop ∧ (∀ j, O j → w.heap.size ≤ j) ∧ Below w.heap.size w w' := by
  refine (new_AR n w h1 h2).mono ?_
  rintro e w' ⟨a, O, rfl, hA, hO, hB⟩
  refine ⟨a, O, rfl, AO.of_AR hA ⟨fun _ => 0, fun i hi => ?_⟩, hO, hB⟩
  have := f0_r i
  have e1 : (fn [nobC] i).r = 0 := this
  omega
section
variable {W W' : World} {O O' : Nat → Prop} {a : Nat} {f : Nat → Cell} {live most : Int} {ext rest : Nat → Nat} {op : Nat → Bool}
theorem AO.live_pos (h : AO W O a f live most ext op) {j : Nat} (h0 : 0 < j) (hr : 0 < (f j).r) : 0 < live := by
  obtain ⟨l, _, h2, rfl⟩ := h.all
  have := List.length_pos_of_mem ((h2 j).2 ⟨h0, hr⟩)
  omega
end
theorem VRep.tail_pos {f : Nat → Cell} {n r t : Nat} {l : List V3} (h : VRep f (n + 1) r t l) : 0 < t := by
  rcases h.2.2 with ⟨q, _⟩ | ⟨_, q, _⟩
  · omega
  · exact q.1
theorem RR_no0 (o : Int) : RR no0 o 0 0 = no0 := by
  funext z
  unfold RR
  split <;> rfl
set_option maxHeartbeats 4000000 in
set_option maxRecDepth 100000 in
theorem lives_calls (w : World) : Calls Try.prog 32 #[] w fun e w' => e = .returned (.bool true) ∧ Below w.heap.size w w' := by
  go_enter Try.func32, Try.ntmps32
  go_wp2_with (first
    | (go_at_call 37; go_loud (refine (vdrop_calls (rest := no0) 1 r t _ HA5.out).mono ?_; rintro e w6 ⟨rfl, O6, f6, live6, hA6, _, _, _, hF6⟩; have hz := hA6.none_live (fun _ _ => rfl); subst hz; have HA6 := Lib.hid hA6; have HF6 := Lib.hid hF6; clear hA6 hF6))
    | (go_at_call 22; go_loud (refine (live_AO _ HA5.out).mono ?_; rintro e w7 ⟨rfl, rfl⟩))
    | (go_at_call 36; go_loud (refine (HG.out _ HA4.out).mono ?_; rintro e w5 ⟨rfl, hB5⟩; have HA5 := Lib.hid ((HA4.out.below hB5).below (below_alloc (Below.refl _ _) (.cells #[.int .u8 2, .int .i64 1, .string ⟨#[]⟩] 66))); have HLT := Lib.hid ((HA4.out.below hB5).lt); have hv5 := blk_alloc (blk_below (blk_new w4 (.cells #[.int .i64 1, .int .i64 r, .int .i64 t] 61)) hB5) (.cells #[.int .u8 2, .int .i64 1, .string ⟨#[]⟩] 66); have s0 := blk_cell hv5 0; have s1 := blk_cell hv5 1; have s2 := blk_cell hv5 2; have HB5 := Lib.hid hB5; clear hB5))
    | (go_at_call 33; go_loud (refine (push_first (rest := no0) 0 2 1 ⟨#[]⟩ _ HA2.out (fun _ => Nat.zero_le _) (by decide)).mono ?_; rintro e w4 ⟨r, t, O4, f4, live4, rfl, hA4, _, hV4, _, hO4, hF4⟩; rw [RR_no0] at hA4; have hlp := AO.live_pos hA4 hV4.tail_pos (hA4.ext_lv hV4.tail_pos (by have := vx_t (r := r) hV4.tail_pos; show 0 < 0 + vx r t t; omega)); have hg : ∀ w, AO w O4 a f4 live4 50 (fun z => no0 z + vx r t z) nop → Calls Try.prog 36 #[.pointer (some ⟨a, 0, none⟩), vecV 1 r t, .int .i64 0] w fun e w' => e = .returned (.tuple #[valV 2 1 ⟨#[]⟩, .int .i64 0]) ∧ Below w.heap.size w w' := (fun w h => get_calls 1 r t 0 [(2, 1, ⟨#[]⟩)] 2 1 ⟨#[]⟩ w h hV4 (fun x => Nat.le_add_left _ _) rfl); have HG := Lib.hid hg; have HA4 := Lib.hid (hA4.below (below_alloc (Below.refl _ _) (.cells #[.int .i64 1, .int .i64 r, .int .i64 t] 61))); have HF4 := Lib.hid hF4; have HO4 := Lib.hid hO4; clear hg hA4 hV4 hO4 hF4))
    | (go_at_call 34; go_loud (refine (number_calls 1 _).mono ?_; rintro e w2 ⟨rfl, hB2⟩; have HB2 := Lib.hid (HB1.out.trans (hB2.mono HB1.out.size)); have HA2 := Lib.hid (HA1.out.below hB2); clear hB2))
    | (go_at_call 20; go_loud (refine (new_AO 50 _ (by decide) (by decide)).mono ?_; rintro e w1 ⟨a, O, rfl, hA1, hO1, hB1⟩; have HA1 := Lib.hid hA1; have HO1 := Lib.hid hO1; have HB1 := Lib.hid hB1; clear hA1 hO1 hB1)))
  have hx6 := HF6.out.blk (blk_new w5 (.cells #[.int .u8 2, .int .i64 1, .string ⟨#[]⟩] 66)) (fun q => by have := HLT.out _ q; omega)
  obtain ⟨V, hV⟩ : ∃ V, w6.drew = V := ⟨_, rfl⟩
  have hd : Below w6.heap.size w6 V := by rw [← hV]; exact below_drew1 (Below.refl _ _)
  have hx := blk_below hx6 hd
  have x0 := blk_cell hx 0
  have x1 := blk_cell hx 1
  have x2 := blk_cell hx 2
  have HX := Lib.hid hx
  have HA7 := Lib.hid (HA6.out.below hd)
  have HD := Lib.hid hd
  clear hx6 hd hx
  refine start_ (n := 25) (S := fun w' => w'.cell? ⟨w5.heap.size, 0, none⟩ = some (.int .u8 2) ∧ w'.cell? ⟨w5.heap.size, 1, none⟩ = some (.int .i64 1) ∧ w'.cell? ⟨w5.heap.size, 2, none⟩ = some (.string ⟨#[]⟩)) (ds := []) #[false, false, false, false, false, false, false, false, false, false, false, false, false, false, false, false, false, false, false, false, false, false, false, false, false] (by kernel_rfl) rfl rfl ⟨(by rw [hV]; exact x0), (by rw [hV]; exact x1), (by rw [hV]; exact x2)⟩ (fun hHeld => ?_)
  refine pure_ (i := 0) (N := some 30) (v := ?_) (a' := ?_) #[true, false, false, false, false, false, false, false, false, false, false, false, false, false, false, false, false, false, false, false, false, false, false, false, false] rfl rfl (by kernel_rfl) (fun _ _ _ h => h) (Or.inl ⟨by rfl, ?_⟩) ?_ ?_
  rotate_left
  · intro w'
    go_simp
    with_reducible rfl
  rotate_left
  · simp only [Act.put, List.setIfInBounds_toArray, List.set_cons_zero, List.set_cons_succ, i64_w, i32_w]
    rfl
  refine pure_ (i := 1) (N := some 31) (v := ?_) (a' := ?_) #[true, true, false, false, false, false, false, false, false, false, false, false, false, false, false, false, false, false, false, false, false, false, false, false, false] rfl rfl (by kernel_rfl) (fun _ _ _ h => h) (Or.inl ⟨by rfl, ?_⟩) ?_ ?_
  rotate_left
  · intro w'
    go_simp
    with_reducible rfl
  rotate_left
  · simp only [Act.put, List.setIfInBounds_toArray, List.set_cons_zero, List.set_cons_succ, i64_w, i32_w]
    rfl
  refine pure_ (i := 2) (N := some 32) (v := ?_) (a' := ?_) #[true, true, true, false, false, false, false, false, false, false, false, false, false, false, false, false, false, false, false, false, false, false, false, false, false] rfl rfl (by kernel_rfl) (fun _ _ _ h => h) (Or.inl ⟨by rfl, ?_⟩) ?_ ?_
  rotate_left
  · intro w'
    go_simp
    with_reducible rfl
  rotate_left
  · simp only [Act.put, List.setIfInBounds_toArray, List.set_cons_zero, List.set_cons_succ, i64_w, i32_w]
    rfl
  refine pure_ (i := 3) (N := some 33) (v := ?_) (a' := ?_) #[true, true, true, true, false, false, false, false, false, false, false, false, false, false, false, false, false, false, false, false, false, false, false, false, false] rfl rfl (by kernel_rfl) (fun _ _ _ h => h) (Or.inl ⟨by rfl, ?_⟩) ?_ ?_
  rotate_left
  · intro w'
    go_simp
    with_reducible rfl
  rotate_left
  · simp only [Act.put, List.setIfInBounds_toArray, List.set_cons_zero, List.set_cons_succ, i64_w, i32_w]
    rfl
  refine pure_ (i := 4) (N := some 34) (v := ?_) (a' := ?_) #[true, true, true, true, true, false, false, false, false, false, false, false, false, false, false, false, false, false, false, false, false, false, false, false, false] rfl rfl (by kernel_rfl) (fun _ _ _ h => h) (Or.inl ⟨by rfl, ?_⟩) ?_ ?_
  rotate_left
  · intro w'
    go_simp
    with_reducible rfl
  rotate_left
  · simp only [Act.put, List.setIfInBounds_toArray, List.set_cons_zero, List.set_cons_succ, i64_w, i32_w]
    rfl
  refine pure_ (i := 5) (N := some 35) (v := ?_) (a' := ?_) #[true, true, true, true, true, true, false, false, false, false, false, false, false, false, false, false, false, false, false, false, false, false, false, false, false] rfl rfl (by kernel_rfl) (fun _ _ _ h => h) (Or.inl ⟨by rfl, ?_⟩) ?_ ?_
  rotate_left
  · intro w'
    go_simp
    with_reducible rfl
  rotate_left
  · simp only [Act.put, List.setIfInBounds_toArray, List.set_cons_zero, List.set_cons_succ, i64_w, i32_w]
    rfl
  refine pure_ (i := 6) (N := some 36) (v := ?_) (a' := ?_) #[true, true, true, true, true, true, true, false, false, false, false, false, false, false, false, false, false, false, false, false, false, false, false, false, false] rfl rfl (by kernel_rfl) (fun _ _ _ h => h) (Or.inl ⟨by rfl, ?_⟩) ?_ ?_
  rotate_left
  · intro w'
    go_simp
    with_reducible rfl
  rotate_left
  · simp only [Act.put, List.setIfInBounds_toArray, List.set_cons_zero, List.set_cons_succ, i64_w, i32_w]
    rfl
  refine pure_ (i := 7) (N := some 37) (v := ?_) (a' := ?_) #[true, true, true, true, true, true, true, true, false, false, false, false, false, false, false, false, false, false, false, false, false, false, false, false, false] rfl rfl (by kernel_rfl) (fun _ _ _ h => h) (Or.inl ⟨by rfl, ?_⟩) ?_ ?_
  rotate_left
  · intro w'
    go_simp
    with_reducible rfl
  rotate_left
  · simp only [Act.put, List.setIfInBounds_toArray, List.set_cons_zero, List.set_cons_succ, i64_w, i32_w]
    rfl
  refine pure_ (i := 8) (N := some 38) (v := ?_) (a' := ?_) #[true, true, true, true, true, true, true, true, true, false, false, false, false, false, false, false, false, false, false, false, false, false, false, false, false] rfl rfl (by kernel_rfl) (fun _ _ _ h => h) (Or.inl ⟨by rfl, ?_⟩) ?_ ?_
  rotate_left
  · intro w'
    go_simp
    with_reducible rfl
  rotate_left
  · simp only [Act.put, List.setIfInBounds_toArray, List.set_cons_zero, List.set_cons_succ, i64_w, i32_w]
    rfl
  refine pure_ (i := 9) (N := some 39) (v := ?_) (a' := ?_) #[true, true, true, true, true, true, true, true, true, true, false, false, false, false, false, false, false, false, false, false, false, false, false, false, false] rfl rfl (by kernel_rfl) (fun _ _ _ h => h) (Or.inl ⟨by rfl, ?_⟩) ?_ ?_
  rotate_left
  · intro w'
    go_simp
    with_reducible rfl
  rotate_left
  · simp only [Act.put, List.setIfInBounds_toArray, List.set_cons_zero, List.set_cons_succ, i64_w, i32_w]
    rfl
  refine pure_ (i := 10) (N := some 40) (v := ?_) (a' := ?_) #[true, true, true, true, true, true, true, true, true, true, true, false, false, false, false, false, false, false, false, false, false, false, false, false, false] rfl rfl (by kernel_rfl) (fun _ _ _ h => h) (Or.inl ⟨by rfl, ?_⟩) ?_ ?_
  rotate_left
  · intro w'
    go_simp
    with_reducible rfl
  rotate_left
  · simp only [Act.put, List.setIfInBounds_toArray, List.set_cons_zero, List.set_cons_succ, i64_w, i32_w]
    rfl
  refine take_ (i := 11) (N := some 41) (v := ?_) (a' := ?_) #[true, true, true, true, true, true, true, true, true, true, true, true, false, false, false, false, false, false, false, false, false, false, false, false, false] rfl rfl (by kernel_rfl) (fun _ _ _ h => h) (Or.inl ⟨by rfl, ?_⟩) hHeld ?_ ?_
  rotate_left
  · rintro w' ⟨s0, s1, s2⟩
    go_simp
    with_reducible rfl
  rotate_left
  · simp only [Act.put, List.setIfInBounds_toArray, List.set_cons_zero, List.set_cons_succ, i64_w, i32_w]
    rfl
  refine one_ (i := 12) (N := some 42) #[true, true, true, true, true, true, true, true, true, true, true, true, true, false, false, false, false, false, false, false, false, false, false, false, false] rfl rfl (by kernel_rfl) (by decide) (fun K hK => ?_)
  refine goes_ Try.func34 (by kernel_rfl) rfl #[.int .i64 1] (by rfl) rfl rfl (by simp only [List.map_toArray, List.map_cons, List.map_nil]; rfl) ?_
  with_reducible refine (number_calls 1 _).mono ?_
  rintro e w8 ⟨rfl, hB8⟩
  refine ⟨_, rfl, ?_⟩
  have HB8 := Lib.hid (hV ▸ hB8 : Below V.heap.size V w8)
  refine hK.out _ _ ⟨(blk_cell (blk_below HX.out HB8.out) 0), (blk_cell (blk_below HX.out HB8.out) 1), (blk_cell (blk_below HX.out HB8.out) 2)⟩ (fun hHeld => ?_)
  clear hK K
  refine norm_ (a' := ?_) ?_ ?_
  rotate_left
  · show Act.put _ (some 42) _ = _
    simp only [Act.put, List.setIfInBounds_toArray, List.set_cons_zero, List.set_cons_succ, i64_w, i32_w]
    rfl
  refine pure_ (i := 13) (N := some 43) (v := ?_) (a' := ?_) #[true, true, true, true, true, true, true, true, true, true, true, true, true, true, false, false, false, false, false, false, false, false, false, false, false] rfl rfl (by kernel_rfl) (fun _ _ _ h => h) (Or.inl ⟨by rfl, ?_⟩) ?_ ?_
  rotate_left
  · intro w'
    go_simp
    with_reducible rfl
  rotate_left
  · simp only [Act.put, List.setIfInBounds_toArray, List.set_cons_zero, List.set_cons_succ, i64_w, i32_w]
    rfl
  refine pure_ (i := 14) (N := some 44) (v := ?_) (a' := ?_) #[true, true, true, true, true, true, true, true, true, true, true, true, true, true, true, false, false, false, false, false, false, false, false, false, false] rfl rfl (by kernel_rfl) (fun _ _ _ h => h) (Or.inl ⟨by rfl, ?_⟩) ?_ ?_
  rotate_left
  · intro w'
    go_simp
    with_reducible rfl
  rotate_left
  · simp only [Act.put, List.setIfInBounds_toArray, List.set_cons_zero, List.set_cons_succ, i64_w, i32_w]
    rfl
  refine pure_ (i := 15) (N := some 45) (v := ?_) (a' := ?_) #[true, true, true, true, true, true, true, true, true, true, true, true, true, true, true, true, false, false, false, false, false, false, false, false, false] rfl rfl (by kernel_rfl) (fun _ _ _ h => h) (Or.inl ⟨by rfl, ?_⟩) ?_ ?_
  rotate_left
  · intro w'
    go_simp
    with_reducible rfl
  rotate_left
  · simp only [Act.put, List.setIfInBounds_toArray, List.set_cons_zero, List.set_cons_succ, i64_w, i32_w]
    rfl
  refine pure_ (i := 16) (N := some 46) (v := ?_) (a' := ?_) #[true, true, true, true, true, true, true, true, true, true, true, true, true, true, true, true, true, false, false, false, false, false, false, false, false] rfl rfl (by kernel_rfl) (fun _ _ _ h => h) (Or.inl ⟨by rfl, ?_⟩) ?_ ?_
  rotate_left
  · intro w'
    go_simp
    with_reducible rfl
  rotate_left
  · simp only [Act.put, List.setIfInBounds_toArray, List.set_cons_zero, List.set_cons_succ, i64_w, i32_w]
    rfl
  refine pure_ (i := 17) (N := some 47) (v := ?_) (a' := ?_) #[true, true, true, true, true, true, true, true, true, true, true, true, true, true, true, true, true, true, false, false, false, false, false, false, false] rfl rfl (by kernel_rfl) (fun _ _ _ h => h) (Or.inl ⟨by rfl, ?_⟩) ?_ ?_
  rotate_left
  · intro w'
    go_simp
    with_reducible rfl
  rotate_left
  · simp only [Act.put, List.setIfInBounds_toArray, List.set_cons_zero, List.set_cons_succ, i64_w, i32_w]
    rfl
  refine pure_ (i := 18) (N := some 48) (v := ?_) (a' := ?_) #[true, true, true, true, true, true, true, true, true, true, true, true, true, true, true, true, true, true, true, false, false, false, false, false, false] rfl rfl (by kernel_rfl) (fun _ _ _ h => h) (Or.inl ⟨by rfl, ?_⟩) ?_ ?_
  rotate_left
  · intro w'
    go_simp
    with_reducible rfl
  rotate_left
  · simp only [Act.put, List.setIfInBounds_toArray, List.set_cons_zero, List.set_cons_succ, i64_w, i32_w]
    rfl
  refine pure_ (i := 19) (N := some 49) (v := ?_) (a' := ?_) #[true, true, true, true, true, true, true, true, true, true, true, true, true, true, true, true, true, true, true, true, false, false, false, false, false] rfl rfl (by kernel_rfl) (fun _ _ _ h => h) (Or.inl ⟨by rfl, ?_⟩) ?_ ?_
  rotate_left
  · intro w'
    go_simp
    with_reducible rfl
  rotate_left
  · simp only [Act.put, List.setIfInBounds_toArray, List.set_cons_zero, List.set_cons_succ, i64_w, i32_w]
    rfl
  refine pure_ (i := 20) (N := some 50) (v := ?_) (a' := ?_) #[true, true, true, true, true, true, true, true, true, true, true, true, true, true, true, true, true, true, true, true, true, false, false, false, false] rfl rfl (by kernel_rfl) (fun _ _ _ h => h) (Or.inl ⟨by rfl, ?_⟩) ?_ ?_
  rotate_left
  · intro w'
    go_simp
    with_reducible rfl
  rotate_left
  · simp only [Act.put, List.setIfInBounds_toArray, List.set_cons_zero, List.set_cons_succ, i64_w, i32_w]
    rfl
  refine one_ (i := 21) (N := some 51) #[true, true, true, true, true, true, true, true, true, true, true, true, true, true, true, true, true, true, true, true, true, true, false, false, false] rfl rfl (by kernel_rfl) (by decide) (fun K hK => ?_)
  refine goes_ Try.func22 (by kernel_rfl) rfl #[.pointer (some ⟨a, 0, none⟩)] (by rfl) rfl rfl (by simp only [List.map_toArray, List.map_cons, List.map_nil]; rfl) ?_
  with_reducible refine (live_AO _ (HA7.out.below HB8.out)).mono ?_
  rintro e w9 ⟨rfl, hw9⟩
  refine ⟨_, rfl, ?_⟩
  subst hw9
  refine hK.out _ _ ⟨(blk_cell (blk_below HX.out HB8.out) 0), (blk_cell (blk_below HX.out HB8.out) 1), (blk_cell (blk_below HX.out HB8.out) 2)⟩ (fun hHeld => ?_)
  clear hK K
  refine norm_ (a' := ?_) ?_ ?_
  rotate_left
  · show Act.put _ (some 51) _ = _
    simp only [Act.put, List.setIfInBounds_toArray, List.set_cons_zero, List.set_cons_succ, i64_w, i32_w]
    rfl
  refine pure_ (i := 22) (N := some 52) (v := ?_) (a' := ?_) #[true, true, true, true, true, true, true, true, true, true, true, true, true, true, true, true, true, true, true, true, true, true, true, false, false] rfl rfl (by kernel_rfl) (fun _ _ _ h => h) (Or.inl ⟨by rfl, ?_⟩) ?_ ?_
  rotate_left
  · intro w'
    go_simp
    with_reducible rfl
  rotate_left
  · simp only [Act.put, List.setIfInBounds_toArray, List.set_cons_zero, List.set_cons_succ, i64_w, i32_w]
    rfl
  refine pure_ (i := 23) (N := some 53) (v := ?_) (a' := ?_) #[true, true, true, true, true, true, true, true, true, true, true, true, true, true, true, true, true, true, true, true, true, true, true, true, false] rfl rfl (by kernel_rfl) (fun _ _ _ h => h) (Or.inl ⟨by rfl, ?_⟩) ?_ ?_
  rotate_left
  · intro w'
    go_simp
    with_reducible rfl
  rotate_left
  · simp only [Act.put, List.setIfInBounds_toArray, List.set_cons_zero, List.set_cons_succ, i64_w, i32_w]
    rfl
  refine pure_ (i := 24) (N := some 0) (v := ?_) (a' := ?_) #[true, true, true, true, true, true, true, true, true, true, true, true, true, true, true, true, true, true, true, true, true, true, true, true, true] rfl rfl (by kernel_rfl) (fun _ _ _ h => h) (Or.inl ⟨by rfl, ?_⟩) ?_ ?_
  rotate_left
  · intro w'
    go_simp
    with_reducible rfl
  rotate_left
  · simp only [Act.put, List.setIfInBounds_toArray, List.set_cons_zero, List.set_cons_succ, i64_w, i32_w]
    rfl
  refine done_ (by kernel_rfl) ?_

  go_wp2
  go_ret
  have hF := (((((((Fr.of_new (S := fun _ => False) HB2.out).then_ HF4.out (fun j hj => .inr (HO1.out j hj))).more (below_alloc (Below.refl _ _) (.cells #[.int .i64 1, .int .i64 r, .int .i64 t] 61))).more HB5.out).more (below_alloc (Below.refl _ _) (.cells #[.int .u8 2, .int .i64 1, .string ⟨#[]⟩] 66))).then_ HF6.out (fun j hj => .inr (by
    rcases HO4.out j hj with q | q
    · exact HO1.out j q
    · have := HB2.out.size
      omega))).more HD.out).more HB8.out
  exact ⟨rfl, hF.below (fun _ h => h.elim) (Nat.le_refl _)⟩
end Go.Proofs.Ytnipbfhfaefieaa.Pv
/-! pvec: Push, Set as wholes; how many cells a vector has. -/
namespace Go.Proofs.Ytnipbfhfaefieaa.Pv
open Go.RowKit Go Go.Proofs.YtnipbfhfaefieaaW.PrintWords Go.Proofs.YtnipbfhfaefieaaW.PrintMore Go.Proofs.YtnipbfhfaefieaaW.PrintLast Go.Proofs.Ytnipbfhfaefieaa.Bts Go.Proofs.Ytnipbfhfaefieaa.Fra Go.Proofs.Ytnipbfhfaefieaa.ArnP Go.Proofs.Ytnipbfhfaefieaa.Arn Go.Proofs.Ytnipbfhfaefieaa.Ao
section
variable {W : World} {O : Nat → Prop} {a : Nat} {f : Nat → Cell} {live most : Int} {ext rest : Nat → Nat}
theorem push_ok (o : Int) (n r t : Nat) (l : List V3) (q m : Int) (s : ByteArray) (w : World) (h : AO w O a f live most (fun z => rest z + vx r t z) nop) (hv : VRep f n r t l) (hn : n < 1024) (he : ∀ x, rest x ≤ 50000000000) (hful : ¬ most - live < (lev (lvs n + 1) : Int) + 3) :
    Calls Try.prog 33 #[.pointer (some ⟨a, 0, none⟩), vecV n r t, valV q m s, .int .u32 o] w fun e w' => ∃ (r' t' : Nat) (O' : Nat → Prop) (f' : Nat → Cell) (live' : Int), e = .returned (.tuple #[vecV ((n : Int) + 1) r' t', .int .i64 0]) ∧ AO w' O' a f' live' most (fun z => RR rest o r t z + vx r' t' z) nop ∧ live' ≤ live + 2 ∧ VRep f' (n + 1) r' t' (l ++ [(q, m, s)]) ∧ KeepR (RR rest o r t) nop f f' ∧ (∀ j, O' j → O j ∨ w.heap.size ≤ j) ∧ Fr O w w' := by
  by_cases h0 : n = 0
  · subst h0
    have hl : l = [] := List.length_eq_zero_iff.1 hv.1.symm
    rcases hv.2.2 with ⟨_, rfl, rfl⟩ | ⟨q0, _⟩
    · rw [hl]
      have e3 : (lev (lvs 0 + 1) : Int) + 3 = 3 := rfl
      rw [e3] at hful
      exact push_first o q m s w h he hful
    · omega
  · by_cases h1 : n % 32 = 0
    · exact push_leaf o n r t l q m s w h hv hn h1 (by omega) he hful
    · exact push_tail o n r t l q m s w h hv hn h1 he hful
theorem vx_cases {r t j : Nat} (h0 : 0 < j) (h : 0 < vx r t j) : (j = r ∧ 0 < r) ∨ (j = t ∧ 0 < t) := by
  unfold vx hold one at h
  by_cases e1 : j = r
  · exact .inl ⟨e1, by omega⟩
  · by_cases e2 : j = t
    · exact .inr ⟨e2, by omega⟩
    · rw [if_neg e1, if_neg e2] at h
      split at h <;> split at h <;> omega
/-- How many cells a vector alone has. -/
theorem vec_live {n r t : Nat} {l : List V3} (h : AO W O a f live most (fun z => no0 z + vx r t z) nop) (hv : VRep f n r t l) : (n = 0 → live = 0) ∧ (0 < n → live ≤ (lvs n : Int) + 2) := by
  obtain ⟨_, hn, hv⟩ := hv
  rcases hv with ⟨rfl, rfl, rfl⟩ | ⟨h0, hT, hR⟩
  · exact ⟨fun _ => h.none_live (fun _ _ => rfl), fun q => by omega⟩
  · refine ⟨fun q => by omega, fun _ => ?_⟩
    have hst : ∀ L : List Nat, t ∈ L → (0 < r → r ∈ L) → (∀ j, j ∈ L → ∀ x ∈ kidsOf (f j).kids, x ∈ L) → live ≤ (L.length : Int) := fun L h1 h2 h3 => h.live_le L (h.reach (fun j => j ∈ L) (fun j j0 hj => by
      have hj : 0 < 0 + vx r t j := hj
      rcases vx_cases (r := r) (t := t) j0 (by omega) with ⟨rfl, q⟩ | ⟨rfl, q⟩
      · exact h2 q
      · exact h1) (fun j _ hj => h3 j hj))
    rcases hR with ⟨hm, hr⟩ | ⟨hm, hL⟩ | ⟨h2, hr, _, hkl, hk⟩
    · have := hst [t] (by simp) (fun q => by omega) (fun j hj x hx => by
        have : j = t := by simpa using hj
        subst this
        rw [hT.2.2] at hx
        cases hx)
      simp only [List.length_singleton] at this
      omega
    · have := hst [t, r] (by simp) (fun q => by simp) (fun j hj x hx => by
        have : j = t ∨ j = r := by simpa using hj
        rcases this with rfl | rfl
        · rw [hT.2.2] at hx
          cases hx
        · rw [hL.2.2] at hx
          cases hx)
      simp only [List.length_cons, List.length_nil] at this
      omega
    · have := hst (t :: r :: kidsOf (f r).kids) (by simp) (fun q => by simp) (fun j hj x hx => by
        have : j = t ∨ j = r ∨ j ∈ kidsOf (f r).kids := by simpa using hj
        rcases this with rfl | rfl | hj
        · rw [hT.2.2] at hx
          cases hx
        · simp [hx]
        · obtain ⟨z, hz, z0, rfl⟩ := kidsOf_mem hj
          obtain ⟨i, hi⟩ := List.getElem?_of_mem hz
          obtain ⟨k, rfl, hLk⟩ := hk i z hi
          rw [Int.toNat_natCast, hLk.2.2] at hx
          cases hx)
      have hkk := kidsOf_len (f r).kids
      simp only [List.length_cons] at this
      omega
end
end Go.Proofs.Ytnipbfhfaefieaa.Pv
/-! slice: how many cells there are with a vector more; a row of values is read. -/
namespace Go.Proofs.Ytnipbfhfaefieaa.Pv
open Go.RowKit Go Go.Proofs.YtnipbfhfaefieaaW.PrintWords Go.Proofs.YtnipbfhfaefieaaW.PrintMore Go.Proofs.YtnipbfhfaefieaaW.PrintLast Go.Proofs.Ytnipbfhfaefieaa.Bts Go.Proofs.Ytnipbfhfaefieaa.Fra Go.Proofs.Ytnipbfhfaefieaa.ArnP Go.Proofs.Ytnipbfhfaefieaa.Arn Go.Proofs.Ytnipbfhfaefieaa.Ao
/-- A vector's cells, in a list. -/
theorem vec_list {f : Nat → Cell} {n r t : Nat} {l : List V3} (hv : VRep f n r t l) : ∃ L : List Nat, L.length ≤ lvs n + 2 ∧ (∀ j, 0 < j → 0 < vx r t j → j ∈ L) ∧ ∀ j ∈ L, ∀ x ∈ kidsOf (f j).kids, x ∈ L := by
  obtain ⟨_, hn, hv⟩ := hv
  rcases hv with ⟨rfl, rfl, rfl⟩ | ⟨h0, hT, hR⟩
  · exact ⟨[], by simp, fun j h0 hj => by rcases vx_cases (r := 0) (t := 0) h0 hj with ⟨_, q⟩ | ⟨_, q⟩ <;> omega, fun j hj => by cases hj⟩
  · have hmem : ∀ L : List Nat, t ∈ L → (0 < r → r ∈ L) → ∀ j, 0 < j → 0 < vx r t j → j ∈ L := fun L h1 h2 j j0 hj => by
      rcases vx_cases (r := r) (t := t) j0 hj with ⟨rfl, q⟩ | ⟨rfl, q⟩
      · exact h2 q
      · exact h1
    rcases hR with ⟨hm, hr⟩ | ⟨hm, hL⟩ | ⟨h2, hr, _, hkl, hk⟩
    · refine ⟨[t], by simp, hmem _ (by simp) (fun q => by omega), fun j hj x hx => ?_⟩
      have : j = t := by simpa using hj
      subst this
      rw [hT.2.2] at hx
      cases hx
    · refine ⟨[t, r], by simp, hmem _ (by simp) (fun q => by simp), fun j hj x hx => ?_⟩
      have : j = t ∨ j = r := by simpa using hj
      rcases this with rfl | rfl
      · rw [hT.2.2] at hx
        cases hx
      · rw [hL.2.2] at hx
        cases hx
    · refine ⟨t :: r :: kidsOf (f r).kids, ?_, hmem _ (by simp) (fun q => by simp), fun j hj x hx => ?_⟩
      · have hkk := kidsOf_len (f r).kids
        simp only [List.length_cons]
        omega
      · have : j = t ∨ j = r ∨ j ∈ kidsOf (f r).kids := by simpa using hj
        rcases this with rfl | rfl | hj
        · rw [hT.2.2] at hx
          cases hx
        · simp [hx]
        · obtain ⟨z, hz, z0, rfl⟩ := kidsOf_mem hj
          obtain ⟨i, hi⟩ := List.getElem?_of_mem hz
          obtain ⟨k, rfl, hLk⟩ := hk i z hi
          rw [Int.toNat_natCast, hLk.2.2] at hx
          cases hx
section
variable {W W0 : World} {O O0 : Nat → Prop} {a a0 : Nat} {f f1 : Nat → Cell} {live live0 most most0 : Int} {rest : Nat → Nat}
theorem vec_live2 {n r t : Nat} {l : List V3} (h0 : AO W0 O0 a0 f1 live0 most0 rest nop) (h : AO W O a f live most (fun z => rest z + vx r t z) nop) (hk : KeepR rest nop f1 f) (hv : VRep f n r t l) : live ≤ live0 + (lvs n : Int) + 2 := by
  obtain ⟨L, hL, hL1, hL2⟩ := vec_list hv
  obtain ⟨m, _, hm, rfl⟩ := h0.all
  have hP := h.reach (fun j => (0 < j ∧ 0 < (f1 j).r ∧ Same f1 f j) ∨ j ∈ L) (fun j j0 hj => by
    have hj : 0 < rest j + vx r t j := hj
    by_cases e : 0 < rest j
    · exact .inl ⟨j0, h0.ext_lv j0 e, (hk j j0 e).2 rfl⟩
    · exact .inr (hL1 j j0 (by omega))) (fun j hj hq x hx => by
    rcases hq with ⟨q0, q1, q2⟩ | q
    · rw [q2.at_] at hx
      have h3 := (h0.lv_kid ⟨q0, q1, rfl⟩ hx).1
      exact .inl ⟨h3.1, h3.2.1, q2.kid hx⟩
    · exact .inr (hL2 j q x hx))
  have hq := h.live_le (m ++ L) (fun j j0 hr => by
    rw [List.mem_append]
    exact (hP j j0 hr).imp (fun q => (hm j).2 ⟨q.1, q.2.1⟩) id)
  rw [List.length_append] at hq
  omega
theorem row_at {Q : Nat → Prop} {v : Value} {xs : List V3} (h : RowIn kVal W Q v xs) (i : Nat) {k m : Int} {s : ByteArray} (hx : xs[i]? = some (k, m, s)) :
    ∃ ad c, v = .slice (some ad) xs.length c ∧ W.cell? (ad.add (i * 3)) = some (.int .u8 k) ∧ W.cell? ⟨(ad.add (i * 3)).block, (ad.add (i * 3)).off + 1, none⟩ = some (.int .i64 m) ∧ W.cell? ⟨(ad.add (i * 3)).block, (ad.add (i * 3)).off + 2, none⟩ = some (.string s) := by
  obtain ⟨A, c0, e, h1, h2, h3, h4⟩ := h
  have hi := (List.getElem?_eq_some_iff.1 hx).1
  obtain ⟨ad, c, e2, _, hK, hc⟩ := Kd.C_get h3 (0, 0, ⟨#[]⟩) (i : Int) (by omega) (by omega)
  rw [Int.toNat_natCast] at hK hc
  have hg : xs.getD i (0, 0, ⟨#[]⟩) = (k, m, s) := by
    show xs[i]?.getD _ = _
    rw [hx]
    rfl
  rw [hg] at hK
  obtain ⟨_, _, rfl, rfl, ⟨_, _, rfl, rfl, rfl⟩⟩ := hK
  have hc : ∀ j u, [Value.int .u8 k, Value.int .i64 m, Value.string s][j]? = some u → W.cell? (ad.add (i * 3 + j)) = some u := hc
  subst e2
  exact ⟨ad, c0, e, hc 0 _ rfl, by rw [← add_field _ _ 1 (by omega)]; exact hc 1 _ rfl, by rw [← add_field _ _ 2 (by omega)]; exact hc 2 _ rfl⟩
end
end Go.Proofs.Ytnipbfhfaefieaa.Pv
/-! pvec: slice.From. -/
namespace Go.Proofs.Ytnipbfhfaefieaa.Pv
open Go.RowKit Go Go.Proofs.YtnipbfhfaefieaaW.PrintWords Go.Proofs.YtnipbfhfaefieaaW.PrintMore Go.Proofs.YtnipbfhfaefieaaW.PrintLast Go.Proofs.Ytnipbfhfaefieaa.Bts Go.Proofs.Ytnipbfhfaefieaa.Fra Go.Proofs.Ytnipbfhfaefieaa.ArnP Go.Proofs.Ytnipbfhfaefieaa.Arn Go.Proofs.Ytnipbfhfaefieaa.Ao
section
variable {O : Nat → Prop} {a : Nat} {f : Nat → Cell} {live most : Int} {ext rest : Nat → Nat}
abbrev own_ : Int := 4294967295
abbrev vecB' (w : World) (b : Nat) (n r t : Int) : Prop := w.heap[b]? = some (.cells #[.int .i64 n, .int .i64 r, .int .i64 t] 61 (0, 0))
structure FS (w wr : World) (O : Nat → Prop) (a : Nat) (f : Nat → Cell) (most : Int) (rest : Nat → Nat) (l : List V3) (j r t : Nat) (Oj : Nat → Prop) (fj : Nat → Cell) (lj : Int) : Prop where
  ao : AO wr Oj a fj lj most (fun z => rest z + vx r t z) nop
  rep : VRep fj j r t (l.take j)
  keep : KeepR rest nop f fj
  v : vecB' wr (w.heap.size + 1) j r t
  res : vecB' wr w.heap.size 0 0 0
  own : ∀ i, Oj i → O i ∨ w.heap.size + 2 ≤ i
  fr : Fr O w wr
theorem RR_ne {o : Int} (ho : o ≠ 0) (rest : Nat → Nat) (r t : Nat) : RR rest o r t = rest := by
  funext z
  unfold RR
  rw [if_neg ho]
  rfl
theorem fr3d (w : World) (b : Nat) (x y z : Value) : Fr (fun j => j = b) w (((w.setCell ⟨b, 0, none⟩ x).setCell ⟨b, 1, none⟩ y).setCell ⟨b, 2, none⟩ z) :=
  Fr.put (S := fun j => j = b) (Fr.put (S := fun j => j = b) (Fr.put (S := fun j => j = b) (Fr.refl (fun j => j = b) w) (p := ⟨b, 0, none⟩) (.inl rfl) x) (p := ⟨b, 1, none⟩) (.inl rfl) y) (p := ⟨b, 2, none⟩) (.inl rfl) z
def FromPost (w : World) (O : Nat → Prop) (a : Nat) (f : Nat → Cell) (live most : Int) (rest : Nat → Nat) (l : List V3) (e : Ending) (w' : World) : Prop := (∃ (r t : Nat) (O' : Nat → Prop) (f' : Nat → Cell) (live' : Int), e = .returned (.tuple #[vecV l.length r t, .int .i64 0]) ∧ AO w' O' a f' live' most (fun z => rest z + vx r t z) nop ∧ VRep f' l.length r t l ∧ KeepR rest nop f f' ∧ (∀ j, O' j → O j ∨ w.heap.size ≤ j) ∧ Fr O w w') ∨
      (∃ (c : Int) (O' : Nat → Prop) (f' : Nat → Cell) (live' : Int), e = .returned (.tuple #[vecV 0 0 0, .int .i64 c]) ∧ ((c = 12 ∧ 1024 < l.length) ∨ (c = 5 ∧ most - live < 40)) ∧ AO w' O' a f' live' most rest nop ∧ KeepR rest nop f f' ∧ (∀ j, O' j → O j ∨ w.heap.size ≤ j) ∧ Fr O w w')
set_option maxHeartbeats 4000000 in
set_option maxRecDepth 100000 in
theorem from_calls {Q : Nat → Prop} (l : List V3) (v : Value) (w : World) (h : AO w O a f live most rest nop) (hl : RowIn kVal w Q v l) (hQ : ∀ j, Q j → ¬ O j) (hlen : l.length ≤ 2000) (hb : ∀ x, rest x ≤ 50000000000) :
    Calls Try.prog 40 #[.pointer (some ⟨a, 0, none⟩), v] w (FromPost w O a f live most rest l) := by
  have hlt := h.lt
  obtain ⟨A, cp, ev, hcp, hAn, hC, hAd⟩ := id hl
  subst ev
  have hbx := below_alloc (below_alloc (Below.refl w.heap.size w) (.cells #[.int .i64 0, .int .i64 0, .int .i64 0] 61)) (.cells #[.int .i64 0, .int .i64 0, .int .i64 0] 61)
  have hS0 : FS w ((w.alloc (.cells #[.int .i64 0, .int .i64 0, .int .i64 0] 61)).alloc (.cells #[.int .i64 0, .int .i64 0, .int .i64 0] 61)) O a f most rest l 0 0 0 O f live := ⟨h.below hbx, ⟨by simp, by omega, .inl ⟨rfl, rfl, rfl⟩⟩, KeepR.refl _ _ _, new1 w (.cells #[.int .i64 0, .int .i64 0, .int .i64 0] 61) (.cells #[.int .i64 0, .int .i64 0, .int .i64 0] 61), blk_alloc (blk_new w (.cells #[.int .i64 0, .int .i64 0, .int .i64 0] 61)) (.cells #[.int .i64 0, .int .i64 0, .int .i64 0] 61), fun i hi => .inl hi, Fr.of_new hbx⟩
  have hln : (l.length : Int) ≤ 2000 := by omega
  have HA := Lib.hid h
  have HS0 := Lib.hid hS0
  have HL := Lib.hid hl
  have HQ := Lib.hid hQ
  have HLT := Lib.hid hlt
  have HBD := Lib.hid hb
  clear hbx hS0 hl hQ hlt hC hAd hAn hcp h hb
  go_enter Try.func40, Try.ntmps40
  go_wp2
  go_loopg [13] l.length (fun q i wr => ∃ (j r t : Nat) (Oj : Nat → Prop) (fj : Nat → Cell) (lj : Int), q + j = l.length ∧ i = .int .i64 (j : Int) ∧ FS w wr O a f most rest l j r t Oj fj lj)
  case atStart => exact ⟨0, 0, 0, O, f, live, rfl, rfl, HS0.out⟩
  case round =>
    obtain ⟨j, r, t, Oj, fj, lj, hq, rfl, hS⟩ := hrel
    have HS := Lib.hid hS
    have hwr := hS.fr.size
    have hbv := blk_lt hS.v
    have hnO1 : ¬ Oj (w.heap.size + 1) := fun q => by
      rcases hS.own _ q with e | e
      · have := HLT.out _ e; omega
      · omega
    have hnO0 : ¬ Oj w.heap.size := fun q => by
      rcases hS.own _ q with e | e
      · have := HLT.out _ e; omega
      · omega
    have HNO := Lib.hid (And.intro hnO0 hnO1)
    by_cases hj : j < l.length
    · have hj' : (j : Int) < (l.length : Int) := by omega
      obtain ⟨x, hx⟩ : ∃ x, l[j]? = some x := ⟨l[j], List.getElem?_eq_getElem hj⟩
      obtain ⟨k, m, s⟩ := x
      have hrow := HL.out.fr kVal_K hS.fr HQ.out
      obtain ⟨ad, c2, e2, y0, y1, y2⟩ := row_at hrow j hx
      obtain rfl : A = some ad := by injection e2
      have htk : l.take (j + 1) = l.take j ++ [(k, m, s)] := by
        rw [List.take_succ_eq_append_getElem hj]
        congr 2
        rw [List.getElem?_eq_getElem hj] at hx
        exact Option.some.inj hx
      have hvl := vec_live2 HA.out hS.ao hS.keep hS.rep
      have hj32 : lvs j ≤ 31 := by have := hS.rep.2.1; unfold lvs; omega
      have hlev : lev (lvs j + 1) ≤ 1 := by unfold lev; split <;> omega
      have hv1 := blk_alloc hS.v (.cells #[.int .u8 k, .int .i64 m, .string s] 66)
      have v0 := blk_cell hv1 0
      have v1 := blk_cell hv1 1
      have v2 := blk_cell hv1 2
      have x0 := blk_cell (blk_new wr (.cells #[.int .u8 k, .int .i64 m, .string s] 66)) 0
      have x1 := blk_cell (blk_new wr (.cells #[.int .u8 k, .int .i64 m, .string s] 66)) 1
      have x2 := blk_cell (blk_new wr (.cells #[.int .u8 k, .int .i64 m, .string s] 66)) 2
      have HTK := Lib.hid htk
      have HAX := Lib.hid (hS.ao.below (below_alloc (Below.refl _ _) (.cells #[.int .u8 k, .int .i64 m, .string s] 66)))
      have HV1 := Lib.hid hv1
      have HR1 := Lib.hid (blk_alloc hS.res (.cells #[.int .u8 k, .int .i64 m, .string s] 66))
      have HJ := Lib.hid (And.intro hvl (And.intro hj32 hlev))
      clear hS hrow htk hvl hj32 hlev hv1 hnO0 hnO1 hx e2
      by_cases h1 : j < 1024
      · by_cases h2 : most - lj < (lev (lvs j + 1) : Int) + 3
        · have H2 := Lib.hid h2
          clear h2
          go_wp2_with (first
            | (go_at_call 37; go_loud (refine (vdrop_calls j r t _ HA5.out).mono ?_; rintro e w6 ⟨rfl, O6, f6, live6, hA6, hK6, _, hO6, hF6⟩; have HA6 := Lib.hid hA6; have HK6 := Lib.hid hK6; have HO6 := Lib.hid hO6; have HF6 := Lib.hid hF6; have g0 := hF6.blk HG5.out HNO.out.1; have z0 := blk_frozen g0 0; have z1 := blk_frozen g0 1; have z2 := blk_frozen g0 2; have u0 := blk_cell g0 0; have u1 := blk_cell g0 1; have u2 := blk_cell g0 2; have HG6 := Lib.hid g0; clear hA6 hK6 hO6 hF6 g0))
            | (go_at_call 33; go_loud (refine (push_full (rest := rest) 4294967295 j r t k m s _ HAX.out (by omega) h1 HBD.out (by have := H2.out; omega)).mono ?_; rintro e w5 ⟨rfl, hB5⟩; have g1 := blk_alloc (blk_below HV1.out hB5) (.cells #[.int .i64 0, .int .i64 0, .int .i64 0] 61); have r0 := blk_cell g1 0; have r1 := blk_cell g1 1; have r2 := blk_cell g1 2; have HG5 := Lib.hid (blk_alloc (blk_below HR1.out hB5) (.cells #[.int .i64 0, .int .i64 0, .int .i64 0] 61)); have HA5 := Lib.hid ((HAX.out.below hB5).below (below_alloc (Below.refl _ _) (.cells #[.int .i64 0, .int .i64 0, .int .i64 0] 61))); have HB5 := Lib.hid hB5; clear g1 hB5)))
          refine bodyPost_ret (results_ct rfl _ _ w.heap.size 61 #[.int .i64 0, .int .i64 0, .int .i64 0] (0, 0) _ rfl (ret3 HG6.out _ _ _) Try.underlying61 rfl (by kernel_rfl)) rfl ?_
          have hz := fr3d w6 w.heap.size (.int .i64 0) (.int .i64 0) (.int .i64 0)
          have hsb := HB5.out.size
          have hO6 : ∀ i, O6 i → Oj i ∨ wr.heap.size ≤ i := fun i hi => (HO6.out i hi).imp id (fun q => by simp only [World.size_alloc] at q hsb; omega)
          have hn6 : ¬ O6 w.heap.size := fun q => by
            rcases hO6 _ q with e | e
            · exact HNO.out.1 e
            · omega
          unfold FromPost
          refine .inr ⟨_, O6, f6, live6, rfl, .inr ⟨rfl, by have := HJ.out; have := H2.out; omega⟩, HA6.out.move hz (fun i hi e => by rw [e] at hi; exact hn6 hi), HS.out.keep.trans (HK6.out.mono (fun i hi => hi)), fun i hi => ?_, ?_⟩
          · rcases hO6 i hi with e | e
            · exact (HS.out.own i e).imp id (fun q => by omega)
            · exact .inr (by omega)
          · exact (((((HS.out.fr.more (below_alloc (Below.refl _ _) (.cells #[.int .u8 k, .int .i64 m, .string s] 66))).more HB5.out).more (below_alloc (Below.refl _ _) (.cells #[.int .i64 0, .int .i64 0, .int .i64 0] 61))).then_ HF6.out (fun i hi => (HS.out.own i hi).imp id (fun q => by omega))).then_ hz (fun i hi => .inr (by omega)))
        · have H2 := Lib.hid h2
          clear h2
          go_wp2_with (go_at_call 33; go_loud (refine (push_ok (rest := rest) 4294967295 j r t (l.take j) k m s _ HAX.out HS.out.rep h1 HBD.out (by have := H2.out; omega)).mono ?_; rintro e w5 ⟨r', t', O5, f5, live5, rfl, hA5, _, hV5, hK5, hO5, hF5⟩; rw [RR_ne (by decide)] at hA5 hK5; have HA5 := Lib.hid hA5; have HV5 := Lib.hid hV5; have HK5 := Lib.hid hK5; have HO5 := Lib.hid hO5; have HF5 := Lib.hid hF5; have g1 := hF5.blk HV1.out HNO.out.2; have g0 := hF5.blk HR1.out HNO.out.1; have n1 := blk_alloc g1 (.cells #[.int .i64 ((j : Int) + 1), .int .i64 r', .int .i64 t'] 61); have z0 := blk_frozen n1 0; have z1 := blk_frozen n1 1; have z2 := blk_frozen n1 2; have u0 := blk_cell n1 0; have u1 := blk_cell n1 1; have u2 := blk_cell n1 2; have HG := Lib.hid (And.intro n1 (blk_alloc g0 (.cells #[.int .i64 ((j : Int) + 1), .int .i64 r', .int .i64 t'] 61))); clear hA5 hV5 hK5 hO5 hF5 g1 g0 n1))
          go_roundg (gk - 1)
          case measure => omega
          case rel =>
            have hz := fr3d (w5.alloc (.cells #[.int .i64 ((j : Int) + 1), .int .i64 r', .int .i64 t'] 61)) (w.heap.size + 1) (.int .i64 ((j : Int) + 1)) (.int .i64 r') (.int .i64 t')
            have hO : ∀ i, O5 i → Oj i ∨ wr.heap.size ≤ i := fun i hi => (HO5.out i hi).imp id (fun q => by simp only [World.size_alloc] at q; omega)
            have hn5 : ¬ O5 (w.heap.size + 1) := fun q => by
              rcases hO _ q with e | e
              · exact HNO.out.2 e
              · omega
            refine ⟨j + 1, r', t', O5, f5, live5, by omega, by simp, ⟨(HA5.out.below (below_alloc (Below.refl _ _) (.cells #[.int .i64 ((j : Int) + 1), .int .i64 r', .int .i64 t'] 61))).move hz (fun i hi e => by rw [e] at hi; exact hn5 hi), by rw [HTK.out]; exact HV5.out, HS.out.keep.trans HK5.out, ret3 HG.out.1 _ _ _, hz.blk HG.out.2 (by omega), fun i hi => ?_, ?_⟩⟩
            · rcases hO i hi with e | e
              · exact HS.out.own i e
              · exact .inr (by omega)
            · exact (((HS.out.fr.more (below_alloc (Below.refl _ _) (.cells #[.int .u8 k, .int .i64 m, .string s] 66))).then_ HF5.out (fun i hi => (HS.out.own i hi).imp id (fun q => by omega))).more (below_alloc (Below.refl _ _) (.cells #[.int .i64 ((j : Int) + 1), .int .i64 r', .int .i64 t'] 61))).then_ hz (fun i hi => .inr (by omega))
      · have hj4 : 1024 ≤ (j : Int) := by omega
        go_wp2_with (first
          | (go_at_call 37; go_loud (refine (vdrop_calls j r t _ HA5.out).mono ?_; rintro e w6 ⟨rfl, O6, f6, live6, hA6, hK6, _, hO6, hF6⟩; have HA6 := Lib.hid hA6; have HK6 := Lib.hid hK6; have HO6 := Lib.hid hO6; have HF6 := Lib.hid hF6; have g0 := hF6.blk HG5.out HNO.out.1; have z0 := blk_frozen g0 0; have z1 := blk_frozen g0 1; have z2 := blk_frozen g0 2; have u0 := blk_cell g0 0; have u1 := blk_cell g0 1; have u2 := blk_cell g0 2; have HG6 := Lib.hid g0; clear hA6 hK6 hO6 hF6 g0))
          | (go_at_call 33; go_loud (refine (push_long (a := a) j r t 4294967295 k m s _ hj4).mono ?_; rintro e w5 ⟨rfl, hB5⟩; have g1 := blk_alloc (blk_below HV1.out hB5) (.cells #[.int .i64 0, .int .i64 0, .int .i64 0] 61); have r0 := blk_cell g1 0; have r1 := blk_cell g1 1; have r2 := blk_cell g1 2; have HG5 := Lib.hid (blk_alloc (blk_below HR1.out hB5) (.cells #[.int .i64 0, .int .i64 0, .int .i64 0] 61)); have HA5 := Lib.hid ((HAX.out.below hB5).below (below_alloc (Below.refl _ _) (.cells #[.int .i64 0, .int .i64 0, .int .i64 0] 61))); have HB5 := Lib.hid hB5; clear g1 hB5)))
        refine bodyPost_ret (results_ct rfl _ _ w.heap.size 61 #[.int .i64 0, .int .i64 0, .int .i64 0] (0, 0) _ rfl (ret3 HG6.out _ _ _) Try.underlying61 rfl (by kernel_rfl)) rfl ?_
        have hz := fr3d w6 w.heap.size (.int .i64 0) (.int .i64 0) (.int .i64 0)
        have hsb := HB5.out.size
        have hO6 : ∀ i, O6 i → Oj i ∨ wr.heap.size ≤ i := fun i hi => (HO6.out i hi).imp id (fun q => by simp only [World.size_alloc] at q hsb; omega)
        have hn6 : ¬ O6 w.heap.size := fun q => by
          rcases hO6 _ q with e | e
          · exact HNO.out.1 e
          · omega
        unfold FromPost
        refine .inr ⟨_, O6, f6, live6, rfl, .inl ⟨rfl, by omega⟩, HA6.out.move hz (fun i hi e => by rw [e] at hi; exact hn6 hi), HS.out.keep.trans (HK6.out.mono (fun i hi => hi)), fun i hi => ?_, ?_⟩
        · rcases hO6 i hi with e | e
          · exact (HS.out.own i e).imp id (fun q => by omega)
          · exact .inr (by omega)
        · exact (((((HS.out.fr.more (below_alloc (Below.refl _ _) (.cells #[.int .u8 k, .int .i64 m, .string s] 66))).more HB5.out).more (below_alloc (Below.refl _ _) (.cells #[.int .i64 0, .int .i64 0, .int .i64 0] 61))).then_ HF6.out (fun i hi => (HS.out.own i hi).imp id (fun q => by omega))).then_ hz (fun i hi => .inr (by omega)))
    · have hjl : j = l.length := by omega
      subst hjl
      have hj' : ¬ (l.length : Int) < (l.length : Int) := by omega
      have v0 := blk_cell hS.v 0
      have v1 := blk_cell hS.v 1
      have v2 := blk_cell hS.v 2
      have z0 := blk_frozen hS.res 0
      have z1 := blk_frozen hS.res 1
      have z2 := blk_frozen hS.res 2
      have u0 := blk_cell hS.res 0
      have u1 := blk_cell hS.res 1
      have u2 := blk_cell hS.res 2
      clear hS
      go_wp2
      refine bodyPost_ret (results_ct rfl _ _ w.heap.size 61 #[.int .i64 l.length, .int .i64 r, .int .i64 t] (0, 0) _ rfl (ret3 HS.out.res _ _ _) Try.underlying61 rfl (by kernel_rfl)) rfl ?_
      have hz := fr3d wr w.heap.size (.int .i64 l.length) (.int .i64 r) (.int .i64 t)
      unfold FromPost
      refine .inl ⟨r, t, Oj, fj, lj, rfl, HS.out.ao.move hz (fun i hi e => by rw [e] at hi; exact HNO.out.1 hi), ?_, HS.out.keep, fun i hi => (HS.out.own i hi).imp id (fun q => by omega), HS.out.fr.then_ hz (fun i hi => .inr (by omega))⟩
      have := HS.out.rep
      rwa [List.take_length] at this
end
end Go.Proofs.Ytnipbfhfaefieaa.Pv
