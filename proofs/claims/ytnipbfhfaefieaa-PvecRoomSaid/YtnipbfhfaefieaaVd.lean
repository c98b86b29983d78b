/- Texts of this claim, laid together: PvX, PvY, PvZ, PwA, PwB, PwC, PwD. -/
import Derived.Test.YtnipbfhfaefieaaVc
import Derived.Deep.LoopGhost
/-! pvec: the tail becomes a leaf, and another one is begun. -/
namespace Go.Proofs.Ytnipbfhfaefieaa.Pv
open Go.RowKit Go Go.Proofs.YtnipbfhfaefieaaW.PrintWords Go.Proofs.YtnipbfhfaefieaaW.PrintMore Go.Proofs.YtnipbfhfaefieaaW.PrintLast Go.Proofs.Ytnipbfhfaefieaa.Bts Go.Proofs.Ytnipbfhfaefieaa.Fra Go.Proofs.Ytnipbfhfaefieaa.ArnP Go.Proofs.Ytnipbfhfaefieaa.Arn Go.Proofs.Ytnipbfhfaefieaa.Ao
section
variable {O : Nat → Prop} {a : Nat} {f : Nat → Cell} {live most : Int} {ext rest : Nat → Nat}
theorem row_val3 (w : World) (p : Addr) (x : Value) (q m : Int) (s : ByteArray) : RowIn kVal ((w.setCell p x).alloc (.cells #[.int .u8 q, .int .i64 m, .string s] 66)) (fun j => w.heap.size ≤ j) (.slice (some ⟨w.heap.size, 0, none⟩) 1 1) [(q, m, s)] := by
  have := row_val1R (w.setCell p x) q m s
  rw [World.size_setCell] at this
  exact this
theorem KeepR.same {R : Nat → Nat} {f f' : Nat → Cell} (h : KeepR R nop f f') {j : Nat} (h0 : 0 < j) (hr : 0 < R j) : Same f f' j := (h j h0 hr).2 rfl
theorem kc_nil (R : Nat → Nat) : (fun z => R z) = fun z => R z + kc [] z := by
  funext z
  rfl
set_option maxHeartbeats 4000000 in
set_option maxRecDepth 100000 in
theorem push_leaf (o : Int) (n r t : Nat) (l : List V3) (q m : Int) (s : ByteArray) (w : World) (h : AO w O a f live most (fun z => rest z + vx r t z) nop) (hv : VRep f n r t l) (hn : n < 1024) (hn2 : n % 32 = 0) (h0 : 0 < n) (he : ∀ x, rest x ≤ 50000000000) (hful : ¬ most - live < (lev (lvs n + 1) : Int) + 3) :
    Calls Try.prog 33 #[.pointer (some ⟨a, 0, none⟩), vecV n r t, valV q m s, .int .u32 o] w fun e w' => ∃ (r' t' : Nat) (O' : Nat → Prop) (f' : Nat → Cell) (live' : Int), e = .returned (.tuple #[vecV ((n : Int) + 1) r' t', .int .i64 0]) ∧ AO w' O' a f' live' most (fun z => RR rest o r t z + vx r' t' z) nop ∧ live' ≤ live + 2 ∧ VRep f' (n + 1) r' t' (l ++ [(q, m, s)]) ∧ KeepR (RR rest o r t) nop f f' ∧ (∀ j, O' j → O j ∨ w.heap.size ≤ j) ∧ Fr O w w' := by
  have hlt := h.lt
  have hv' := hv
  obtain ⟨hl, _, hv2⟩ := hv'
  rcases hv2 with ⟨q0, _⟩ | ⟨_, hT, hR⟩
  · omega
  have hbx := below_alloc (below_alloc (below_alloc (Below.refl w.heap.size w) (.cells #[.int .i64 n, .int .i64 r, .int .i64 t] 61)) (.cells #[.int .u8 q, .int .i64 m, .string s] 66)) (.cells #[.int .i64 0, .int .i64 0, .int .i64 0] 61)
  have hk0 := blk_alloc (blk_alloc (blk_new w (.cells #[.int .i64 n, .int .i64 r, .int .i64 t] 61)) (.cells #[.int .u8 q, .int .i64 m, .string s] 66)) (.cells #[.int .i64 0, .int .i64 0, .int .i64 0] 61)
  have hk1 := blk_alloc (new1 w (.cells #[.int .i64 n, .int .i64 r, .int .i64 t] 61) (.cells #[.int .u8 q, .int .i64 m, .string s] 66)) (.cells #[.int .i64 0, .int .i64 0, .int .i64 0] 61)
  have hk2 := new2 w (.cells #[.int .i64 n, .int .i64 r, .int .i64 t] 61) (.cells #[.int .u8 q, .int .i64 m, .string s] 66) (.cells #[.int .i64 0, .int .i64 0, .int .i64 0] 61)
  have hbg := begin_ok o n r t _ (h.below hbx) (by omega) he hful
  have hlc := leaves_calls n (r : Int) (t : Int) (by omega)
  have hlm : live + 2 < most := by omega
  have hmd : (n : Int).tmod 32 = 0 := by rw [Int.tmod_eq_emod_of_nonneg (by omega)]; omega
  have hmd2 : (n : Int) % 32 = 0 := by omega
  have hlong : ¬ (1024 : Int) ≤ (n : Int) := by omega
  have hn9 : (n : Int) ≤ 1023 := by omega
  have hpos : (0 : Int) < (n : Int) := by omega
  have ht0 := hT.1
  have hm32 : lvs n < 32 := by unfold lvs; omega
  obtain ⟨RW, hRW⟩ : ∃ RW, RR rest o r t = RW := ⟨_, rfl⟩
  have hrw : ∀ x, RW x ≤ 60000000000 := fun x => by rw [← hRW]; have := RR_le (o := o) (r := r) (t := t) he x; omega
  rw [hRW] at hbg ⊢
  obtain ⟨lv, hlv⟩ : ∃ lv, lvs n = lv := ⟨_, rfl⟩
  rw [hlv] at hlc hm32 hT hR
  have HLC := Lib.hid hlc
  have HBG := Lib.hid hbg
  have HB := Lib.hid hbx
  have HK := Lib.hid (And.intro hk0 (And.intro hk1 hk2))
  have HN := Lib.hid (show ∀ j, w.heap.size ≤ j → ¬ O j from fun j hj e => by have := hlt j e; omega)
  have HV := Lib.hid hv
  have HT := Lib.hid hT
  have HRT := Lib.hid hR
  have HLV := Lib.hid hlv
  have HRW := Lib.hid hRW
  have HL := Lib.hid hl
  have HN2 := Lib.hid (And.intro hn hn2)
  clear h hbx hk0 hk1 hk2 hbg hlt hv hT hR hful he hl hlc hlv hRW hn2
  go_enter Try.func33, Try.ntmps33
  go_wp2_with (go_at_call 77; go_loud (refine HBG.out.mono ?_; rintro e w5 ⟨rfl, f5, hA5, hO5, hk5, hF5⟩; have HKP := Lib.hid hk5; clear hk5; have hA5 := hA5.below (below_alloc (Below.refl _ _) (.cells #[.pointer (some ⟨a, 0, none⟩), .int .u32 o] 133)); rw [vx_split _ r ht0] at hA5; have HA5 := Lib.hid hA5; have HO5 := Lib.hid hO5; have HF5 := Lib.hid hF5; have b0 := hF5.blk HK.out.1 (HN.out _ (by omega)); have b1 := hF5.blk HK.out.2.1 (HN.out _ (by omega)); have b2 := hF5.blk HK.out.2.2 (HN.out _ (by omega)); have c0 := blk_alloc b0 (.cells #[.pointer (some ⟨a, 0, none⟩), .int .u32 o] 133); have c1 := blk_alloc b1 (.cells #[.pointer (some ⟨a, 0, none⟩), .int .u32 o] 133); have c2 := blk_alloc b2 (.cells #[.pointer (some ⟨a, 0, none⟩), .int .u32 o] 133); have c3 := blk_new w5 (.cells #[.pointer (some ⟨a, 0, none⟩), .int .u32 o] 133); have s0 := blk_cell c0 0; have s1 := blk_cell c0 1; have s2 := blk_cell c0 2; have p0 := blk_cell c1 0; have p1 := blk_cell c1 1; have p2 := blk_cell c1 2; have k0 := blk_cell c3 0; have k1 := blk_cell c3 1; have HK5 := Lib.hid (And.intro c0 (And.intro c1 (And.intro c2 c3))); clear b0 b1 b2 c0 c1 c2 c3 hA5 hO5 hF5))
  obtain ⟨V, hV⟩ : ∃ V, (w5.alloc (.cells #[.pointer (some ⟨a, 0, none⟩), .int .u32 o] 133)).drew = V := ⟨_, rfl⟩
  have hd : Below (w5.alloc (.cells #[.pointer (some ⟨a, 0, none⟩), .int .u32 o] 133)).heap.size (w5.alloc (.cells #[.pointer (some ⟨a, 0, none⟩), .int .u32 o] 133)) V := by rw [← hV]; exact below_drew1 (Below.refl _ _)
  have d0 := blk_below HK5.out.1 hd
  have d1 := blk_below HK5.out.2.1 hd
  have d2 := blk_below HK5.out.2.2.1 hd
  have d3 := blk_below HK5.out.2.2.2 hd
  have q0 := blk_cell d0 0
  have q1 := blk_cell d0 1
  have q2 := blk_cell d0 2
  have q3 := blk_cell d3 0
  have q4 := blk_cell d3 1
  have HAV := Lib.hid (HA5.out.below hd)
  have HKV := Lib.hid (And.intro d0 (And.intro d1 (And.intro d2 d3)))
  have HD := Lib.hid hd
  have hszv := hd.size
  have hn5 : ∀ j, w.heap.size ≤ j → ¬ O j := HN.out
  have HN5 := Lib.hid hn5
  clear d0 d1 d2 d3 hd hn5
  refine start_ (n := 10) (S := fun w' => w'.cell? ⟨w.heap.size, 0, none⟩ = some (.int .i64 (n : Int)) ∧ w'.cell? ⟨w.heap.size, 1, none⟩ = some (.int .i64 (r : Int)) ∧ w'.cell? ⟨w.heap.size, 2, none⟩ = some (.int .i64 (t : Int)) ∧ w'.cell? ⟨w5.heap.size, 0, none⟩ = some (.pointer (some ⟨a, 0, none⟩)) ∧ w'.cell? ⟨w5.heap.size, 1, none⟩ = some (.int .u32 o)) (ds := [9]) #[false, false, false, false, false, false, false, false, false, false] (by kernel_rfl) rfl rfl ⟨(by rw [hV]; exact q0), (by rw [hV]; exact q1), (by rw [hV]; exact q2), (by rw [hV]; exact q3), (by rw [hV]; exact q4)⟩ (fun hHeld => ?_)
  refine pure_ (i := 1) (N := some 31) (v := ?_) (a' := ?_) #[false, true, false, false, false, false, false, false, false, false] rfl rfl (by kernel_rfl) (fun _ _ _ h => h) (Or.inl ⟨by rfl, ?_⟩) ?_ ?_
  rotate_left
  · intro w'
    go_simp
    with_reducible rfl
  rotate_left
  · simp only [Act.put, List.setIfInBounds_toArray, List.set_cons_zero, List.set_cons_succ, i64_w, i32_w]
    rfl
  refine pure_ (i := 5) (N := some 35) (v := ?_) (a' := ?_) #[false, true, false, false, false, true, false, false, false, false] rfl rfl (by kernel_rfl) (fun _ _ _ h => h) (Or.inl ⟨by rfl, ?_⟩) ?_ ?_
  rotate_left
  · intro w'
    go_simp
    with_reducible rfl
  rotate_left
  · simp only [Act.put, List.setIfInBounds_toArray, List.set_cons_zero, List.set_cons_succ, i64_w, i32_w]
    rfl
  refine take_ (i := 0) (N := some 30) (v := ?_) (a' := ?_) #[true, true, false, false, false, true, false, false, false, false] rfl rfl (by kernel_rfl) (fun _ _ _ h => h) (Or.inl ⟨by rfl, ?_⟩) hHeld ?_ ?_
  rotate_left
  · rintro w' ⟨s0, s1, s2, s3, s4⟩
    go_simp
    with_reducible rfl
  rotate_left
  · simp only [Act.put, List.setIfInBounds_toArray, List.set_cons_zero, List.set_cons_succ, i64_w, i32_w]
    rfl
  refine take_ (i := 2) (N := some 32) (v := ?_) (a' := ?_) #[true, true, true, false, false, true, false, false, false, false] rfl rfl (by kernel_rfl) (fun _ _ _ h => h) (Or.inl ⟨by rfl, ?_⟩) hHeld ?_ ?_
  rotate_left
  · rintro w' ⟨s0, s1, s2, s3, s4⟩
    go_simp
    with_reducible rfl
  rotate_left
  · simp only [Act.put, List.setIfInBounds_toArray, List.set_cons_zero, List.set_cons_succ, i64_w, i32_w]
    rfl
  refine take_ (i := 3) (N := some 33) (v := ?_) (a' := ?_) #[true, true, true, true, false, true, false, false, false, false] rfl rfl (by kernel_rfl) (fun _ _ _ h => h) (Or.inl ⟨by rfl, ?_⟩) hHeld ?_ ?_
  rotate_left
  · rintro w' ⟨s0, s1, s2, s3, s4⟩
    go_simp
    with_reducible rfl
  rotate_left
  · simp only [Act.put, List.setIfInBounds_toArray, List.set_cons_zero, List.set_cons_succ, i64_w, i32_w]
    rfl
  refine take_ (i := 6) (N := some 36) (v := ?_) (a' := ?_) #[true, true, true, true, false, true, true, false, false, false] rfl rfl (by kernel_rfl) (fun _ _ _ h => h) (Or.inl ⟨by rfl, ?_⟩) hHeld ?_ ?_
  rotate_left
  · rintro w' ⟨s0, s1, s2, s3, s4⟩
    go_simp
    with_reducible rfl
  rotate_left
  · simp only [Act.put, List.setIfInBounds_toArray, List.set_cons_zero, List.set_cons_succ, i64_w, i32_w]
    rfl
  refine one_ (i := 4) (N := some 34) #[true, true, true, true, true, true, true, false, false, false] rfl rfl (by kernel_rfl) (by decide) (fun K hK => ?_)
  refine goes_ Try.func81 (by kernel_rfl) rfl #[vecV n r t] (by rfl) rfl rfl (by simp only [List.map_toArray, List.map_cons, List.map_nil]; rfl) ?_
  with_reducible refine (HLC.out _).mono ?_
  rintro e w6 ⟨rfl, hB6⟩
  refine ⟨_, rfl, ?_⟩
  have hB6 : Below V.heap.size V w6 := hV ▸ hB6
  have HB6 := Lib.hid hB6
  have HBV := Lib.hid hB6
  have HA6 := Lib.hid (HAV.out.below hB6)
  refine hK.out _ _ ⟨(blk_cell (blk_below HKV.out.1 HB6.out) 0), (blk_cell (blk_below HKV.out.1 HB6.out) 1), (blk_cell (blk_below HKV.out.1 HB6.out) 2), (blk_cell (blk_below HKV.out.2.2.2 HB6.out) 0), (blk_cell (blk_below HKV.out.2.2.2 HB6.out) 1)⟩ (fun hHeld => ?_)
  clear hK K
  refine norm_ (a' := ?_) ?_ ?_
  rotate_left
  · show Act.put _ (some 34) _ = _
    simp only [Act.put, List.setIfInBounds_toArray, List.set_cons_zero, List.set_cons_succ, i64_w, i32_w]
    rfl
  refine one_ (i := 7) (N := some 37) #[true, true, true, true, true, true, true, true, false, false] rfl rfl (by kernel_rfl) (by decide) (fun K hK => ?_)
  refine goes_ Try.func80 (by kernel_rfl) rfl #[workV a o, .int .i64 r, .int .i64 lv, .int .i64 t] (by rfl) rfl rfl (by simp only [List.map_toArray, List.map_cons, List.map_nil]; rfl) ?_
  with_reducible refine (growT (rest := RW) o lv r t (leafs l) (l.drop (32 * lv)) _ HA6.out (HRT.out.same (fun hr => KeepR.same HKP.out hr (by have := vx_r (t := t) hr; show 0 < RW r + vx r t r; omega))) (HT.out.same (KeepR.same HKP.out ht0 (by have := vx_t (r := r) ht0; show 0 < RW t + vx r t t; omega))) hrw hm32 (by omega)).mono ?_
  rintro e w7 ⟨r', O7, f7, live7, rfl, hA7, hll7, hr7, hT7, hK7, hO7, hF7⟩
  refine ⟨_, rfl, ?_⟩
  have HA7 := Lib.hid hA7
  have HT7 := Lib.hid hT7
  have HK7 := Lib.hid hK7
  have HF7 := Lib.hid hF7
  have g0 := hF7.blk (blk_below HKV.out.1 HB6.out) (HN.out _ (by omega))
  have g1 := hF7.blk (blk_below HKV.out.2.1 HB6.out) (HN.out _ (by omega))
  have g2 := hF7.blk (blk_below HKV.out.2.2.1 HB6.out) (HN.out _ (by omega))
  have g3 := hF7.blk (blk_below HKV.out.2.2.2 HB6.out) (HN.out _ (by have := HF5.out.size; have := HB.out.size; omega))
  have fz := blk_frozen g0 1
  have HG := Lib.hid (And.intro g0 (And.intro g1 (And.intro g2 g3)))
  clear hA7 hT7 hK7 hF7 g0 g1 g2 g3
  refine hK.out _ _ ⟨(blk_cell HG.out.1 0), (blk_cell HG.out.1 1), (blk_cell HG.out.1 2), (blk_cell HG.out.2.2.2 0), (blk_cell HG.out.2.2.2 1)⟩ (fun hHeld => ?_)
  clear hK K
  refine norm_ (a' := ?_) ?_ ?_
  rotate_left
  · show Act.put _ (some 37) _ = _
    simp only [Act.put, List.setIfInBounds_toArray, List.set_cons_zero, List.set_cons_succ, i64_w, i32_w]
    rfl
  refine pure_ (i := 8) (N := some 38) (v := ?_) (a' := ?_) #[true, true, true, true, true, true, true, true, true, false] rfl rfl (by kernel_rfl) (fun _ _ _ h => h) (Or.inl ⟨by rfl, ?_⟩) ?_ ?_
  rotate_left
  · intro w'
    go_simp
    with_reducible rfl
  rotate_left
  · simp only [Act.put, List.setIfInBounds_toArray, List.set_cons_zero, List.set_cons_succ, i64_w, i32_w]
    rfl
  refine last_ (i := 9) (N := none) #[true, true, true, true, true, true, true, true, true, true] rfl rfl (by kernel_rfl) (by decide) (fun K hK => ?_)
  refine skip_ (w1 := ?_) (by rfl) rfl ?_ ?_
  rotate_left
  · go_simp
    rfl
  refine hK.out _ _ ?_
  clear hK K
  refine done_ (by kernel_rfl) ?_

  have e0 := HG.out
  have hs7 : Fr (fun j => j = w.heap.size) w7 (w7.setCell ⟨w.heap.size, 1, none⟩ (.int .i64 r')) := Fr.set _ _ _
  have hlt7 := HA7.out.lt
  have g0 := blk_put HG.out.1 1 (.int .i64 r') rfl
  have g1 := hs7.blk HG.out.2.1 (by omega)
  have g2 := hs7.blk HG.out.2.2.1 (by omega)
  have hsw := HF5.out.size
  have hsb := HB.out.size
  have hs6 := HB6.out.size
  have hsd := HD.out.size
  simp only [World.size_alloc] at hsw hsb hsd
  have g3 := hs7.blk HG.out.2.2.2 (by omega)
  have hO7n : ∀ j, w.heap.size ≤ j → j < w5.heap.size + 1 → ¬ O7 j := fun j h1 h2 h3 => by
    rcases hO7 j h3 with q | q
    · exact HN.out j h1 q
    · omega
  have hA8 := HA7.out.move hs7 (fun k hk e => hO7n k (by omega) (by omega) hk)
  rw [kc_nil (fun z => RW z + one r' z)] at hA8
  have p0 := blk_cell g1 0
  have p1 := blk_cell g1 1
  have p2 := blk_cell g1 2
  have k0 := blk_cell g3 0
  have k1 := blk_cell g3 1
  have HA8 := Lib.hid hA8
  have HLT7 := Lib.hid hlt7
  have HON := Lib.hid hO7n
  have HG8 := Lib.hid (And.intro g0 (And.intro g1 (And.intro g2 g3)))
  have HS7 := Lib.hid hs7
  clear e0 hs7 g0 g1 g2 g3 hA8 hlt7 hO7n q0 q1 q2 q3 q4
  go_wp2_with (go_at_call 82; go_loud (refine (make_nil (Q := fun j => w7.heap.size ≤ j) (rest := fun z => RW z + one r' z) o 0 0 0 _ _ [(q, m, s)] [] _ (HA8.out.below (below_alloc (Below.refl _ _) (.cells #[.int .u8 q, .int .i64 m, .string s] 66))) (row_val3 _ _ _ q m s) (row_noneK _ _) (fun j hj hj2 => by have := HLT7.out j hj2; omega) (by intro z hz; cases hz) (by omega) (by simp) (by simp) (fun z hz => by cases hz)).mono ?_; rintro e w6 ⟨i, O6, rfl, hA6, hi0, hri, _, hK6, hO6, hF6⟩; have HA6 := Lib.hid hA6; have HF6 := Lib.hid hF6; have HK6 := Lib.hid hK6; have b0 := hF6.blk (blk_alloc HG8.out.1 (.cells #[.int .u8 q, .int .i64 m, .string s] 66)) (HON.out _ (by omega) (by omega)); have b2 := hF6.blk (blk_alloc HG8.out.2.2.1 (.cells #[.int .u8 q, .int .i64 m, .string s] 66)) (HON.out _ (by omega) (by omega)); have u0 := blk_cell b0 0; have u1 := blk_cell b0 1; have u2 := blk_cell b0 2; have y0 := blk_frozen b0 0; have y1 := blk_frozen b0 1; have y2 := blk_frozen b0 2; have v0 := blk_cell b2 0; have v1 := blk_cell b2 1; have v2 := blk_cell b2 2; have z0 := blk_frozen b2 0; have z1 := blk_frozen b2 1; have z2 := blk_frozen b2 2; have HB6 := Lib.hid (And.intro b0 b2); clear b0 b2 hA6 hK6 hF6))
  refine bodyPost_ret (results_ct rfl _ _ (w.heap.size + 1 + 1) 61 #[.int .i64 ((n : Int) + 1), .int .i64 r', .int .i64 i] (0, 0) _ rfl (ret3 ((Fr.put (Fr.put (Fr.refl (fun j => j = w.heap.size) w6) (p := ⟨w.heap.size, 2, none⟩) (.inl rfl) _) (p := ⟨w.heap.size, 0, none⟩) (.inl rfl) _).blk HB6.out.2 (by omega)) _ _ _) Try.underlying61 rfl (by kernel_rfl)) rfl ?_
  have hsz7 := HF7.out.size
  have hO6 : ∀ j, O6 j → O j ∨ w5.heap.size ≤ j := fun j hj => by
    rcases hO6 j hj with q | q
    · exact (hO7 j q).imp id (fun q => by omega)
    · simp only [World.size_alloc, World.size_setCell] at q
      exact .inr (by omega)
  have hF9 := fr_two w6 w.heap.size (w.heap.size + 1 + 1) (.int .i64 i) (.int .i64 ((n : Int) + 1)) (.int .i64 ((n : Int) + 1)) (.int .i64 r') (.int .i64 i)
  have hA9 := HA6.out
  have e9 : (fun z => RW z + one r' z + one i z) = fun z => RW z + vx r' i z := by
    funext z
    unfold vx
    rw [hold_pos hi0, hold_pos hr7]
    omega
  rw [e9] at hA9
  have hA10 := hA9.move hF9 (fun k hk e => by
    rcases hO6 k hk with q | q
    · rcases e with e | e
      · exact HN.out k (by omega) q
      · exact HN.out k (by omega) q
    · try simp only [World.size_alloc] at q
      rcases e with e | e <;> omega)
  refine ⟨r', i, O6, _, _, rfl, hA10, by omega, VRep.leaf HV.out h0 HN2.out.2 HN2.out.1 (by rw [HLV.out]; exact HT7.out.same (fun _ => KeepR.same HK6.out hr7 (by have h1 : one r' r' = 1 := if_pos rfl; show 0 < RW r' + one r' r'; omega))) ⟨hi0, by rw [upd_eq], by rw [upd_eq]⟩, ((HKP.out.mono (fun j hj => by show 0 < RW j + vx r t j; omega)).trans HK7.out).trans (HK6.out.mono (fun j hj => by show 0 < RW j + one r' j; omega)), fun j hj => ?_, ?_⟩
  · refine (hO6 j hj).imp id (fun q => ?_)
    try simp only [World.size_alloc] at q
    omega
  · exact (((((((Fr.of_new HB.out).trans HF5.out).more (below_alloc (Below.refl _ _) (.cells #[.pointer (some ⟨a, 0, none⟩), .int .u32 o] 133))).more HD.out).more HBV.out).trans HF7.out).then_ HS7.out (fun j hj => .inr (by omega)) |>.more (below_alloc (Below.refl _ _) (.cells #[.int .u8 q, .int .i64 m, .string s] 66)) |>.then_ HF6.out (fun j hj => (hO7 j hj).imp id (fun q => by omega))).then_ hF9 (fun j hj => .inr (by rcases hj with e | e <;> omega))
end
end Go.Proofs.Ytnipbfhfaefieaa.Pv
/-! pvec: a value in a trunk is set, as a whole. -/
namespace Go.Proofs.Ytnipbfhfaefieaa.Pv
open Go.RowKit Go Go.Proofs.YtnipbfhfaefieaaW.PrintWords Go.Proofs.YtnipbfhfaefieaaW.PrintMore Go.Proofs.YtnipbfhfaefieaaW.PrintLast Go.Proofs.Ytnipbfhfaefieaa.Bts Go.Proofs.Ytnipbfhfaefieaa.Fra Go.Proofs.Ytnipbfhfaefieaa.ArnP Go.Proofs.Ytnipbfhfaefieaa.Arn Go.Proofs.Ytnipbfhfaefieaa.Ao
theorem oth_at {l : List Int} {i j : Nat} {k : Nat} (h : l[j]? = some (k : Int)) (hk : 0 < k) (hne : j ≠ i) : k ∈ kidsOf (oth l i) := by
  have hj := (List.getElem?_eq_some_iff.1 h).1
  have hm : (k : Int) ∈ oth l i := by
    unfold oth
    rw [List.mem_append]
    by_cases e : j < i
    · refine .inl (List.mem_iff_getElem?.2 ⟨j, ?_⟩)
      rw [List.getElem?_take_of_lt e]
      exact h
    · refine .inr (List.mem_iff_getElem?.2 ⟨j - (i + 1), ?_⟩)
      rw [List.getElem?_drop, show i + 1 + (j - (i + 1)) = j by omega]
      exact h
  have := mem_kidsOf hm (by omega)
  rwa [Int.toNat_natCast] at this
section
variable {O : Nat → Prop} {a : Nat} {f : Nat → Cell} {live most : Int} {ext rest : Nat → Nat}
theorem setT (o : Int) (m r i d : Nat) (g : Nat → List V3) (q n : Int) (s : ByteArray) (w : World) (h : AO w O a f live most (fun z => rest z + hold r z) nop) (hT : Trunk f m r g) (hd : i / 32 = d) (hdm : d < m) (hi : i % 32 < (g d).length) (hg : (g d).length ≤ 32) (hb : ∀ x, rest x ≤ 60000000000) (hil : i ≤ 1023) (hlm : live + 1 < most) :
    Calls Try.prog 83 #[workV a o, .int .i64 r, .int .i64 (lev m : Int), .int .i64 i, valV q n s] w fun e w' => ∃ (r' : Nat) (O' : Nat → Prop) (f' : Nat → Cell) (live' : Int), e = .returned (.int .i64 r') ∧ AO w' O' a f' live' most (fun z => rest z + one r' z) nop ∧ live' ≤ live + 2 ∧ 0 < r' ∧ Trunk f' m r' (fun j => if j = d then (g d).set (i % 32) (q, n, s) else g j) ∧ KeepR rest nop f f' ∧ (∀ j, O' j → O j ∨ w.heap.size ≤ j) ∧ Fr O w w' := by
  rcases hT with ⟨rfl, rfl⟩ | ⟨rfl, hR⟩ | ⟨h2, hr, hv, hkl, hk⟩
  · omega
  · have d0 : d = 0 := by omega
    subst d0
    rw [hold_pos hR.1] at h
    have e1 : lev 1 = 0 := rfl
    rw [e1]
    have hvv := hR.2.1
    refine (set0_calls o r i q n s w h hR.1 rfl (fun x => Nat.le_trans (hb x) (by decide)) (fun z hz => by cases hz) (by omega) (by rw [hvv]; exact hi) (by rw [hvv]; omega) (by omega)).mono ?_
    rintro e w' ⟨k', O', f', live', rfl, hA, hll, hf, _, hk0, _, hK, hO, hF⟩
    refine ⟨k', O', f', live', rfl, hA, by omega, hk0, .inr (.inl ⟨rfl, hk0, ?_, ?_⟩), hK, hO, hF⟩
    · rw [hf]
      show (f r).vals.set _ _ = if 0 = 0 then _ else _
      rw [if_pos rfl, hvv]
    · rw [hf]
      exact hR.2.2
  · rw [hold_pos hr] at h
    have e1 : lev m = 1 := by unfold lev; rw [if_neg (by omega)]
    rw [e1]
    have hkk := List.getElem?_eq_getElem (l := (f r).kids) (i := d) (by omega)
    obtain ⟨z, ez, hL⟩ := hk d _ hkk
    rw [ez] at hkk
    have hvz := hL.2.1
    refine (set1_calls o r i d z q n s w h hr rfl hb (fun z hz => by cases hz) hil hd (by omega) hkk hL.1 (by rw [hvz]; exact hi) (by rw [hvz]; omega) hlm).mono ?_
    rintro e w' ⟨k', O', f', live', z', rfl, hA, hll, hz', hf, hfz, hS, hk0, _, hK, hO, hF⟩
    refine ⟨k', O', f', live', rfl, hA, by omega, hk0, .inr (.inr ⟨h2, hk0, ?_, ?_, fun j y hy => ?_⟩), hK, hO, hF⟩
    · rw [hf]; exact hv
    · rw [hf]
      show ((f r).kids.set d _).length = m
      rw [List.length_set, hkl]
    · rw [hf] at hy
      have hy : ((f r).kids.set d (z' : Int))[j]? = some y := hy
      by_cases e : j = d
      · subst e
        rw [List.getElem?_set_self (by omega)] at hy
        have : (z' : Int) = y := Option.some.inj hy
        subst this
        refine ⟨z', rfl, hz', ?_, ?_⟩
        · rw [hfz]
          show (f z).vals.set _ _ = if j = j then _ else _
          rw [if_pos rfl, hvz]
        · rw [hfz]
          exact hL.2.2
      · rw [List.getElem?_set_ne (fun q => e q.symm)] at hy
        obtain ⟨k, rfl, hLk⟩ := hk j y hy
        refine ⟨k, rfl, ?_⟩
        show Leaf f' k (if j = d then _ else g j)
        rw [if_neg e]
        exact hLk.same (hS k (oth_at hy hLk.1 e))
end
/-- A value of a leaf is another. -/
theorem VRep.set_trunk {f f' : Nat → Cell} {n r t r' : Nat} {l : List V3} {x : V3} (h : VRep f n r t l) (i : Nat) (hi : i < n) (hd : i / 32 < lvs n) (hs : 0 < t → Same f f' t) (hR : Trunk f' (lvs n) r' (fun j => if j = i / 32 then (leafs l (i / 32)).set (i % 32) x else leafs l j)) : VRep f' n r' t (l.set i x) := by
  obtain ⟨h1, h2, h3⟩ := h
  rcases h3 with ⟨q, _⟩ | ⟨h0, hT, _⟩
  · omega
  have hl2 : 32 * lvs n < n := by unfold lvs; omega
  have hi2 : i < 32 * lvs n := by omega
  refine ⟨by rw [List.length_set]; exact h1, h2, .inr ⟨h0, ?_, ?_⟩⟩
  · have e1 : (l.set i x).drop (32 * lvs n) = l.drop (32 * lvs n) := List.drop_set_of_lt hi2
    rw [e1]
    exact hT.same (hs hT.1)
  · refine hR.congr (fun j hj => ?_)
    show (if j = i / 32 then (leafs l (i / 32)).set (i % 32) x else leafs l j) = leafs (l.set i x) j
    apply List.ext_getElem?
    intro k
    have e2 : ∀ y : List V3, (leafs y j)[k]? = if k < 32 then y[32 * j + k]? else none := fun y => by
      unfold leafs
      rw [List.getElem?_take, List.getElem?_drop]
    have e3 : ∀ y : List V3, (leafs y (i / 32))[k]? = if k < 32 then y[32 * (i / 32) + k]? else none := fun y => by
      unfold leafs
      rw [List.getElem?_take, List.getElem?_drop]
    rw [e2]
    by_cases e : j = i / 32
    · subst e
      rw [if_pos rfl, List.getElem?_set]
      have hll : (leafs l (i / 32)).length = 32 := by
        unfold leafs
        rw [List.length_take, List.length_drop]
        omega
      by_cases ek : i % 32 = k
      · rw [if_pos ek, hll, if_pos (by omega), if_pos (by omega), List.getElem?_set, if_pos (by omega), if_pos (by omega)]
      · rw [if_neg ek, e3, List.getElem?_set_ne (by omega)]
    · rw [if_neg e, e2]
      by_cases hk : k < 32
      · rw [if_pos hk, if_pos hk, List.getElem?_set_ne (by omega)]
      · rw [if_neg hk, if_neg hk]
/-- A value of the tail is another. -/
theorem VRep.set_tail {f f' : Nat → Cell} {n r t t' : Nat} {l : List V3} {x : V3} (h : VRep f n r t l) (i : Nat) (hi : i < n) (hd : lvs n ≤ i / 32) (hs : 0 < r → Same f f' r) (hL : Leaf f' t' ((l.drop (32 * lvs n)).set (i % 32) x)) : VRep f' n r t' (l.set i x) := by
  obtain ⟨h1, h2, h3⟩ := h
  rcases h3 with ⟨q, _⟩ | ⟨h0, hT, hR⟩
  · omega
  have hl2 : 32 * lvs n < n := by unfold lvs; omega
  have hi2 : i / 32 = lvs n := by unfold lvs at hd ⊢; omega
  refine ⟨by rw [List.length_set]; exact h1, h2, .inr ⟨h0, ?_, ?_⟩⟩
  · have e1 : (l.set i x).drop (32 * lvs n) = (l.drop (32 * lvs n)).set (i % 32) x := by
      rw [List.drop_set, if_neg (by omega)]
      congr 1
      omega
    rw [e1]
    exact hL
  · refine (hR.same hs).congr (fun j hj => ?_)
    unfold leafs
    apply List.ext_getElem?
    intro k
    rw [List.getElem?_take, List.getElem?_take, List.getElem?_drop, List.getElem?_drop]
    by_cases hk : k < 32
    · rw [if_pos hk, if_pos hk, List.getElem?_set_ne (by omega)]
    · rw [if_neg hk, if_neg hk]
end Go.Proofs.Ytnipbfhfaefieaa.Pv
/-! pvec: a value of a vector is set. -/
namespace Go.Proofs.Ytnipbfhfaefieaa.Pv
open Go.RowKit Go Go.Proofs.YtnipbfhfaefieaaW.PrintWords Go.Proofs.YtnipbfhfaefieaaW.PrintMore Go.Proofs.YtnipbfhfaefieaaW.PrintLast Go.Proofs.Ytnipbfhfaefieaa.Bts Go.Proofs.Ytnipbfhfaefieaa.Fra Go.Proofs.Ytnipbfhfaefieaa.ArnP Go.Proofs.Ytnipbfhfaefieaa.Arn Go.Proofs.Ytnipbfhfaefieaa.Ao
section
variable {O : Nat → Prop} {a : Nat} {f : Nat → Cell} {live most : Int} {ext rest : Nat → Nat}
theorem fr_set (w : World) (b c k : Nat) (x u v z : Value) : Fr (fun j => j = b ∨ j = c) w ((((w.setCell ⟨b, k, none⟩ x).setCell ⟨c, 0, none⟩ u).setCell ⟨c, 1, none⟩ v).setCell ⟨c, 2, none⟩ z) :=
  Fr.put (Fr.put (Fr.put (Fr.put (Fr.refl _ w) (p := ⟨b, k, none⟩) (.inl (.inl rfl)) x) (p := ⟨c, 0, none⟩) (.inl (.inr rfl)) u) (p := ⟨c, 1, none⟩) (.inl (.inr rfl)) v) (p := ⟨c, 2, none⟩) (.inl (.inr rfl)) z
set_option maxHeartbeats 4000000 in
set_option maxRecDepth 100000 in
theorem set_tail (o : Int) (n r t i : Nat) (l : List V3) (q m : Int) (s : ByteArray) (w : World) (h : AO w O a f live most (fun z => rest z + vx r t z) nop) (hv : VRep f n r t l) (hi : i < n) (hd : lvs n ≤ i / 32) (he : ∀ x, rest x ≤ 50000000000) (hful : ¬ most - live < (lev (lvs n + 1) : Int) + 3) :
    Calls Try.prog 35 #[.pointer (some ⟨a, 0, none⟩), vecV n r t, .int .i64 i, valV q m s, .int .u32 o] w fun e w' => ∃ (r' t' : Nat) (O' : Nat → Prop) (f' : Nat → Cell) (live' : Int), e = .returned (.tuple #[vecV n r' t', .int .i64 0]) ∧ AO w' O' a f' live' most (fun z => RR rest o r t z + vx r' t' z) nop ∧ live' ≤ live + 2 ∧ VRep f' n r' t' (l.set i (q, m, s)) ∧ KeepR (RR rest o r t) nop f f' ∧ (∀ j, O' j → O j ∨ w.heap.size ≤ j) ∧ Fr O w w' := by
  have hlt := h.lt
  have hv' := hv
  obtain ⟨hl, hn, hv2⟩ := hv'
  rcases hv2 with ⟨q0, _⟩ | ⟨_, hT, hR⟩
  · omega
  have hbx := below_alloc (below_alloc (below_alloc (Below.refl w.heap.size w) (.cells #[.int .i64 n, .int .i64 r, .int .i64 t] 61)) (.cells #[.int .u8 q, .int .i64 m, .string s] 66)) (.cells #[.int .i64 0, .int .i64 0, .int .i64 0] 61)
  have hk0 := blk_alloc (blk_alloc (blk_new w (.cells #[.int .i64 n, .int .i64 r, .int .i64 t] 61)) (.cells #[.int .u8 q, .int .i64 m, .string s] 66)) (.cells #[.int .i64 0, .int .i64 0, .int .i64 0] 61)
  have hk1 := blk_alloc (new1 w (.cells #[.int .i64 n, .int .i64 r, .int .i64 t] 61) (.cells #[.int .u8 q, .int .i64 m, .string s] 66)) (.cells #[.int .i64 0, .int .i64 0, .int .i64 0] 61)
  have hk2 := new2 w (.cells #[.int .i64 n, .int .i64 r, .int .i64 t] 61) (.cells #[.int .u8 q, .int .i64 m, .string s] 66) (.cells #[.int .i64 0, .int .i64 0, .int .i64 0] 61)
  have hbg := begin_ok o n r t _ (h.below hbx) hn he hful
  have hlc := leaves_calls n (r : Int) (t : Int) hn
  have hlm : live + 2 < most := by omega
  obtain ⟨d, hdd⟩ : ∃ d, i / 32 = d := ⟨_, rfl⟩
  have hkd : (i : Int).tdiv 32 = (d : Int) := by rw [Int.tdiv_eq_ediv_of_nonneg (by omega)]; omega
  have hkd2 : (i : Int) / 32 = (d : Int) := by omega
  have hge : ¬ (n : Int) ≤ (i : Int) := by omega
  have hneg : ¬ (i : Int) < 0 := by omega
  have hi9 : (i : Int) ≤ 1023 := by omega
  have ht0 := hT.1
  obtain ⟨RW, hRW⟩ : ∃ RW, RR rest o r t = RW := ⟨_, rfl⟩
  have hrw : ∀ x, RW x ≤ 60000000000 - 2 := fun x => by rw [← hRW]; have := RR_le (o := o) (r := r) (t := t) he x; omega
  have hvl : (f t).vals.length ≤ 32 := by
    rw [hT.2.1, List.length_drop]
    unfold lvs
    omega
  have hvi : lvs n ≤ d → i % 32 < (f t).vals.length := fun hq => by
    rw [hT.2.1, List.length_drop]
    unfold lvs at hq ⊢
    omega
  have hgl : (leafs l d).length ≤ 32 := leafs_len l d
  have hgi : d < lvs n → i % 32 < (leafs l d).length := fun hq => by
    have : (leafs l d)[i % 32]? = l[i]? := by rw [← hdd]; exact leafs_get l i
    rw [List.getElem?_eq_getElem (show i < l.length by omega)] at this
    exact (List.getElem?_eq_some_iff.1 this).1
  have hm31 : lvs n ≤ 31 := by unfold lvs; omega
  rw [hRW] at hbg ⊢
  rw [hdd] at hd
  obtain ⟨lv, hlv⟩ : ∃ lv, lvs n = lv := ⟨_, rfl⟩
  rw [hlv] at hlc hT hR hd hvi hgi hm31
  have HLC := Lib.hid hlc
  have HBG := Lib.hid hbg
  have HB := Lib.hid hbx
  have HK := Lib.hid (And.intro hk0 (And.intro hk1 hk2))
  have HN := Lib.hid (show ∀ j, w.heap.size ≤ j → ¬ O j from fun j hj e => by have := hlt j e; omega)
  have HV := Lib.hid hv
  have HT := Lib.hid hT
  have HRT := Lib.hid hR
  have HLV := Lib.hid hlv
  have HRW := Lib.hid hrw
  have HL := Lib.hid hl
  have HI := Lib.hid (And.intro hi (And.intro hn (And.intro hdd hd)))
  have HVL := Lib.hid (And.intro hvl (And.intro hvi (And.intro hgl hgi)))
  clear h hbx hk0 hk1 hk2 hbg hlt hv hT hR hful he hl hlc hlv hRW hrw hi hn hdd hd hvl hvi hgl hgi
  have hle : (lv : Int) ≤ (d : Int) := by have := HI.out.2.2.2; omega
  go_enter Try.func35, Try.ntmps35
  go_wp2_with (first
    | (go_at_call 83; go_loud (refine (set0_calls (rest := fun z => RW z + hold r z) o t i q m s _ HA4.out ht0 rfl (fun x => by have := HRW.out x; have := hold_le r x; omega) (fun z hz => by cases hz) (by omega) (by rw [HO5.out t]; exact HVL.out.2.1 HI.out.2.2.2) (by rw [HO5.out t]; exact Nat.le_trans HVL.out.1 (by decide)) (by omega)).mono ?_; rintro e w6 ⟨t', O6, f6, live6, rfl, hA6, hll6, hf6, _, ht6, _, hK6, hO6, hF6⟩; have HA6 := Lib.hid hA6; have HF6 := Lib.hid hF6; have HFT := Lib.hid hf6; have HK6 := Lib.hid hK6; have b0 := hF6.blk HK4.out.1 (HN.out _ (by omega)); have b2 := hF6.blk HK4.out.2.2.1 (HN.out _ (by omega)); have u0 := blk_cell b0 0; have u1 := blk_cell b0 1; have u2 := blk_cell b0 2; have y0 := blk_frozen b0 0; have y1 := blk_frozen b0 1; have y2 := blk_frozen b0 2; have v0 := blk_cell b2 0; have v1 := blk_cell b2 1; have v2 := blk_cell b2 2; have z0 := blk_frozen b2 0; have z1 := blk_frozen b2 1; have z2 := blk_frozen b2 2; have HB6 := Lib.hid (And.intro b0 b2); clear b0 b2 hA6 hf6 hK6 hF6))
    | (go_at_call 81; go_loud (refine (HLC.out _).mono ?_; rintro e w4 ⟨rfl, hB4⟩; have HA4 := Lib.hid (HA5.out.below hB4); have c0 := blk_below HK5.out.1 hB4; have c1 := blk_below HK5.out.2.1 hB4; have c2 := blk_below HK5.out.2.2.1 hB4; have c3 := blk_below HK5.out.2.2.2 hB4; have s0 := blk_cell c0 0; have s1 := blk_cell c0 1; have s2 := blk_cell c0 2; have p0 := blk_cell c1 0; have p1 := blk_cell c1 1; have p2 := blk_cell c1 2; have k0 := blk_cell c3 0; have k1 := blk_cell c3 1; have HK4 := Lib.hid (And.intro c0 (And.intro c1 (And.intro c2 c3))); have HB4 := Lib.hid hB4; clear c0 c1 c2 c3 hB4))
    | (go_at_call 77; go_loud (refine HBG.out.mono ?_; rintro e w5 ⟨rfl, f5, hA5, hO5, hk5, hF5⟩; have HKP := Lib.hid hk5; clear hk5; have hA5 := hA5.below (below_alloc (Below.refl _ _) (.cells #[.pointer (some ⟨a, 0, none⟩), .int .u32 o] 133)); rw [vx_split _ r ht0] at hA5; have HA5 := Lib.hid hA5; have HO5 := Lib.hid hO5; have HF5 := Lib.hid hF5; have b0 := hF5.blk HK.out.1 (HN.out _ (by omega)); have b1 := hF5.blk HK.out.2.1 (HN.out _ (by omega)); have b2 := hF5.blk HK.out.2.2 (HN.out _ (by omega)); have c0 := blk_alloc b0 (.cells #[.pointer (some ⟨a, 0, none⟩), .int .u32 o] 133); have c1 := blk_alloc b1 (.cells #[.pointer (some ⟨a, 0, none⟩), .int .u32 o] 133); have c2 := blk_alloc b2 (.cells #[.pointer (some ⟨a, 0, none⟩), .int .u32 o] 133); have c3 := blk_new w5 (.cells #[.pointer (some ⟨a, 0, none⟩), .int .u32 o] 133); have s0 := blk_cell c0 0; have s1 := blk_cell c0 1; have s2 := blk_cell c0 2; have p0 := blk_cell c1 0; have p1 := blk_cell c1 1; have p2 := blk_cell c1 2; have k0 := blk_cell c3 0; have k1 := blk_cell c3 1; have HK5 := Lib.hid (And.intro c0 (And.intro c1 (And.intro c2 c3))); clear b0 b1 b2 c0 c1 c2 c3 hA5 hO5 hF5)))
  refine bodyPost_ret (results_ct rfl _ _ (w.heap.size + 1 + 1) 61 #[.int .i64 n, .int .i64 r, .int .i64 t'] (0, 0) _ rfl (ret3 ((Fr.put (Fr.refl (fun j => j = w.heap.size) w6) (p := ⟨w.heap.size, 2, none⟩) (.inl rfl) _).blk HB6.out.2 (by omega)) _ _ _) Try.underlying61 rfl (by kernel_rfl)) rfl ?_
  have hsw := HF5.out.size
  have hsb := HB.out.size
  have hs4 := HB4.out.size
  simp only [World.size_alloc] at hsw hsb hs4
  have hF9 := fr_set w6 w.heap.size (w.heap.size + 1 + 1) 2 (.int .i64 t') (.int .i64 n) (.int .i64 r) (.int .i64 t')
  have hA9 := HA6.out
  rw [← vx_split _ r ht6] at hA9
  have hA10 := hA9.move hF9 (fun k hk e => by
    rcases hO6 k hk with q | q
    · rcases e with e | e
      · exact HN.out k (by omega) q
      · exact HN.out k (by omega) q
    · try simp only [World.size_alloc] at q
      rcases e with e | e <;> omega)
  refine ⟨r, t', O6, f6, live6, rfl, hA10, by omega, VRep.set_tail HV.out i HI.out.1 (by rw [HLV.out, HI.out.2.2.1]; exact HI.out.2.2.2) (fun hr => (KeepR.same HKP.out hr (by have := vx_r (t := t) hr; show 0 < RW r + vx r t r; omega)).trans (KeepR.same HK6.out hr (by have h2 : hold r r = 1 := (by rw [hold_pos hr]; exact if_pos rfl); show 0 < RW r + hold r r; omega))) ⟨ht6, by rw [HFT.out, HO5.out t]; show (f t).vals.set _ _ = _; rw [HT.out.2.1, HLV.out], by rw [HFT.out, HO5.out t]; exact HT.out.2.2⟩, (HKP.out.mono (fun j hj => by show 0 < RW j + vx r t j; omega)).trans (HK6.out.mono (fun j hj => by show 0 < RW j + hold r j; omega)), fun j hj => ?_, ?_⟩
  · refine (hO6 j hj).imp id (fun q => ?_)
    try simp only [World.size_alloc] at q
    omega
  · exact (((((Fr.of_new HB.out).trans HF5.out).more (below_alloc (Below.refl _ _) (.cells #[.pointer (some ⟨a, 0, none⟩), .int .u32 o] 133))).more HB4.out).trans HF6.out).then_ hF9 (fun j hj => .inr (by rcases hj with e | e <;> omega))
set_option maxHeartbeats 4000000 in
set_option maxRecDepth 100000 in
theorem set_trunk (o : Int) (n r t i : Nat) (l : List V3) (q m : Int) (s : ByteArray) (w : World) (h : AO w O a f live most (fun z => rest z + vx r t z) nop) (hv : VRep f n r t l) (hi : i < n) (hd : i / 32 < lvs n) (he : ∀ x, rest x ≤ 50000000000) (hful : ¬ most - live < (lev (lvs n + 1) : Int) + 3) :
    Calls Try.prog 35 #[.pointer (some ⟨a, 0, none⟩), vecV n r t, .int .i64 i, valV q m s, .int .u32 o] w fun e w' => ∃ (r' t' : Nat) (O' : Nat → Prop) (f' : Nat → Cell) (live' : Int), e = .returned (.tuple #[vecV n r' t', .int .i64 0]) ∧ AO w' O' a f' live' most (fun z => RR rest o r t z + vx r' t' z) nop ∧ live' ≤ live + 2 ∧ VRep f' n r' t' (l.set i (q, m, s)) ∧ KeepR (RR rest o r t) nop f f' ∧ (∀ j, O' j → O j ∨ w.heap.size ≤ j) ∧ Fr O w w' := by
  have hlt := h.lt
  have hv' := hv
  obtain ⟨hl, hn, hv2⟩ := hv'
  rcases hv2 with ⟨q0, _⟩ | ⟨_, hT, hR⟩
  · omega
  have hbx := below_alloc (below_alloc (below_alloc (Below.refl w.heap.size w) (.cells #[.int .i64 n, .int .i64 r, .int .i64 t] 61)) (.cells #[.int .u8 q, .int .i64 m, .string s] 66)) (.cells #[.int .i64 0, .int .i64 0, .int .i64 0] 61)
  have hk0 := blk_alloc (blk_alloc (blk_new w (.cells #[.int .i64 n, .int .i64 r, .int .i64 t] 61)) (.cells #[.int .u8 q, .int .i64 m, .string s] 66)) (.cells #[.int .i64 0, .int .i64 0, .int .i64 0] 61)
  have hk1 := blk_alloc (new1 w (.cells #[.int .i64 n, .int .i64 r, .int .i64 t] 61) (.cells #[.int .u8 q, .int .i64 m, .string s] 66)) (.cells #[.int .i64 0, .int .i64 0, .int .i64 0] 61)
  have hk2 := new2 w (.cells #[.int .i64 n, .int .i64 r, .int .i64 t] 61) (.cells #[.int .u8 q, .int .i64 m, .string s] 66) (.cells #[.int .i64 0, .int .i64 0, .int .i64 0] 61)
  have hbg := begin_ok o n r t _ (h.below hbx) hn he hful
  have hlc := leaves_calls n (r : Int) (t : Int) hn
  have hlm : live + 2 < most := by omega
  obtain ⟨d, hdd⟩ : ∃ d, i / 32 = d := ⟨_, rfl⟩
  have hkd : (i : Int).tdiv 32 = (d : Int) := by rw [Int.tdiv_eq_ediv_of_nonneg (by omega)]; omega
  have hkd2 : (i : Int) / 32 = (d : Int) := by omega
  have hge : ¬ (n : Int) ≤ (i : Int) := by omega
  have hneg : ¬ (i : Int) < 0 := by omega
  have hi9 : (i : Int) ≤ 1023 := by omega
  have ht0 := hT.1
  obtain ⟨RW, hRW⟩ : ∃ RW, RR rest o r t = RW := ⟨_, rfl⟩
  have hrw : ∀ x, RW x ≤ 60000000000 - 2 := fun x => by rw [← hRW]; have := RR_le (o := o) (r := r) (t := t) he x; omega
  have hvl : (f t).vals.length ≤ 32 := by
    rw [hT.2.1, List.length_drop]
    unfold lvs
    omega
  have hvi : lvs n ≤ d → i % 32 < (f t).vals.length := fun hq => by
    rw [hT.2.1, List.length_drop]
    unfold lvs at hq ⊢
    omega
  have hgl : (leafs l d).length ≤ 32 := leafs_len l d
  have hgi : d < lvs n → i % 32 < (leafs l d).length := fun hq => by
    have : (leafs l d)[i % 32]? = l[i]? := by rw [← hdd]; exact leafs_get l i
    rw [List.getElem?_eq_getElem (show i < l.length by omega)] at this
    exact (List.getElem?_eq_some_iff.1 this).1
  have hm31 : lvs n ≤ 31 := by unfold lvs; omega
  rw [hRW] at hbg ⊢
  rw [hdd] at hd
  obtain ⟨lv, hlv⟩ : ∃ lv, lvs n = lv := ⟨_, rfl⟩
  rw [hlv] at hlc hT hR hd hvi hgi hm31
  have HLC := Lib.hid hlc
  have HBG := Lib.hid hbg
  have HB := Lib.hid hbx
  have HK := Lib.hid (And.intro hk0 (And.intro hk1 hk2))
  have HN := Lib.hid (show ∀ j, w.heap.size ≤ j → ¬ O j from fun j hj e => by have := hlt j e; omega)
  have HV := Lib.hid hv
  have HT := Lib.hid hT
  have HRT := Lib.hid hR
  have HLV := Lib.hid hlv
  have HRW := Lib.hid hrw
  have HL := Lib.hid hl
  have HI := Lib.hid (And.intro hi (And.intro hn (And.intro hdd hd)))
  have HVL := Lib.hid (And.intro hvl (And.intro hvi (And.intro hgl hgi)))
  clear h hbx hk0 hk1 hk2 hbg hlt hv hT hR hful he hl hlc hlv hRW hrw hi hn hdd hd hvl hvi hgl hgi
  have hle : ¬ (lv : Int) ≤ (d : Int) := by have := HI.out.2.2.2; omega
  have hlev : ∀ w, Calls Try.prog 62 #[.int .i64 lv] w fun e w' => e = .returned (.int .i64 (lev lv : Int)) ∧ w' = w := fun w => levels_calls lv (by omega) w
  have HLE := Lib.hid hlev
  clear hlev
  go_enter Try.func35, Try.ntmps35
  go_wp2_with (first
    | (go_at_call 81; go_loud (refine (HLC.out _).mono ?_; rintro e w4 ⟨rfl, hB4⟩; have HA4 := Lib.hid (HA5.out.below hB4); have c0 := blk_below HK5.out.1 hB4; have c1 := blk_below HK5.out.2.1 hB4; have c2 := blk_below HK5.out.2.2.1 hB4; have c3 := blk_below HK5.out.2.2.2 hB4; have s0 := blk_cell c0 0; have s1 := blk_cell c0 1; have s2 := blk_cell c0 2; have p0 := blk_cell c1 0; have p1 := blk_cell c1 1; have p2 := blk_cell c1 2; have k0 := blk_cell c3 0; have k1 := blk_cell c3 1; have HK4 := Lib.hid (And.intro c0 (And.intro c1 (And.intro c2 c3))); have HB4 := Lib.hid hB4; clear c0 c1 c2 c3 hB4))
    | (go_at_call 77; go_loud (refine HBG.out.mono ?_; rintro e w5 ⟨rfl, f5, hA5, hO5, hk5, hF5⟩; have HKP := Lib.hid hk5; clear hk5; have hA5 := hA5.below (below_alloc (Below.refl _ _) (.cells #[.pointer (some ⟨a, 0, none⟩), .int .u32 o] 133)); have HA5 := Lib.hid hA5; have HO5 := Lib.hid hO5; have HF5 := Lib.hid hF5; have b0 := hF5.blk HK.out.1 (HN.out _ (by omega)); have b1 := hF5.blk HK.out.2.1 (HN.out _ (by omega)); have b2 := hF5.blk HK.out.2.2 (HN.out _ (by omega)); have c0 := blk_alloc b0 (.cells #[.pointer (some ⟨a, 0, none⟩), .int .u32 o] 133); have c1 := blk_alloc b1 (.cells #[.pointer (some ⟨a, 0, none⟩), .int .u32 o] 133); have c2 := blk_alloc b2 (.cells #[.pointer (some ⟨a, 0, none⟩), .int .u32 o] 133); have c3 := blk_new w5 (.cells #[.pointer (some ⟨a, 0, none⟩), .int .u32 o] 133); have s0 := blk_cell c0 0; have s1 := blk_cell c0 1; have s2 := blk_cell c0 2; have p0 := blk_cell c1 0; have p1 := blk_cell c1 1; have p2 := blk_cell c1 2; have k0 := blk_cell c3 0; have k1 := blk_cell c3 1; have HK5 := Lib.hid (And.intro c0 (And.intro c1 (And.intro c2 c3))); clear b0 b1 b2 c0 c1 c2 c3 hA5 hO5 hF5)))
  obtain ⟨V, hV⟩ : ∃ V, w4.drew = V := ⟨_, rfl⟩
  have hd : Below w4.heap.size w4 V := by rw [← hV]; exact below_drew1 (Below.refl _ _)
  have d0 := blk_below HK4.out.1 hd
  have d1 := blk_below HK4.out.2.1 hd
  have d2 := blk_below HK4.out.2.2.1 hd
  have d3 := blk_below HK4.out.2.2.2 hd
  have a0 := blk_cell d0 0
  have a1 := blk_cell d0 1
  have a2 := blk_cell d0 2
  have b0 := blk_cell d1 0
  have b1 := blk_cell d1 1
  have b2 := blk_cell d1 2
  have e0 := blk_cell d3 0
  have e1 := blk_cell d3 1
  have HAV := Lib.hid (HA4.out.below hd)
  have HKV := Lib.hid (And.intro d0 (And.intro d1 (And.intro d2 d3)))
  have HD := Lib.hid hd
  have hsw := HF5.out.size
  have hsb := HB.out.size
  have hs4 := HB4.out.size
  have hsd := hd.size
  simp only [World.size_alloc] at hsw hsb hs4 hsd
  clear d0 d1 d2 d3 hd s0 s1 s2 p0 p1 p2 k0 k1
  refine start_ (n := 11) (S := fun w' => w'.cell? ⟨w.heap.size, 0, none⟩ = some (.int .i64 (n : Int)) ∧ w'.cell? ⟨w.heap.size, 1, none⟩ = some (.int .i64 (r : Int)) ∧ w'.cell? ⟨w.heap.size, 2, none⟩ = some (.int .i64 (t : Int)) ∧ w'.cell? ⟨w.heap.size + 1, 0, none⟩ = some (.int .u8 q) ∧ w'.cell? ⟨w.heap.size + 1, 1, none⟩ = some (.int .i64 m) ∧ w'.cell? ⟨w.heap.size + 1, 2, none⟩ = some (.string s) ∧ w'.cell? ⟨w5.heap.size, 0, none⟩ = some (.pointer (some ⟨a, 0, none⟩)) ∧ w'.cell? ⟨w5.heap.size, 1, none⟩ = some (.int .u32 o)) (ds := [10]) #[false, false, false, false, false, false, false, false, false, false, false] (by kernel_rfl) rfl rfl ⟨(by rw [hV]; exact a0), (by rw [hV]; exact a1), (by rw [hV]; exact a2), (by rw [hV]; exact b0), (by rw [hV]; exact b1), (by rw [hV]; exact b2), (by rw [hV]; exact e0), (by rw [hV]; exact e1)⟩ (fun hHeld => ?_)
  refine pure_ (i := 1) (N := some 47) (v := ?_) (a' := ?_) #[false, true, false, false, false, false, false, false, false, false, false] rfl rfl (by kernel_rfl) (fun _ _ _ h => h) (Or.inl ⟨by rfl, ?_⟩) ?_ ?_
  rotate_left
  · intro w'
    go_simp
    with_reducible rfl
  rotate_left
  · simp only [Act.put, List.setIfInBounds_toArray, List.set_cons_zero, List.set_cons_succ, i64_w, i32_w]
    rfl
  refine pure_ (i := 6) (N := some 52) (v := ?_) (a' := ?_) #[false, true, false, false, false, false, true, false, false, false, false] rfl rfl (by kernel_rfl) (fun _ _ _ h => h) (Or.inl ⟨by rfl, ?_⟩) ?_ ?_
  rotate_left
  · intro w'
    go_simp
    with_reducible rfl
  rotate_left
  · simp only [Act.put, List.setIfInBounds_toArray, List.set_cons_zero, List.set_cons_succ, i64_w, i32_w]
    rfl
  refine take_ (i := 0) (N := some 46) (v := ?_) (a' := ?_) #[true, true, false, false, false, false, true, false, false, false, false] rfl rfl (by kernel_rfl) (fun _ _ _ h => h) (Or.inl ⟨by rfl, ?_⟩) hHeld ?_ ?_
  rotate_left
  · rintro w' ⟨s0, s1, s2, s3, s4, s5, s6, s7⟩
    go_simp
    with_reducible rfl
  rotate_left
  · simp only [Act.put, List.setIfInBounds_toArray, List.set_cons_zero, List.set_cons_succ, i64_w, i32_w]
    rfl
  refine take_ (i := 2) (N := some 48) (v := ?_) (a' := ?_) #[true, true, true, false, false, false, true, false, false, false, false] rfl rfl (by kernel_rfl) (fun _ _ _ h => h) (Or.inl ⟨by rfl, ?_⟩) hHeld ?_ ?_
  rotate_left
  · rintro w' ⟨s0, s1, s2, s3, s4, s5, s6, s7⟩
    go_simp
    with_reducible rfl
  rotate_left
  · simp only [Act.put, List.setIfInBounds_toArray, List.set_cons_zero, List.set_cons_succ, i64_w, i32_w]
    rfl
  refine take_ (i := 3) (N := some 49) (v := ?_) (a' := ?_) #[true, true, true, true, false, false, true, false, false, false, false] rfl rfl (by kernel_rfl) (fun _ _ _ h => h) (Or.inl ⟨by rfl, ?_⟩) hHeld ?_ ?_
  rotate_left
  · rintro w' ⟨s0, s1, s2, s3, s4, s5, s6, s7⟩
    go_simp
    with_reducible rfl
  rotate_left
  · simp only [Act.put, List.setIfInBounds_toArray, List.set_cons_zero, List.set_cons_succ, i64_w, i32_w]
    rfl
  refine take_ (i := 7) (N := some 53) (v := ?_) (a' := ?_) #[true, true, true, true, false, false, true, true, false, false, false] rfl rfl (by kernel_rfl) (fun _ _ _ h => h) (Or.inl ⟨by rfl, ?_⟩) hHeld ?_ ?_
  rotate_left
  · rintro w' ⟨s0, s1, s2, s3, s4, s5, s6, s7⟩
    go_simp
    with_reducible rfl
  rotate_left
  · simp only [Act.put, List.setIfInBounds_toArray, List.set_cons_zero, List.set_cons_succ, i64_w, i32_w]
    rfl
  refine one_ (i := 4) (N := some 50) #[true, true, true, true, true, false, true, true, false, false, false] rfl rfl (by kernel_rfl) (by decide) (fun K hK => ?_)
  refine goes_ Try.func81 (by kernel_rfl) rfl #[vecV n r t] (by rfl) rfl rfl (by simp only [List.map_toArray, List.map_cons, List.map_nil]; rfl) ?_
  with_reducible refine (HLC.out _).mono ?_
  rintro e w7 ⟨rfl, hB7⟩
  refine ⟨_, rfl, ?_⟩
  have hB7 : Below V.heap.size V w7 := hV ▸ hB7
  have HB7 := Lib.hid hB7
  have HA7 := Lib.hid (HAV.out.below hB7)
  refine hK.out _ _ ⟨(blk_cell (blk_below HKV.out.1 HB7.out) 0), (blk_cell (blk_below HKV.out.1 HB7.out) 1), (blk_cell (blk_below HKV.out.1 HB7.out) 2), (blk_cell (blk_below HKV.out.2.1 HB7.out) 0), (blk_cell (blk_below HKV.out.2.1 HB7.out) 1), (blk_cell (blk_below HKV.out.2.1 HB7.out) 2), (blk_cell (blk_below HKV.out.2.2.2 HB7.out) 0), (blk_cell (blk_below HKV.out.2.2.2 HB7.out) 1)⟩ (fun hHeld => ?_)
  clear hK K
  refine norm_ (a' := ?_) ?_ ?_
  rotate_left
  · show Act.put _ (some 50) _ = _
    simp only [Act.put, List.setIfInBounds_toArray, List.set_cons_zero, List.set_cons_succ, i64_w, i32_w]
    rfl
  refine one_ (i := 5) (N := some 51) #[true, true, true, true, true, true, true, true, false, false, false] rfl rfl (by kernel_rfl) (by decide) (fun K hK => ?_)
  refine goes_ Try.func62 (by kernel_rfl) rfl #[.int .i64 lv] (by rfl) rfl rfl (by simp only [List.map_toArray, List.map_cons, List.map_nil]; rfl) ?_
  with_reducible refine (HLE.out _).mono ?_
  rintro e w8 ⟨rfl, hw8⟩
  refine ⟨_, rfl, ?_⟩
  subst hw8
  refine hK.out _ _ ⟨(blk_cell (blk_below HKV.out.1 HB7.out) 0), (blk_cell (blk_below HKV.out.1 HB7.out) 1), (blk_cell (blk_below HKV.out.1 HB7.out) 2), (blk_cell (blk_below HKV.out.2.1 HB7.out) 0), (blk_cell (blk_below HKV.out.2.1 HB7.out) 1), (blk_cell (blk_below HKV.out.2.1 HB7.out) 2), (blk_cell (blk_below HKV.out.2.2.2 HB7.out) 0), (blk_cell (blk_below HKV.out.2.2.2 HB7.out) 1)⟩ (fun hHeld => ?_)
  clear hK K
  refine norm_ (a' := ?_) ?_ ?_
  rotate_left
  · show Act.put _ (some 51) _ = _
    simp only [Act.put, List.setIfInBounds_toArray, List.set_cons_zero, List.set_cons_succ, i64_w, i32_w]
    rfl
  refine one_ (i := 8) (N := some 54) #[true, true, true, true, true, true, true, true, true, false, false] rfl rfl (by kernel_rfl) (by decide) (fun K hK => ?_)
  refine goes_ Try.func83 (by kernel_rfl) rfl #[workV a o, .int .i64 r, .int .i64 (lev lv : Int), .int .i64 i, valV q m s] (by rfl) rfl rfl (by simp only [List.map_toArray, List.map_cons, List.map_nil]; rfl) ?_
  with_reducible refine (setT (rest := fun z => RW z + hold t z) o lv r i d (leafs l) q m s _ (by rw [show (fun z => RW z + hold t z + hold r z) = fun z => RW z + vx r t z from by funext z; unfold vx; omega]; exact HA7.out) (HRT.out.same (fun hr => KeepR.same HKP.out hr (by have := vx_r (t := t) hr; show 0 < RW r + vx r t r; omega))) HI.out.2.2.1 HI.out.2.2.2 (HVL.out.2.2.2 HI.out.2.2.2) HVL.out.2.2.1 (fun x => by have := HRW.out x; have := hold_le t x; omega) (by omega) (by omega)).mono ?_
  rintro e w6 ⟨r', O6, f6, live6, rfl, hA6, hll6, hr6, hT6, hK6, hO6, hF6⟩
  refine ⟨_, rfl, ?_⟩
  have HA6 := Lib.hid hA6
  have HT6 := Lib.hid hT6
  have HK6 := Lib.hid hK6
  have HF6 := Lib.hid hF6
  have b0 := hF6.blk (blk_below HKV.out.1 HB7.out) (HN.out _ (by omega))
  have b1 := hF6.blk (blk_below HKV.out.2.1 HB7.out) (HN.out _ (by omega))
  have b2 := hF6.blk (blk_below HKV.out.2.2.1 HB7.out) (HN.out _ (by omega))
  have b3 := hF6.blk (blk_below HKV.out.2.2.2 HB7.out) (HN.out _ (by omega))
  have fz := blk_frozen b0 1
  have HG := Lib.hid (And.intro b0 (And.intro b1 (And.intro b2 b3)))
  clear hA6 hT6 hK6 hF6 b0 b1 b2 b3
  refine hK.out _ _ ⟨(blk_cell HG.out.1 0), (blk_cell HG.out.1 1), (blk_cell HG.out.1 2), (blk_cell HG.out.2.1 0), (blk_cell HG.out.2.1 1), (blk_cell HG.out.2.1 2), (blk_cell HG.out.2.2.2 0), (blk_cell HG.out.2.2.2 1)⟩ (fun hHeld => ?_)
  clear hK K
  refine norm_ (a' := ?_) ?_ ?_
  rotate_left
  · show Act.put _ (some 54) _ = _
    simp only [Act.put, List.setIfInBounds_toArray, List.set_cons_zero, List.set_cons_succ, i64_w, i32_w]
    rfl
  refine pure_ (i := 9) (N := some 55) (v := ?_) (a' := ?_) #[true, true, true, true, true, true, true, true, true, true, false] rfl rfl (by kernel_rfl) (fun _ _ _ h => h) (Or.inl ⟨by rfl, ?_⟩) ?_ ?_
  rotate_left
  · intro w'
    go_simp
    with_reducible rfl
  rotate_left
  · simp only [Act.put, List.setIfInBounds_toArray, List.set_cons_zero, List.set_cons_succ, i64_w, i32_w]
    rfl
  refine last_ (i := 10) (N := none) #[true, true, true, true, true, true, true, true, true, true, true] rfl rfl (by kernel_rfl) (by decide) (fun K hK => ?_)
  refine skip_ (w1 := ?_) (by rfl) rfl ?_ ?_
  rotate_left
  · go_simp
    rfl
  refine hK.out _ _ ?_
  clear hK K
  refine done_ (by kernel_rfl) ?_

  have c0 := blk_put HG.out.1 1 (.int .i64 r') rfl
  have c2 := (Fr.set w.heap.size 1 (.int .i64 r')).blk HG.out.2.2.1 (show ¬ w.heap.size + 2 = w.heap.size by omega)
  have u0 := blk_cell c0 0
  have u1 := blk_cell c0 1
  have u2 := blk_cell c0 2
  have v0 := blk_cell c2 0
  have v1 := blk_cell c2 1
  have v2 := blk_cell c2 2
  have z0 := blk_frozen c2 0
  have z1 := blk_frozen c2 1
  have z2 := blk_frozen c2 2
  have HB6 := Lib.hid (And.intro HG.out.1 HG.out.2.2.1)
  clear c0 c2
  go_wp2
  refine bodyPost_ret (results_ct rfl _ _ (w.heap.size + 1 + 1) 61 #[.int .i64 n, .int .i64 r', .int .i64 t] (0, 0) _ rfl (ret3 ((Fr.put (Fr.refl (fun j => j = w.heap.size) w6) (p := ⟨w.heap.size, 1, none⟩) (.inl rfl) _).blk HB6.out.2 (by omega)) _ _ _) Try.underlying61 rfl (by kernel_rfl)) rfl ?_
  have hs7 := HB7.out.size
  have hF9 := fr_set w6 w.heap.size (w.heap.size + 1 + 1) 1 (.int .i64 r') (.int .i64 n) (.int .i64 r') (.int .i64 t)
  have hA9 := HA6.out
  have e9 : (fun z => RW z + hold t z + one r' z) = fun z => RW z + vx r' t z := by
    funext z
    unfold vx
    rw [hold_pos hr6]
    omega
  rw [e9] at hA9
  have hA10 := hA9.move hF9 (fun k hk e => by
    rcases hO6 k hk with q | q
    · rcases e with e | e
      · exact HN.out k (by omega) q
      · exact HN.out k (by omega) q
    · try simp only [World.size_alloc] at q
      rcases e with e | e <;> omega)
  refine ⟨r', t, O6, f6, live6, rfl, hA10, by omega, VRep.set_trunk HV.out i HI.out.1 (by rw [HLV.out, HI.out.2.2.1]; exact HI.out.2.2.2) (fun ht => (KeepR.same HKP.out ht (by have := vx_t (r := r) ht; show 0 < RW t + vx r t t; omega)).trans (KeepR.same HK6.out ht (by have h2 : hold t t = 1 := (by rw [hold_pos ht]; exact if_pos rfl); show 0 < RW t + hold t t; omega))) (by rw [HLV.out, HI.out.2.2.1]; exact HT6.out), (HKP.out.mono (fun j hj => by show 0 < RW j + vx r t j; omega)).trans (HK6.out.mono (fun j hj => by show 0 < RW j + hold t j; omega)), fun j hj => ?_, ?_⟩
  · refine (hO6 j hj).imp id (fun q => ?_)
    try simp only [World.size_alloc] at q
    omega
  · exact (((((((Fr.of_new HB.out).trans HF5.out).more (below_alloc (Below.refl _ _) (.cells #[.pointer (some ⟨a, 0, none⟩), .int .u32 o] 133))).more HB4.out).more HD.out).more HB7.out).trans HF6.out).then_ hF9 (fun j hj => .inr (by rcases hj with e | e <;> omega))
end
end Go.Proofs.Ytnipbfhfaefieaa.Pv
/-! pvec: changes that are refused. -/
namespace Go.Proofs.Ytnipbfhfaefieaa.Pv
open Go.RowKit Go Go.Proofs.YtnipbfhfaefieaaW.PrintWords Go.Proofs.YtnipbfhfaefieaaW.PrintMore Go.Proofs.YtnipbfhfaefieaaW.PrintLast Go.Proofs.Ytnipbfhfaefieaa.Bts Go.Proofs.Ytnipbfhfaefieaa.Fra Go.Proofs.Ytnipbfhfaefieaa.ArnP Go.Proofs.Ytnipbfhfaefieaa.Arn Go.Proofs.Ytnipbfhfaefieaa.Ao
section
variable {O : Nat → Prop} {a : Nat} {f : Nat → Cell} {live most : Int} {ext rest : Nat → Nat}
set_option maxHeartbeats 4000000 in
set_option maxRecDepth 100000 in
theorem push_full (o : Int) (n r t : Nat) (q m : Int) (s : ByteArray) (w : World) (h : AO w O a f live most (fun z => rest z + vx r t z) nop) (hn : n ≤ 1024) (hn2 : n < 1024) (he : ∀ x, rest x ≤ 50000000000) (hful : most - live < (lev (lvs n + 1) : Int) + 3) :
    Calls Try.prog 33 #[.pointer (some ⟨a, 0, none⟩), vecV n r t, valV q m s, .int .u32 o] w fun e w' => e = .returned (.tuple #[vecV 0 0 0, .int .i64 5]) ∧ Below w.heap.size w w' := by
  have hbx := below_alloc (below_alloc (below_alloc (Below.refl w.heap.size w) (.cells #[.int .i64 n, .int .i64 r, .int .i64 t] 61)) (.cells #[.int .u8 q, .int .i64 m, .string s] 66)) (.cells #[.int .i64 0, .int .i64 0, .int .i64 0] 61)
  have hk0 := blk_alloc (blk_alloc (blk_new w (.cells #[.int .i64 n, .int .i64 r, .int .i64 t] 61)) (.cells #[.int .u8 q, .int .i64 m, .string s] 66)) (.cells #[.int .i64 0, .int .i64 0, .int .i64 0] 61)
  have hk1 := blk_alloc (new1 w (.cells #[.int .i64 n, .int .i64 r, .int .i64 t] 61) (.cells #[.int .u8 q, .int .i64 m, .string s] 66)) (.cells #[.int .i64 0, .int .i64 0, .int .i64 0] 61)
  have hk2 := new2 w (.cells #[.int .i64 n, .int .i64 r, .int .i64 t] 61) (.cells #[.int .u8 q, .int .i64 m, .string s] 66) (.cells #[.int .i64 0, .int .i64 0, .int .i64 0] 61)
  have hbg := begin_full o n r t _ (h.below hbx) hn he hful
  have hlong : ¬ (1024 : Int) ≤ (n : Int) := by omega
  have HBG := Lib.hid hbg
  have HB := Lib.hid hbx
  have HK := Lib.hid (And.intro hk0 (And.intro hk1 hk2))
  clear h hbx hk0 hk1 hk2 hbg hful he
  go_enter Try.func33, Try.ntmps33
  go_wp2_with (go_at_call 77; go_loud (refine HBG.out.mono ?_; rintro e w5 ⟨rfl, hB5⟩; have b2 := blk_alloc (blk_below HK.out.2.2 hB5) (.cells #[.pointer none, .int .u32 0] 133); have v0 := blk_cell b2 0; have v1 := blk_cell b2 1; have v2 := blk_cell b2 2; have z0 := blk_frozen b2 0; have z1 := blk_frozen b2 1; have z2 := blk_frozen b2 2; have HK5 := Lib.hid b2; have HB5 := Lib.hid hB5; clear b2 hB5))
  refine bodyPost_ret (results_ct rfl _ _ (w.heap.size + 1 + 1) 61 #[.int .i64 0, .int .i64 0, .int .i64 0] (0, 0) _ rfl (ret3 HK5.out _ _ _) Try.underlying61 rfl (by kernel_rfl)) rfl ?_
  exact ⟨rfl, Below.setCell (Below.setCell (Below.setCell (below_alloc (HB.out.trans (HB5.out.mono HB.out.size)) _) (show w.heap.size ≤ w.heap.size + 1 + 1 by omega) _) (show w.heap.size ≤ w.heap.size + 1 + 1 by omega) _) (show w.heap.size ≤ w.heap.size + 1 + 1 by omega) _⟩
set_option maxHeartbeats 4000000 in
set_option maxRecDepth 100000 in
theorem set_full (o : Int) (n r t i : Nat) (q m : Int) (s : ByteArray) (w : World) (h : AO w O a f live most (fun z => rest z + vx r t z) nop) (hn : n ≤ 1024) (hi : i < n) (he : ∀ x, rest x ≤ 50000000000) (hful : most - live < (lev (lvs n + 1) : Int) + 3) :
    Calls Try.prog 35 #[.pointer (some ⟨a, 0, none⟩), vecV n r t, .int .i64 i, valV q m s, .int .u32 o] w fun e w' => e = .returned (.tuple #[vecV 0 0 0, .int .i64 5]) ∧ Below w.heap.size w w' := by
  have hbx := below_alloc (below_alloc (below_alloc (Below.refl w.heap.size w) (.cells #[.int .i64 n, .int .i64 r, .int .i64 t] 61)) (.cells #[.int .u8 q, .int .i64 m, .string s] 66)) (.cells #[.int .i64 0, .int .i64 0, .int .i64 0] 61)
  have hk0 := blk_alloc (blk_alloc (blk_new w (.cells #[.int .i64 n, .int .i64 r, .int .i64 t] 61)) (.cells #[.int .u8 q, .int .i64 m, .string s] 66)) (.cells #[.int .i64 0, .int .i64 0, .int .i64 0] 61)
  have hk1 := blk_alloc (new1 w (.cells #[.int .i64 n, .int .i64 r, .int .i64 t] 61) (.cells #[.int .u8 q, .int .i64 m, .string s] 66)) (.cells #[.int .i64 0, .int .i64 0, .int .i64 0] 61)
  have hk2 := new2 w (.cells #[.int .i64 n, .int .i64 r, .int .i64 t] 61) (.cells #[.int .u8 q, .int .i64 m, .string s] 66) (.cells #[.int .i64 0, .int .i64 0, .int .i64 0] 61)
  have hbg := begin_full o n r t _ (h.below hbx) hn he hful
  have hge : ¬ (n : Int) ≤ (i : Int) := by omega
  have hneg : ¬ (i : Int) < 0 := by omega
  have HBG := Lib.hid hbg
  have HB := Lib.hid hbx
  have HK := Lib.hid (And.intro hk0 (And.intro hk1 hk2))
  clear h hbx hk0 hk1 hk2 hbg hful he
  go_enter Try.func35, Try.ntmps35
  go_wp2_with (go_at_call 77; go_loud (refine HBG.out.mono ?_; rintro e w5 ⟨rfl, hB5⟩; have b2 := blk_alloc (blk_below HK.out.2.2 hB5) (.cells #[.pointer none, .int .u32 0] 133); have v0 := blk_cell b2 0; have v1 := blk_cell b2 1; have v2 := blk_cell b2 2; have z0 := blk_frozen b2 0; have z1 := blk_frozen b2 1; have z2 := blk_frozen b2 2; have HK5 := Lib.hid b2; have HB5 := Lib.hid hB5; clear b2 hB5))
  refine bodyPost_ret (results_ct rfl _ _ (w.heap.size + 1 + 1) 61 #[.int .i64 0, .int .i64 0, .int .i64 0] (0, 0) _ rfl (ret3 HK5.out _ _ _) Try.underlying61 rfl (by kernel_rfl)) rfl ?_
  exact ⟨rfl, Below.setCell (Below.setCell (Below.setCell (below_alloc (HB.out.trans (HB5.out.mono HB.out.size)) _) (show w.heap.size ≤ w.heap.size + 1 + 1 by omega) _) (show w.heap.size ≤ w.heap.size + 1 + 1 by omega) _) (show w.heap.size ≤ w.heap.size + 1 + 1 by omega) _⟩
set_option maxHeartbeats 4000000 in
set_option maxRecDepth 100000 in
theorem push_long (n r t o q m : Int) (s : ByteArray) (w : World) (hc : 1024 ≤ n) :
    Calls Try.prog 33 #[.pointer (some ⟨a, 0, none⟩), vecV n r t, valV q m s, .int .u32 o] w fun e w' => e = .returned (.tuple #[vecV 0 0 0, .int .i64 12]) ∧ Below w.heap.size w w' := by
  have hbx := below_alloc (below_alloc (below_alloc (Below.refl w.heap.size w) (.cells #[.int .i64 n, .int .i64 r, .int .i64 t] 61)) (.cells #[.int .u8 q, .int .i64 m, .string s] 66)) (.cells #[.int .i64 0, .int .i64 0, .int .i64 0] 61)
  have hk0 := blk_alloc (blk_alloc (blk_new w (.cells #[.int .i64 n, .int .i64 r, .int .i64 t] 61)) (.cells #[.int .u8 q, .int .i64 m, .string s] 66)) (.cells #[.int .i64 0, .int .i64 0, .int .i64 0] 61)
  have hk1 := blk_alloc (new1 w (.cells #[.int .i64 n, .int .i64 r, .int .i64 t] 61) (.cells #[.int .u8 q, .int .i64 m, .string s] 66)) (.cells #[.int .i64 0, .int .i64 0, .int .i64 0] 61)
  have hk2 := new2 w (.cells #[.int .i64 n, .int .i64 r, .int .i64 t] 61) (.cells #[.int .u8 q, .int .i64 m, .string s] 66) (.cells #[.int .i64 0, .int .i64 0, .int .i64 0] 61)
  have v0 := blk_cell hk2 0
  have v1 := blk_cell hk2 1
  have v2 := blk_cell hk2 2
  have z0 := blk_frozen hk2 0
  have z1 := blk_frozen hk2 1
  have z2 := blk_frozen hk2 2
  have HB := Lib.hid hbx
  have HK := Lib.hid hk2
  clear hbx hk0 hk1 hk2
  go_enter Try.func33, Try.ntmps33
  go_wp2
  refine bodyPost_ret (results_ct rfl _ _ (w.heap.size + 1 + 1) 61 #[.int .i64 0, .int .i64 0, .int .i64 0] (0, 0) _ rfl HK.out Try.underlying61 rfl (by kernel_rfl)) rfl ?_
  exact ⟨rfl, HB.out⟩
set_option maxHeartbeats 4000000 in
set_option maxRecDepth 100000 in
theorem set_none (n r t o q m i : Int) (s : ByteArray) (w : World) (hc : i < 0 ∨ n ≤ i) :
    Calls Try.prog 35 #[.pointer (some ⟨a, 0, none⟩), vecV n r t, .int .i64 i, valV q m s, .int .u32 o] w fun e w' => e = .returned (.tuple #[vecV 0 0 0, .int .i64 3]) ∧ Below w.heap.size w w' := by
  have hbx := below_alloc (below_alloc (below_alloc (Below.refl w.heap.size w) (.cells #[.int .i64 n, .int .i64 r, .int .i64 t] 61)) (.cells #[.int .u8 q, .int .i64 m, .string s] 66)) (.cells #[.int .i64 0, .int .i64 0, .int .i64 0] 61)
  have hk0 := blk_alloc (blk_alloc (blk_new w (.cells #[.int .i64 n, .int .i64 r, .int .i64 t] 61)) (.cells #[.int .u8 q, .int .i64 m, .string s] 66)) (.cells #[.int .i64 0, .int .i64 0, .int .i64 0] 61)
  have hk1 := blk_alloc (new1 w (.cells #[.int .i64 n, .int .i64 r, .int .i64 t] 61) (.cells #[.int .u8 q, .int .i64 m, .string s] 66)) (.cells #[.int .i64 0, .int .i64 0, .int .i64 0] 61)
  have hk2 := new2 w (.cells #[.int .i64 n, .int .i64 r, .int .i64 t] 61) (.cells #[.int .u8 q, .int .i64 m, .string s] 66) (.cells #[.int .i64 0, .int .i64 0, .int .i64 0] 61)
  have v0 := blk_cell hk2 0
  have v1 := blk_cell hk2 1
  have v2 := blk_cell hk2 2
  have z0 := blk_frozen hk2 0
  have z1 := blk_frozen hk2 1
  have z2 := blk_frozen hk2 2
  have HB := Lib.hid hbx
  have HK := Lib.hid hk2
  clear hbx hk0 hk1 hk2
  by_cases hneg : i < 0
  · clear hc
    go_enter Try.func35, Try.ntmps35
    go_wp2
    refine bodyPost_ret (results_ct rfl _ _ (w.heap.size + 1 + 1) 61 #[.int .i64 0, .int .i64 0, .int .i64 0] (0, 0) _ rfl HK.out Try.underlying61 rfl (by kernel_rfl)) rfl ?_
    exact ⟨rfl, HB.out⟩
  · have hle : n ≤ i := hc.resolve_left hneg
    clear hc
    go_enter Try.func35, Try.ntmps35
    go_wp2
    refine bodyPost_ret (results_ct rfl _ _ (w.heap.size + 1 + 1) 61 #[.int .i64 0, .int .i64 0, .int .i64 0] (0, 0) _ rfl HK.out Try.underlying61 rfl (by kernel_rfl)) rfl ?_
    exact ⟨rfl, HB.out⟩
end
end Go.Proofs.Ytnipbfhfaefieaa.Pv
/-! pvec: the chapter's example. -/
namespace Go.Proofs.Ytnipbfhfaefieaa.Pv
open Go.RowKit Go Go.Proofs.YtnipbfhfaefieaaW.PrintWords Go.Proofs.YtnipbfhfaefieaaW.PrintMore Go.Proofs.YtnipbfhfaefieaaW.PrintLast Go.Proofs.Ytnipbfhfaefieaa.Bts Go.Proofs.Ytnipbfhfaefieaa.Fra Go.Proofs.Ytnipbfhfaefieaa.ArnP Go.Proofs.Ytnipbfhfaefieaa.Arn Go.Proofs.Ytnipbfhfaefieaa.Ao
theorem number_calls (x : Int) (w : World) : Calls Try.prog 34 #[.int .i64 x] w fun e w' => e = .returned (valV 2 x ⟨#[]⟩) ∧ Below w.heap.size w w' := by
  go_enter Try.func34, Try.ntmps34
  go_wp2
  refine bodyPost_ret (results_cell_row rfl _ _ w.heap.size 66 #[.int .u8 2, .int .i64 x, .string ⟨#[]⟩] (0, 0) _ rfl (blk_new w _) Try.underlying66 rfl (by kernel_rfl)) rfl ?_
  exact ⟨rfl, below_alloc (Below.refl _ _) _⟩
def f0 : Nat → Cell := fn [nobC]
theorem f0_r (i : Nat) : (f0 i).r = 0 := by
  unfold f0 fn
  rcases i with _ | i
  · rfl
  · rfl
abbrev no0 : Nat → Nat := fun _ => 0
theorem new_AO (n : Int) (w : World) (h1 : 1 ≤ n) (h2 : n ≤ 1048576) : Calls Try.prog 20 #[.int .i64 n] w fun e w' => ∃ a O, e = .returned (.tuple #[.pointer (some ⟨a, 0, none⟩), .int .i64 0]) ∧ AO w' O a f0 0 n (fun z => no0 z + vx 0 0 z) nop ∧ (∀ j, O j → w.heap.size ≤ j) ∧ Below w.heap.size w w' := by
  refine (new_AR n w h1 h2).mono ?_
  rintro e w' ⟨a, O, rfl, hA, hO, hB⟩
  refine ⟨a, O, rfl, AO.of_AR hA ⟨fun _ => 0, fun i hi => ?_⟩, hO, hB⟩
  have := f0_r i
  have e1 : (fn [nobC] i).r = 0 := this
  omega
section
variable {W W' : World} {O O' : Nat → Prop} {a : Nat} {f : Nat → Cell} {live most : Int} {ext rest : Nat → Nat} {op : Nat → Bool}
theorem AO.live_pos (h : AO W O a f live most ext op) {j : Nat} (h0 : 0 < j) (hr : 0 < (f j).r) : 0 < live := by
  obtain ⟨l, _, h2, rfl⟩ := h.all
  have := List.length_pos_of_mem ((h2 j).2 ⟨h0, hr⟩)
  omega
end
theorem VRep.tail_pos {f : Nat → Cell} {n r t : Nat} {l : List V3} (h : VRep f (n + 1) r t l) : 0 < t := by
  rcases h.2.2 with ⟨q, _⟩ | ⟨_, q, _⟩
  · omega
  · exact q.1
theorem RR_no0 (o : Int) : RR no0 o 0 0 = no0 := by
  funext z
  unfold RR
  split <;> rfl
set_option maxHeartbeats 4000000 in
set_option maxRecDepth 100000 in
theorem lives_calls (w : World) : Calls Try.prog 32 #[] w fun e w' => e = .returned (.bool true) ∧ Below w.heap.size w w' := by
  go_enter Try.func32, Try.ntmps32
  go_wp2_with (first
    | (go_at_call 37; go_loud (refine (vdrop_calls (rest := no0) 1 r t _ HA5.out).mono ?_; rintro e w6 ⟨rfl, O6, f6, live6, hA6, _, _, _, hF6⟩; have hz := hA6.none_live (fun _ _ => rfl); subst hz; have HA6 := Lib.hid hA6; have HF6 := Lib.hid hF6; clear hA6 hF6))
    | (go_at_call 22; go_loud (refine (live_AO _ HA5.out).mono ?_; rintro e w7 ⟨rfl, rfl⟩))
    | (go_at_call 36; go_loud (refine (HG.out _ HA4.out).mono ?_; rintro e w5 ⟨rfl, hB5⟩; have HA5 := Lib.hid ((HA4.out.below hB5).below (below_alloc (Below.refl _ _) (.cells #[.int .u8 2, .int .i64 1, .string ⟨#[]⟩] 66))); have HLT := Lib.hid ((HA4.out.below hB5).lt); have hv5 := blk_alloc (blk_below (blk_new w4 (.cells #[.int .i64 1, .int .i64 r, .int .i64 t] 61)) hB5) (.cells #[.int .u8 2, .int .i64 1, .string ⟨#[]⟩] 66); have s0 := blk_cell hv5 0; have s1 := blk_cell hv5 1; have s2 := blk_cell hv5 2; have HB5 := Lib.hid hB5; clear hB5))
    | (go_at_call 33; go_loud (refine (push_first (rest := no0) 0 2 1 ⟨#[]⟩ _ HA2.out (fun _ => Nat.zero_le _) (by decide)).mono ?_; rintro e w4 ⟨r, t, O4, f4, live4, rfl, hA4, _, hV4, _, hO4, hF4⟩; rw [RR_no0] at hA4; have hlp := AO.live_pos hA4 hV4.tail_pos (hA4.ext_lv hV4.tail_pos (by have := vx_t (r := r) hV4.tail_pos; show 0 < 0 + vx r t t; omega)); have hg : ∀ w, AO w O4 a f4 live4 50 (fun z => no0 z + vx r t z) nop → Calls Try.prog 36 #[.pointer (some ⟨a, 0, none⟩), vecV 1 r t, .int .i64 0] w fun e w' => e = .returned (.tuple #[valV 2 1 ⟨#[]⟩, .int .i64 0]) ∧ Below w.heap.size w w' := (fun w h => get_calls 1 r t 0 [(2, 1, ⟨#[]⟩)] 2 1 ⟨#[]⟩ w h hV4 (fun x => Nat.le_add_left _ _) rfl); have HG := Lib.hid hg; have HA4 := Lib.hid (hA4.below (below_alloc (Below.refl _ _) (.cells #[.int .i64 1, .int .i64 r, .int .i64 t] 61))); have HF4 := Lib.hid hF4; have HO4 := Lib.hid hO4; clear hg hA4 hV4 hO4 hF4))
    | (go_at_call 34; go_loud (refine (number_calls 1 _).mono ?_; rintro e w2 ⟨rfl, hB2⟩; have HB2 := Lib.hid (HB1.out.trans (hB2.mono HB1.out.size)); have HA2 := Lib.hid (HA1.out.below hB2); clear hB2))
    | (go_at_call 20; go_loud (refine (new_AO 50 _ (by decide) (by decide)).mono ?_; rintro e w1 ⟨a, O, rfl, hA1, hO1, hB1⟩; have HA1 := Lib.hid hA1; have HO1 := Lib.hid hO1; have HB1 := Lib.hid hB1; clear hA1 hO1 hB1)))
  have hx6 := HF6.out.blk (blk_new w5 (.cells #[.int .u8 2, .int .i64 1, .string ⟨#[]⟩] 66)) (fun q => by have := HLT.out _ q; omega)
  obtain ⟨V, hV⟩ : ∃ V, w6.drew = V := ⟨_, rfl⟩
  have hd : Below w6.heap.size w6 V := by rw [← hV]; exact below_drew1 (Below.refl _ _)
  have hx := blk_below hx6 hd
  have x0 := blk_cell hx 0
  have x1 := blk_cell hx 1
  have x2 := blk_cell hx 2
  have HX := Lib.hid hx
  have HA7 := Lib.hid (HA6.out.below hd)
  have HD := Lib.hid hd
  clear hx6 hd hx
  refine start_ (n := 25) (S := fun w' => w'.cell? ⟨w5.heap.size, 0, none⟩ = some (.int .u8 2) ∧ w'.cell? ⟨w5.heap.size, 1, none⟩ = some (.int .i64 1) ∧ w'.cell? ⟨w5.heap.size, 2, none⟩ = some (.string ⟨#[]⟩)) (ds := []) #[false, false, false, false, false, false, false, false, false, false, false, false, false, false, false, false, false, false, false, false, false, false, false, false, false] (by kernel_rfl) rfl rfl ⟨(by rw [hV]; exact x0), (by rw [hV]; exact x1), (by rw [hV]; exact x2)⟩ (fun hHeld => ?_)
  refine pure_ (i := 0) (N := some 30) (v := ?_) (a' := ?_) #[true, false, false, false, false, false, false, false, false, false, false, false, false, false, false, false, false, false, false, false, false, false, false, false, false] rfl rfl (by kernel_rfl) (fun _ _ _ h => h) (Or.inl ⟨by rfl, ?_⟩) ?_ ?_
  rotate_left
  · intro w'
    go_simp
    with_reducible rfl
  rotate_left
  · simp only [Act.put, List.setIfInBounds_toArray, List.set_cons_zero, List.set_cons_succ, i64_w, i32_w]
    rfl
  refine pure_ (i := 1) (N := some 31) (v := ?_) (a' := ?_) #[true, true, false, false, false, false, false, false, false, false, false, false, false, false, false, false, false, false, false, false, false, false, false, false, false] rfl rfl (by kernel_rfl) (fun _ _ _ h => h) (Or.inl ⟨by rfl, ?_⟩) ?_ ?_
  rotate_left
  · intro w'
    go_simp
    with_reducible rfl
  rotate_left
  · simp only [Act.put, List.setIfInBounds_toArray, List.set_cons_zero, List.set_cons_succ, i64_w, i32_w]
    rfl
  refine pure_ (i := 2) (N := some 32) (v := ?_) (a' := ?_) #[true, true, true, false, false, false, false, false, false, false, false, false, false, false, false, false, false, false, false, false, false, false, false, false, false] rfl rfl (by kernel_rfl) (fun _ _ _ h => h) (Or.inl ⟨by rfl, ?_⟩) ?_ ?_
  rotate_left
  · intro w'
    go_simp
    with_reducible rfl
  rotate_left
  · simp only [Act.put, List.setIfInBounds_toArray, List.set_cons_zero, List.set_cons_succ, i64_w, i32_w]
    rfl
  refine pure_ (i := 3) (N := some 33) (v := ?_) (a' := ?_) #[true, true, true, true, false, false, false, false, false, false, false, false, false, false, false, false, false, false, false, false, false, false, false, false, false] rfl rfl (by kernel_rfl) (fun _ _ _ h => h) (Or.inl ⟨by rfl, ?_⟩) ?_ ?_
  rotate_left
  · intro w'
    go_simp
    with_reducible rfl
  rotate_left
  · simp only [Act.put, List.setIfInBounds_toArray, List.set_cons_zero, List.set_cons_succ, i64_w, i32_w]
    rfl
  refine pure_ (i := 4) (N := some 34) (v := ?_) (a' := ?_) #[true, true, true, true, true, false, false, false, false, false, false, false, false, false, false, false, false, false, false, false, false, false, false, false, false] rfl rfl (by kernel_rfl) (fun _ _ _ h => h) (Or.inl ⟨by rfl, ?_⟩) ?_ ?_
  rotate_left
  · intro w'
    go_simp
    with_reducible rfl
  rotate_left
  · simp only [Act.put, List.setIfInBounds_toArray, List.set_cons_zero, List.set_cons_succ, i64_w, i32_w]
    rfl
  refine pure_ (i := 5) (N := some 35) (v := ?_) (a' := ?_) #[true, true, true, true, true, true, false, false, false, false, false, false, false, false, false, false, false, false, false, false, false, false, false, false, false] rfl rfl (by kernel_rfl) (fun _ _ _ h => h) (Or.inl ⟨by rfl, ?_⟩) ?_ ?_
  rotate_left
  · intro w'
    go_simp
    with_reducible rfl
  rotate_left
  · simp only [Act.put, List.setIfInBounds_toArray, List.set_cons_zero, List.set_cons_succ, i64_w, i32_w]
    rfl
  refine pure_ (i := 6) (N := some 36) (v := ?_) (a' := ?_) #[true, true, true, true, true, true, true, false, false, false, false, false, false, false, false, false, false, false, false, false, false, false, false, false, false] rfl rfl (by kernel_rfl) (fun _ _ _ h => h) (Or.inl ⟨by rfl, ?_⟩) ?_ ?_
  rotate_left
  · intro w'
    go_simp
    with_reducible rfl
  rotate_left
  · simp only [Act.put, List.setIfInBounds_toArray, List.set_cons_zero, List.set_cons_succ, i64_w, i32_w]
    rfl
  refine pure_ (i := 7) (N := some 37) (v := ?_) (a' := ?_) #[true, true, true, true, true, true, true, true, false, false, false, false, false, false, false, false, false, false, false, false, false, false, false, false, false] rfl rfl (by kernel_rfl) (fun _ _ _ h => h) (Or.inl ⟨by rfl, ?_⟩) ?_ ?_
  rotate_left
  · intro w'
    go_simp
    with_reducible rfl
  rotate_left
  · simp only [Act.put, List.setIfInBounds_toArray, List.set_cons_zero, List.set_cons_succ, i64_w, i32_w]
    rfl
  refine pure_ (i := 8) (N := some 38) (v := ?_) (a' := ?_) #[true, true, true, true, true, true, true, true, true, false, false, false, false, false, false, false, false, false, false, false, false, false, false, false, false] rfl rfl (by kernel_rfl) (fun _ _ _ h => h) (Or.inl ⟨by rfl, ?_⟩) ?_ ?_
  rotate_left
  · intro w'
    go_simp
    with_reducible rfl
  rotate_left
  · simp only [Act.put, List.setIfInBounds_toArray, List.set_cons_zero, List.set_cons_succ, i64_w, i32_w]
    rfl
  refine pure_ (i := 9) (N := some 39) (v := ?_) (a' := ?_) #[true, true, true, true, true, true, true, true, true, true, false, false, false, false, false, false, false, false, false, false, false, false, false, false, false] rfl rfl (by kernel_rfl) (fun _ _ _ h => h) (Or.inl ⟨by rfl, ?_⟩) ?_ ?_
  rotate_left
  · intro w'
    go_simp
    with_reducible rfl
  rotate_left
  · simp only [Act.put, List.setIfInBounds_toArray, List.set_cons_zero, List.set_cons_succ, i64_w, i32_w]
    rfl
  refine pure_ (i := 10) (N := some 40) (v := ?_) (a' := ?_) #[true, true, true, true, true, true, true, true, true, true, true, false, false, false, false, false, false, false, false, false, false, false, false, false, false] rfl rfl (by kernel_rfl) (fun _ _ _ h => h) (Or.inl ⟨by rfl, ?_⟩) ?_ ?_
  rotate_left
  · intro w'
    go_simp
    with_reducible rfl
  rotate_left
  · simp only [Act.put, List.setIfInBounds_toArray, List.set_cons_zero, List.set_cons_succ, i64_w, i32_w]
    rfl
  refine take_ (i := 11) (N := some 41) (v := ?_) (a' := ?_) #[true, true, true, true, true, true, true, true, true, true, true, true, false, false, false, false, false, false, false, false, false, false, false, false, false] rfl rfl (by kernel_rfl) (fun _ _ _ h => h) (Or.inl ⟨by rfl, ?_⟩) hHeld ?_ ?_
  rotate_left
  · rintro w' ⟨s0, s1, s2⟩
    go_simp
    with_reducible rfl
  rotate_left
  · simp only [Act.put, List.setIfInBounds_toArray, List.set_cons_zero, List.set_cons_succ, i64_w, i32_w]
    rfl
  refine one_ (i := 12) (N := some 42) #[true, true, true, true, true, true, true, true, true, true, true, true, true, false, false, false, false, false, false, false, false, false, false, false, false] rfl rfl (by kernel_rfl) (by decide) (fun K hK => ?_)
  refine goes_ Try.func34 (by kernel_rfl) rfl #[.int .i64 1] (by rfl) rfl rfl (by simp only [List.map_toArray, List.map_cons, List.map_nil]; rfl) ?_
  with_reducible refine (number_calls 1 _).mono ?_
  rintro e w8 ⟨rfl, hB8⟩
  refine ⟨_, rfl, ?_⟩
  have HB8 := Lib.hid (hV ▸ hB8 : Below V.heap.size V w8)
  refine hK.out _ _ ⟨(blk_cell (blk_below HX.out HB8.out) 0), (blk_cell (blk_below HX.out HB8.out) 1), (blk_cell (blk_below HX.out HB8.out) 2)⟩ (fun hHeld => ?_)
  clear hK K
  refine norm_ (a' := ?_) ?_ ?_
  rotate_left
  · show Act.put _ (some 42) _ = _
    simp only [Act.put, List.setIfInBounds_toArray, List.set_cons_zero, List.set_cons_succ, i64_w, i32_w]
    rfl
  refine pure_ (i := 13) (N := some 43) (v := ?_) (a' := ?_) #[true, true, true, true, true, true, true, true, true, true, true, true, true, true, false, false, false, false, false, false, false, false, false, false, false] rfl rfl (by kernel_rfl) (fun _ _ _ h => h) (Or.inl ⟨by rfl, ?_⟩) ?_ ?_
  rotate_left
  · intro w'
    go_simp
    with_reducible rfl
  rotate_left
  · simp only [Act.put, List.setIfInBounds_toArray, List.set_cons_zero, List.set_cons_succ, i64_w, i32_w]
    rfl
  refine pure_ (i := 14) (N := some 44) (v := ?_) (a' := ?_) #[true, true, true, true, true, true, true, true, true, true, true, true, true, true, true, false, false, false, false, false, false, false, false, false, false] rfl rfl (by kernel_rfl) (fun _ _ _ h => h) (Or.inl ⟨by rfl, ?_⟩) ?_ ?_
  rotate_left
  · intro w'
    go_simp
    with_reducible rfl
  rotate_left
  · simp only [Act.put, List.setIfInBounds_toArray, List.set_cons_zero, List.set_cons_succ, i64_w, i32_w]
    rfl
  refine pure_ (i := 15) (N := some 45) (v := ?_) (a' := ?_) #[true, true, true, true, true, true, true, true, true, true, true, true, true, true, true, true, false, false, false, false, false, false, false, false, false] rfl rfl (by kernel_rfl) (fun _ _ _ h => h) (Or.inl ⟨by rfl, ?_⟩) ?_ ?_
  rotate_left
  · intro w'
    go_simp
    with_reducible rfl
  rotate_left
  · simp only [Act.put, List.setIfInBounds_toArray, List.set_cons_zero, List.set_cons_succ, i64_w, i32_w]
    rfl
  refine pure_ (i := 16) (N := some 46) (v := ?_) (a' := ?_) #[true, true, true, true, true, true, true, true, true, true, true, true, true, true, true, true, true, false, false, false, false, false, false, false, false] rfl rfl (by kernel_rfl) (fun _ _ _ h => h) (Or.inl ⟨by rfl, ?_⟩) ?_ ?_
  rotate_left
  · intro w'
    go_simp
    with_reducible rfl
  rotate_left
  · simp only [Act.put, List.setIfInBounds_toArray, List.set_cons_zero, List.set_cons_succ, i64_w, i32_w]
    rfl
  refine pure_ (i := 17) (N := some 47) (v := ?_) (a' := ?_) #[true, true, true, true, true, true, true, true, true, true, true, true, true, true, true, true, true, true, false, false, false, false, false, false, false] rfl rfl (by kernel_rfl) (fun _ _ _ h => h) (Or.inl ⟨by rfl, ?_⟩) ?_ ?_
  rotate_left
  · intro w'
    go_simp
    with_reducible rfl
  rotate_left
  · simp only [Act.put, List.setIfInBounds_toArray, List.set_cons_zero, List.set_cons_succ, i64_w, i32_w]
    rfl
  refine pure_ (i := 18) (N := some 48) (v := ?_) (a' := ?_) #[true, true, true, true, true, true, true, true, true, true, true, true, true, true, true, true, true, true, true, false, false, false, false, false, false] rfl rfl (by kernel_rfl) (fun _ _ _ h => h) (Or.inl ⟨by rfl, ?_⟩) ?_ ?_
  rotate_left
  · intro w'
    go_simp
    with_reducible rfl
  rotate_left
  · simp only [Act.put, List.setIfInBounds_toArray, List.set_cons_zero, List.set_cons_succ, i64_w, i32_w]
    rfl
  refine pure_ (i := 19) (N := some 49) (v := ?_) (a' := ?_) #[true, true, true, true, true, true, true, true, true, true, true, true, true, true, true, true, true, true, true, true, false, false, false, false, false] rfl rfl (by kernel_rfl) (fun _ _ _ h => h) (Or.inl ⟨by rfl, ?_⟩) ?_ ?_
  rotate_left
  · intro w'
    go_simp
    with_reducible rfl
  rotate_left
  · simp only [Act.put, List.setIfInBounds_toArray, List.set_cons_zero, List.set_cons_succ, i64_w, i32_w]
    rfl
  refine pure_ (i := 20) (N := some 50) (v := ?_) (a' := ?_) #[true, true, true, true, true, true, true, true, true, true, true, true, true, true, true, true, true, true, true, true, true, false, false, false, false] rfl rfl (by kernel_rfl) (fun _ _ _ h => h) (Or.inl ⟨by rfl, ?_⟩) ?_ ?_
  rotate_left
  · intro w'
    go_simp
    with_reducible rfl
  rotate_left
  · simp only [Act.put, List.setIfInBounds_toArray, List.set_cons_zero, List.set_cons_succ, i64_w, i32_w]
    rfl
  refine one_ (i := 21) (N := some 51) #[true, true, true, true, true, true, true, true, true, true, true, true, true, true, true, true, true, true, true, true, true, true, false, false, false] rfl rfl (by kernel_rfl) (by decide) (fun K hK => ?_)
  refine goes_ Try.func22 (by kernel_rfl) rfl #[.pointer (some ⟨a, 0, none⟩)] (by rfl) rfl rfl (by simp only [List.map_toArray, List.map_cons, List.map_nil]; rfl) ?_
  with_reducible refine (live_AO _ (HA7.out.below HB8.out)).mono ?_
  rintro e w9 ⟨rfl, hw9⟩
  refine ⟨_, rfl, ?_⟩
  subst hw9
  refine hK.out _ _ ⟨(blk_cell (blk_below HX.out HB8.out) 0), (blk_cell (blk_below HX.out HB8.out) 1), (blk_cell (blk_below HX.out HB8.out) 2)⟩ (fun hHeld => ?_)
  clear hK K
  refine norm_ (a' := ?_) ?_ ?_
  rotate_left
  · show Act.put _ (some 51) _ = _
    simp only [Act.put, List.setIfInBounds_toArray, List.set_cons_zero, List.set_cons_succ, i64_w, i32_w]
    rfl
  refine pure_ (i := 22) (N := some 52) (v := ?_) (a' := ?_) #[true, true, true, true, true, true, true, true, true, true, true, true, true, true, true, true, true, true, true, true, true, true, true, false, false] rfl rfl (by kernel_rfl) (fun _ _ _ h => h) (Or.inl ⟨by rfl, ?_⟩) ?_ ?_
  rotate_left
  · intro w'
    go_simp
    with_reducible rfl
  rotate_left
  · simp only [Act.put, List.setIfInBounds_toArray, List.set_cons_zero, List.set_cons_succ, i64_w, i32_w]
    rfl
  refine pure_ (i := 23) (N := some 53) (v := ?_) (a' := ?_) #[true, true, true, true, true, true, true, true, true, true, true, true, true, true, true, true, true, true, true, true, true, true, true, true, false] rfl rfl (by kernel_rfl) (fun _ _ _ h => h) (Or.inl ⟨by rfl, ?_⟩) ?_ ?_
  rotate_left
  · intro w'
    go_simp
    with_reducible rfl
  rotate_left
  · simp only [Act.put, List.setIfInBounds_toArray, List.set_cons_zero, List.set_cons_succ, i64_w, i32_w]
    rfl
  refine pure_ (i := 24) (N := some 0) (v := ?_) (a' := ?_) #[true, true, true, true, true, true, true, true, true, true, true, true, true, true, true, true, true, true, true, true, true, true, true, true, true] rfl rfl (by kernel_rfl) (fun _ _ _ h => h) (Or.inl ⟨by rfl, ?_⟩) ?_ ?_
  rotate_left
  · intro w'
    go_simp
    with_reducible rfl
  rotate_left
  · simp only [Act.put, List.setIfInBounds_toArray, List.set_cons_zero, List.set_cons_succ, i64_w, i32_w]
    rfl
  refine done_ (by kernel_rfl) ?_

  go_wp2
  go_ret
  have hF := (((((((Fr.of_new (S := fun _ => False) HB2.out).then_ HF4.out (fun j hj => .inr (HO1.out j hj))).more (below_alloc (Below.refl _ _) (.cells #[.int .i64 1, .int .i64 r, .int .i64 t] 61))).more HB5.out).more (below_alloc (Below.refl _ _) (.cells #[.int .u8 2, .int .i64 1, .string ⟨#[]⟩] 66))).then_ HF6.out (fun j hj => .inr (by
    rcases HO4.out j hj with q | q
    · exact HO1.out j q
    · have := HB2.out.size
      omega))).more HD.out).more HB8.out
  exact ⟨rfl, hF.below (fun _ h => h.elim) (Nat.le_refl _)⟩
end Go.Proofs.Ytnipbfhfaefieaa.Pv
/-! pvec: Push, Set as wholes; how many cells a vector has. -/
namespace Go.Proofs.Ytnipbfhfaefieaa.Pv
open Go.RowKit Go Go.Proofs.YtnipbfhfaefieaaW.PrintWords Go.Proofs.YtnipbfhfaefieaaW.PrintMore Go.Proofs.YtnipbfhfaefieaaW.PrintLast Go.Proofs.Ytnipbfhfaefieaa.Bts Go.Proofs.Ytnipbfhfaefieaa.Fra Go.Proofs.Ytnipbfhfaefieaa.ArnP Go.Proofs.Ytnipbfhfaefieaa.Arn Go.Proofs.Ytnipbfhfaefieaa.Ao
section
variable {W : World} {O : Nat → Prop} {a : Nat} {f : Nat → Cell} {live most : Int} {ext rest : Nat → Nat}
theorem push_ok (o : Int) (n r t : Nat) (l : List V3) (q m : Int) (s : ByteArray) (w : World) (h : AO w O a f live most (fun z => rest z + vx r t z) nop) (hv : VRep f n r t l) (hn : n < 1024) (he : ∀ x, rest x ≤ 50000000000) (hful : ¬ most - live < (lev (lvs n + 1) : Int) + 3) :
    Calls Try.prog 33 #[.pointer (some ⟨a, 0, none⟩), vecV n r t, valV q m s, .int .u32 o] w fun e w' => ∃ (r' t' : Nat) (O' : Nat → Prop) (f' : Nat → Cell) (live' : Int), e = .returned (.tuple #[vecV ((n : Int) + 1) r' t', .int .i64 0]) ∧ AO w' O' a f' live' most (fun z => RR rest o r t z + vx r' t' z) nop ∧ live' ≤ live + 2 ∧ VRep f' (n + 1) r' t' (l ++ [(q, m, s)]) ∧ KeepR (RR rest o r t) nop f f' ∧ (∀ j, O' j → O j ∨ w.heap.size ≤ j) ∧ Fr O w w' := by
  by_cases h0 : n = 0
  · subst h0
    have hl : l = [] := List.length_eq_zero_iff.1 hv.1.symm
    rcases hv.2.2 with ⟨_, rfl, rfl⟩ | ⟨q0, _⟩
    · rw [hl]
      have e3 : (lev (lvs 0 + 1) : Int) + 3 = 3 := rfl
      rw [e3] at hful
      exact push_first o q m s w h he hful
    · omega
  · by_cases h1 : n % 32 = 0
    · exact push_leaf o n r t l q m s w h hv hn h1 (by omega) he hful
    · exact push_tail o n r t l q m s w h hv hn h1 he hful
theorem set_ok (o : Int) (n r t i : Nat) (l : List V3) (q m : Int) (s : ByteArray) (w : World) (h : AO w O a f live most (fun z => rest z + vx r t z) nop) (hv : VRep f n r t l) (hi : i < n) (he : ∀ x, rest x ≤ 50000000000) (hful : ¬ most - live < (lev (lvs n + 1) : Int) + 3) :
    Calls Try.prog 35 #[.pointer (some ⟨a, 0, none⟩), vecV n r t, .int .i64 i, valV q m s, .int .u32 o] w fun e w' => ∃ (r' t' : Nat) (O' : Nat → Prop) (f' : Nat → Cell) (live' : Int), e = .returned (.tuple #[vecV n r' t', .int .i64 0]) ∧ AO w' O' a f' live' most (fun z => RR rest o r t z + vx r' t' z) nop ∧ live' ≤ live + 2 ∧ VRep f' n r' t' (l.set i (q, m, s)) ∧ KeepR (RR rest o r t) nop f f' ∧ (∀ j, O' j → O j ∨ w.heap.size ≤ j) ∧ Fr O w w' := by
  by_cases hd : lvs n ≤ i / 32
  · exact set_tail o n r t i l q m s w h hv hi hd he hful
  · exact set_trunk o n r t i l q m s w h hv hi (by omega) he hful
theorem vx_cases {r t j : Nat} (h0 : 0 < j) (h : 0 < vx r t j) : (j = r ∧ 0 < r) ∨ (j = t ∧ 0 < t) := by
  unfold vx hold one at h
  by_cases e1 : j = r
  · exact .inl ⟨e1, by omega⟩
  · by_cases e2 : j = t
    · exact .inr ⟨e2, by omega⟩
    · rw [if_neg e1, if_neg e2] at h
      split at h <;> split at h <;> omega
/-- How many cells a vector alone has. -/
theorem vec_live {n r t : Nat} {l : List V3} (h : AO W O a f live most (fun z => no0 z + vx r t z) nop) (hv : VRep f n r t l) : (n = 0 → live = 0) ∧ (0 < n → live ≤ (lvs n : Int) + 2) := by
  obtain ⟨_, hn, hv⟩ := hv
  rcases hv with ⟨rfl, rfl, rfl⟩ | ⟨h0, hT, hR⟩
  · exact ⟨fun _ => h.none_live (fun _ _ => rfl), fun q => by omega⟩
  · refine ⟨fun q => by omega, fun _ => ?_⟩
    have hst : ∀ L : List Nat, t ∈ L → (0 < r → r ∈ L) → (∀ j, j ∈ L → ∀ x ∈ kidsOf (f j).kids, x ∈ L) → live ≤ (L.length : Int) := fun L h1 h2 h3 => h.live_le L (h.reach (fun j => j ∈ L) (fun j j0 hj => by
      have hj : 0 < 0 + vx r t j := hj
      rcases vx_cases (r := r) (t := t) j0 (by omega) with ⟨rfl, q⟩ | ⟨rfl, q⟩
      · exact h2 q
      · exact h1) (fun j _ hj => h3 j hj))
    rcases hR with ⟨hm, hr⟩ | ⟨hm, hL⟩ | ⟨h2, hr, _, hkl, hk⟩
    · have := hst [t] (by simp) (fun q => by omega) (fun j hj x hx => by
        have : j = t := by simpa using hj
        subst this
        rw [hT.2.2] at hx
        cases hx)
      simp only [List.length_singleton] at this
      omega
    · have := hst [t, r] (by simp) (fun q => by simp) (fun j hj x hx => by
        have : j = t ∨ j = r := by simpa using hj
        rcases this with rfl | rfl
        · rw [hT.2.2] at hx
          cases hx
        · rw [hL.2.2] at hx
          cases hx)
      simp only [List.length_cons, List.length_nil] at this
      omega
    · have := hst (t :: r :: kidsOf (f r).kids) (by simp) (fun q => by simp) (fun j hj x hx => by
        have : j = t ∨ j = r ∨ j ∈ kidsOf (f r).kids := by simpa using hj
        rcases this with rfl | rfl | hj
        · rw [hT.2.2] at hx
          cases hx
        · simp [hx]
        · obtain ⟨z, hz, z0, rfl⟩ := kidsOf_mem hj
          obtain ⟨i, hi⟩ := List.getElem?_of_mem hz
          obtain ⟨k, rfl, hLk⟩ := hk i z hi
          rw [Int.toNat_natCast, hLk.2.2] at hx
          cases hx)
      have hkk := kidsOf_len (f r).kids
      simp only [List.length_cons] at this
      omega
end
end Go.Proofs.Ytnipbfhfaefieaa.Pv
/-! pvec: PvecRoom. -/
namespace Go.Proofs.Ytnipbfhfaefieaa.Pv
open Go.RowKit Go Go.Proofs.YtnipbfhfaefieaaW.PrintWords Go.Proofs.YtnipbfhfaefieaaW.PrintMore Go.Proofs.YtnipbfhfaefieaaW.PrintLast Go.Proofs.Ytnipbfhfaefieaa.Bts Go.Proofs.Ytnipbfhfaefieaa.Fra Go.Proofs.Ytnipbfhfaefieaa.ArnP Go.Proofs.Ytnipbfhfaefieaa.Arn Go.Proofs.Ytnipbfhfaefieaa.Ao
def numL (j : Nat) : List V3 := (List.range j).map fun i : Nat => (2, (i : Int), ⟨#[]⟩)
theorem numL_succ (j : Nat) : numL (j + 1) = numL j ++ [(2, (j : Int), ⟨#[]⟩)] := by
  unfold numL
  rw [List.range_succ, List.map_append]
  rfl
theorem numL_at (j i : Nat) (h : i < j) : (numL j)[i]? = some (2, (i : Int), ⟨#[]⟩) := by
  unfold numL
  rw [List.getElem?_map, List.getElem?_range h]
  rfl
abbrev vecB (w : World) (b : Nat) (n r t : Int) : Prop := w.heap[b]? = some (.cells #[.int .i64 n, .int .i64 r, .int .i64 t] 61 (0, 0))
/-- A vector of the caller's, whose words stand in block b. -/
structure VS (W wr : World) (a b : Nat) (n r t : Nat) (l : List V3) (O : Nat → Prop) (f : Nat → Cell) (live most : Int) (rest : Nat → Nat) : Prop where
  ao : AO wr O a f live most (fun z => rest z + vx r t z) nop
  rep : VRep f n r t l
  blk : vecB wr b n r t
  nb : ¬ O b
  own : ∀ i, O i → W.heap.size ≤ i
  bel : Below W.heap.size W wr
  wb : W.heap.size ≤ b
theorem fr3c (w : World) (b : Nat) (x y z : Value) : Fr (fun j => j = b) w (((w.setCell ⟨b, 0, none⟩ x).setCell ⟨b, 1, none⟩ y).setCell ⟨b, 2, none⟩ z) :=
  Fr.put (S := fun j => j = b) (Fr.put (S := fun j => j = b) (Fr.put (S := fun j => j = b) (Fr.refl (fun j => j = b) w) (p := ⟨b, 0, none⟩) (.inl rfl) x) (p := ⟨b, 1, none⟩) (.inl rfl) y) (p := ⟨b, 2, none⟩) (.inl rfl) z
theorem RR_own (rest : Nat → Nat) (r t : Nat) : RR rest 1 r t = rest := by
  funext z
  unfold RR
  rw [if_neg (by decide)]
  rfl
set_option maxHeartbeats 4000000 in
set_option maxRecDepth 100000 in
theorem walk (x0 : Int) (x1 : Int) (W : World) (p0 : (IntKind.i64.min ≤ x0 ∧ x0 ≤ IntKind.i64.max)) (p1 : (IntKind.i64.min ≤ x1 ∧ x1 ≤ IntKind.i64.max)) :
    Calls Try.prog 7 #[.int .i64 x0, .int .i64 x1] W fun e W' => e = .returned (.bool true) ∧ Below W.heap.size W W' := by
  clear p0 p1
  go_enter Try.func7, Try.ntmps7
  go_wp2_with (first
    | (go_at_call 20; go_loud (refine (new_AO 4096 _ (by decide) (by decide)).mono ?_; rintro e w2 ⟨a, O, rfl, hA, hO, hB⟩; have HA2 := Lib.hid hA; have HO2 := Lib.hid (fun j hj => Nat.le_trans HB1.out.size (hO j hj)); have HB2 := Lib.hid (HB1.out.trans (hB.mono HB1.out.size)); clear hA hO hB))
    | (go_at_call 32; go_loud (refine (lives_calls _).mono ?_; rintro e w1 ⟨rfl, hb1⟩; have HB1 := Lib.hid hb1; clear hb1)))
  obtain ⟨k, hk, hk2⟩ : ∃ k : Nat, wrap64 ((IntKind.u64.wrap x0).tmod 1025) = k ∧ k ≤ 1024 := by
    have h1 : 0 ≤ IntKind.u64.wrap x0 := (by rw [IntKind.wrap_u64]; omega)
    have h2 : 0 ≤ (IntKind.u64.wrap x0).tmod 1025 := Int.tmod_nonneg _ h1
    have h3 : (IntKind.u64.wrap x0).tmod 1025 < 1025 := Int.tmod_lt_of_pos _ (by decide)
    obtain ⟨m, hm⟩ : ∃ m, (IntKind.u64.wrap x0).tmod 1025 = m := ⟨_, rfl⟩
    rw [hm] at h2 h3 ⊢
    refine ⟨m.toNat, ?_, by omega⟩
    unfold wrap64
    omega
  rw [hk]
  have hk2' : (k : Int) ≤ 1024 := by omega
  clear hk
  obtain ⟨b, hb⟩ : ∃ b, w2.heap.size = b := ⟨_, rfl⟩
  have hS0 : VS W (w2.alloc (.cells #[.int .i64 0, .int .i64 0, .int .i64 0] 61)) a b 0 0 0 (numL 0) O f0 0 4096 no0 := by
    subst hb
    exact ⟨HA2.out.below (below_alloc (Below.refl _ _) _), ⟨rfl, by omega, .inl ⟨rfl, rfl, rfl⟩⟩, blk_new _ _, fun q => by have := HA2.out.lt _ q; omega, HO2.out, below_alloc HB2.out _, HB2.out.size⟩
  have HS0 := Lib.hid hS0
  rw [hb]
  clear hS0 HA2 HO2 HB2 HB1 hb
  go_loopg [7, 30] k (fun q e i wr => ∃ (j r t : Nat) (Oj : Nat → Prop) (f : Nat → Cell) (live : Int), q + j = k ∧ e = .int .i64 0 ∧ i = .int .i64 (j : Int) ∧ VS W wr a b j r t (numL j) Oj f live 4096 no0)
  case atStart => exact ⟨0, 0, 0, O, f0, 0, rfl, rfl, rfl, HS0.out⟩
  case round =>
    obtain ⟨j, r, t, Oj, f, live, hq, rfl, rfl, hS⟩ := hrel
    have HS := Lib.hid hS
    by_cases hj : j < k
    · have hj' : (j : Int) < (k : Int) := by omega
      have hlv := vec_live hS.ao hS.rep
      have hful : ¬ (4096 : Int) - live < (lev (lvs j + 1) : Int) + 3 := by
        have h1 : lev (lvs j + 1) ≤ 1 := by unfold lev; split <;> omega
        have h2 : lvs j ≤ 32 := by unfold lvs; omega
        rcases Nat.eq_zero_or_pos j with q | q
        · have := hlv.1 q; omega
        · have := hlv.2 q; omega
      obtain ⟨V, hV⟩ : ∃ V, wr.drew = V := ⟨_, rfl⟩
      have hd : Below wr.heap.size wr V := by rw [← hV]; exact below_drew1 (Below.refl _ _)
      have hx := blk_below hS.blk hd
      have x0 := blk_cell hx 0
      have x1 := blk_cell hx 1
      have x2 := blk_cell hx 2
      have HX := Lib.hid hx
      have HAV := Lib.hid (hS.ao.below hd)
      have HD := Lib.hid hd
      have HFUL := Lib.hid hful
      clear hd hx hS hful hlv
      go_wp2
      refine start_ (n := 10) (S := fun w' => w'.cell? ⟨b, 0, none⟩ = some (.int .i64 (j : Int)) ∧ w'.cell? ⟨b, 1, none⟩ = some (.int .i64 (r : Int)) ∧ w'.cell? ⟨b, 2, none⟩ = some (.int .i64 (t : Int))) (ds := [8]) #[false, false, false, false, false, false, false, false, false, false] (by kernel_rfl) rfl rfl ⟨(by rw [hV]; exact x0), (by rw [hV]; exact x1), (by rw [hV]; exact x2)⟩ (fun hHeld => ?_)
      refine pure_ (i := 0) (N := some 34) (v := ?_) (a' := ?_) #[true, false, false, false, false, false, false, false, false, false] rfl rfl (by kernel_rfl) (fun _ _ _ h => h) (Or.inl ⟨by rfl, ?_⟩) ?_ ?_
      rotate_left
      · intro w'
        go_simp
        with_reducible rfl
      rotate_left
      · simp only [Act.put, List.setIfInBounds_toArray, List.set_cons_zero, List.set_cons_succ, i64_w, i32_w]
        rfl
      refine pure_ (i := 2) (N := some 36) (v := ?_) (a' := ?_) #[true, false, true, false, false, false, false, false, false, false] rfl rfl (by kernel_rfl) (fun _ _ _ h => h) (Or.inl ⟨by rfl, ?_⟩) ?_ ?_
      rotate_left
      · intro w'
        go_simp
        with_reducible rfl
      rotate_left
      · simp only [Act.put, List.setIfInBounds_toArray, List.set_cons_zero, List.set_cons_succ, i64_w, i32_w]
        rfl
      refine take_ (i := 1) (N := some 35) (v := ?_) (a' := ?_) #[true, true, true, false, false, false, false, false, false, false] rfl rfl (by kernel_rfl) (fun _ _ _ h => h) (Or.inl ⟨by rfl, ?_⟩) hHeld ?_ ?_
      rotate_left
      · rintro w' ⟨s0, s1, s2⟩
        go_simp
        with_reducible rfl
      rotate_left
      · simp only [Act.put, List.setIfInBounds_toArray, List.set_cons_zero, List.set_cons_succ, i64_w, i32_w]
        rfl
      refine one_ (i := 3) (N := some 37) #[true, true, true, true, false, false, false, false, false, false] rfl rfl (by kernel_rfl) (by decide) (fun K hK => ?_)
      refine goes_ Try.func34 (by kernel_rfl) rfl #[.int .i64 j] (by rfl) rfl rfl (by simp only [List.map_toArray, List.map_cons, List.map_nil]; rfl) ?_
      with_reducible refine (number_calls j _).mono ?_
      rintro e w4 ⟨rfl, hB4⟩
      refine ⟨_, rfl, ?_⟩
      have HB4 := Lib.hid (hV ▸ hB4 : Below V.heap.size V w4)
      refine hK.out _ _ ⟨(blk_cell (blk_below HX.out HB4.out) 0), (blk_cell (blk_below HX.out HB4.out) 1), (blk_cell (blk_below HX.out HB4.out) 2)⟩ (fun hHeld => ?_)
      clear hK K
      refine norm_ (a' := ?_) ?_ ?_
      rotate_left
      · show Act.put _ (some 37) _ = _
        simp only [Act.put, List.setIfInBounds_toArray, List.set_cons_zero, List.set_cons_succ, i64_w, i32_w]
        rfl
      refine one_ (i := 4) (N := some 38) #[true, true, true, true, true, false, false, false, false, false] rfl rfl (by kernel_rfl) (by decide) (fun K hK => ?_)
      refine goes_ Try.func33 (by kernel_rfl) rfl #[.pointer (some ⟨a, 0, none⟩), vecV j r t, valV 2 j ⟨#[]⟩, .int .u32 1] (by rfl) rfl rfl (by simp only [List.map_toArray, List.map_cons, List.map_nil]; rfl) ?_
      with_reducible refine (push_ok (rest := no0) 1 j r t (numL j) 2 j ⟨#[]⟩ _ (HAV.out.below HB4.out) HS.out.rep (by omega) (fun _ => Nat.zero_le _) (by have := HFUL.out; omega)).mono ?_
      rintro e w5 ⟨r', t', O5, f5, live5, rfl, hA5, _, hV5, _, hO5, hF5⟩
      refine ⟨_, rfl, ?_⟩
      have HA5 := Lib.hid hA5
      have HV5 := Lib.hid hV5
      have HO5 := Lib.hid hO5
      have HF5 := Lib.hid hF5
      have g0 := hF5.blk (blk_below HX.out HB4.out) HS.out.nb
      have y0 := blk_frozen g0 0
      have y1 := blk_frozen g0 1
      have y2 := blk_frozen g0 2
      have HG := Lib.hid g0
      clear hA5 hV5 hO5 hF5 g0
      refine hK.out _ _ ⟨(blk_cell HG.out 0), (blk_cell HG.out 1), (blk_cell HG.out 2)⟩ (fun hHeld => ?_)
      clear hK K
      refine norm_ (a' := ?_) ?_ ?_
      rotate_left
      · show Act.put _ (some 38) _ = _
        simp only [Act.put, List.setIfInBounds_toArray, List.set_cons_zero, List.set_cons_succ, i64_w, i32_w]
        rfl
      refine pure_ (i := 5) (N := some 33) (v := ?_) (a' := ?_) #[true, true, true, true, true, true, false, false, false, false] rfl rfl (by kernel_rfl) (fun _ _ _ h => h) (Or.inl ⟨by rfl, ?_⟩) ?_ ?_
      rotate_left
      · intro w'
        go_simp
        with_reducible rfl
      rotate_left
      · simp only [Act.put, List.setIfInBounds_toArray, List.set_cons_zero, List.set_cons_succ, i64_w, i32_w]
        rfl
      refine pure_ (i := 6) (N := some 39) (v := ?_) (a' := ?_) #[true, true, true, true, true, true, true, false, false, false] rfl rfl (by kernel_rfl) (fun _ _ _ h => h) (Or.inl ⟨by rfl, ?_⟩) ?_ ?_
      rotate_left
      · intro w'
        go_simp
        with_reducible rfl
      rotate_left
      · simp only [Act.put, List.setIfInBounds_toArray, List.set_cons_zero, List.set_cons_succ, i64_w, i32_w]
        rfl
      refine pure_ (i := 7) (N := some 40) (v := ?_) (a' := ?_) #[true, true, true, true, true, true, true, true, false, false] rfl rfl (by kernel_rfl) (fun _ _ _ h => h) (Or.inl ⟨by rfl, ?_⟩) ?_ ?_
      rotate_left
      · intro w'
        go_simp
        with_reducible rfl
      rotate_left
      · simp only [Act.put, List.setIfInBounds_toArray, List.set_cons_zero, List.set_cons_succ, i64_w, i32_w]
        rfl
      refine last_ (i := 8) (N := none) #[true, true, true, true, true, true, true, true, true, false] rfl rfl (by kernel_rfl) (by decide) (fun K hK => ?_)
      refine skip_ (w1 := ?_) (by rfl) rfl ?_ ?_
      rotate_left
      · go_simp
        rfl
      refine hK.out _ _ ?_
      clear hK K
      refine pure_ (i := 9) (N := some 7) (v := ?_) (a' := ?_) #[true, true, true, true, true, true, true, true, true, true] rfl rfl (by kernel_rfl) (fun _ _ _ h => h) (Or.inl ⟨by rfl, ?_⟩) ?_ ?_
      rotate_left
      · intro w'
        go_simp
        with_reducible rfl
      rotate_left
      · simp only [Act.put, List.setIfInBounds_toArray, List.set_cons_zero, List.set_cons_succ, i64_w, i32_w]
        rfl
      refine done_ (by kernel_rfl) ?_

      go_wp2
      go_roundg (gk - 1)
      case measure => omega
      case rel =>
        have hbl := blk_lt HX.out
        have hsz := HB4.out.size
        have hsd := HD.out.size
        have hF6 := fr3c w5 b (.int .i64 ((j : Int) + 1)) (.int .i64 r') (.int .i64 t')
        have hO : ∀ i, O5 i → Oj i ∨ wr.heap.size ≤ i := fun i hi => (HO5.out i hi).imp id (fun q => by omega)
        have hnb : ¬ O5 b := fun q => by
          rcases hO b q with e | e
          · exact HS.out.nb e
          · have := blk_lt HS.out.blk
            omega
        have hws := HS.out.bel.size
        have hA6 := HA5.out.move hF6 (fun i hi e => by rw [e] at hi; exact hnb hi)
        rw [RR_own] at hA6
        refine ⟨j + 1, r', t', O5, f5, live5, by omega, rfl, by simp, hA6, by rw [numL_succ]; exact HV5.out, ret3 HG.out _ _ _, hnb, fun i hi => ?_, ?_, HS.out.wb⟩
        · rcases hO i hi with e | e
          · exact HS.out.own i e
          · omega
        · exact Fr.below (S := fun j => W.heap.size ≤ j) ((((Fr.of_new HS.out.bel).more HD.out).more HB4.out |>.then_ HF5.out (fun i hi => .inl (HS.out.own i hi))).then_ hF6 (fun i hi => .inl (by rw [hi]; exact HS.out.wb))) (fun _ h => h) (Nat.le_refl _)
    · have hjk : j = k := by omega
      subst hjk
      have hj' : ¬ (j : Int) < (j : Int) := by omega
      have hlv := vec_live hS.ao hS.rep
      have hlr := hS.ao.room
      obtain ⟨d, hd⟩ : ∃ d : Nat, (j : Int).tdiv 16 = (d : Int) := ⟨j / 16, by rw [Int.tdiv_eq_ediv_of_nonneg (by omega)]; omega⟩
      have hdj : d = j / 16 := by rw [Int.tdiv_eq_ediv_of_nonneg (by omega)] at hd; omega
      have hd2 : (j : Int) / 16 = (d : Int) := by omega
      obtain ⟨c, hc, hc2⟩ : ∃ c : Nat, wrap64 ((IntKind.u64.wrap x1).tmod 12) = c ∧ c ≤ 11 := by
        have h1 : 0 ≤ IntKind.u64.wrap x1 := (by rw [IntKind.wrap_u64]; omega)
        have h2 : 0 ≤ (IntKind.u64.wrap x1).tmod 12 := Int.tmod_nonneg _ h1
        have h3 : (IntKind.u64.wrap x1).tmod 12 < 12 := Int.tmod_lt_of_pos _ (by decide)
        obtain ⟨m, hm⟩ : ∃ m, (IntKind.u64.wrap x1).tmod 12 = m := ⟨_, rfl⟩
        rw [hm] at h2 h3 ⊢
        refine ⟨m.toNat, ?_, by omega⟩
        unfold wrap64
        omega
      have hc2' : (c : Int) ≤ 11 := by omega
      by_cases hj0 : j = 0
      · subst hj0
        have hl0 := hlv.1 rfl
        subst hl0
        obtain ⟨rfl, rfl⟩ : r = 0 ∧ t = 0 := by
          rcases hS.rep.2.2 with ⟨_, q1, q2⟩ | ⟨q, _⟩
          · exact ⟨q1, q2⟩
          · omega
        have x0 : wr.cell? ⟨b, 0, none⟩ = some (.int .i64 0) := blk_cell hS.blk 0
        have x1 : wr.cell? ⟨b, 1, none⟩ = some (.int .i64 0) := blk_cell hS.blk 1
        have x2 : wr.cell? ⟨b, 2, none⟩ = some (.int .i64 0) := blk_cell hS.blk 2
        have hd0 : d = 0 := by omega
        subst hd0
        clear hS hlv hd hd2 hdj
        go_wp2_with (go_at_call 22; go_loud (refine (live_AO _ HS.out.ao).mono ?_; rintro e w5 ⟨rfl, rfl⟩))
        go_loopg [] ((4096 : Int) - 0).toNat (fun q wr => ∃ (O2 : Nat → Prop) (f2 : Nat → Cell) (live2 : Int) (rest2 : Nat → Nat), (q : Int) = 4096 - live2 ∧ 0 ≤ live2 ∧ (∀ z, (rest2 z : Int) ≤ live2) ∧ VS W wr a b 0 0 0 (numL 0) O2 f2 live2 4096 rest2)
        case atStart => exact ⟨_, _, _, _, by omega, by omega, fun z => by show ((0 : Nat) : Int) ≤ _; omega, HS.out⟩
        case round =>
          obtain ⟨O2, f2, live2, rest2, hq2, hl2, hr2, hS2⟩ := hrel
          have HS2 := Lib.hid hS2
          have HR2 := Lib.hid hr2
          have hm2 := hS2.ao.room
          have y0 : wr.cell? ⟨b, 0, none⟩ = some (.int .i64 0) := blk_cell hS2.blk 0
          have y1 : wr.cell? ⟨b, 1, none⟩ = some (.int .i64 0) := blk_cell hS2.blk 1
          have y2 : wr.cell? ⟨b, 2, none⟩ = some (.int .i64 0) := blk_cell hS2.blk 2
          clear hS2 hr2
          by_cases hlt : (c : Int) < 4096 - live2
          · go_wp2_with (first
              | (go_at_call 21; go_loud (refine (make_ao (Q := fun _ => False) (rest := fun z => rest2 z + vx 0 0 z) 0 0 0 _ _ [] [] _ HA6.out (row_none _ _ _) (row_none _ _ _) (fun _ h => h.elim) (by intro z hz; cases hz) (by omega) (by simp) (by simp) (fun z hz => by cases hz)).mono ?_; rintro e w7 ⟨i, O7, rfl, hA7, hi0, hri, _, hK7, hO7, hF7⟩; have HA7 := Lib.hid hA7; have HK7 := Lib.hid hK7; have HO7 := Lib.hid hO7; have HF7 := Lib.hid hF7; clear hA7 hK7 hO7 hF7))
              | (go_at_call 25; go_loud (refine (room_AO _ HS2.out.ao).mono ?_; rintro e w6 ⟨rfl, hB6⟩; have hA6 := HS2.out.ao.below hB6; rw [kc_nil (fun z => rest2 z + vx 0 0 z)] at hA6; have HA6 := Lib.hid hA6; have HB6 := Lib.hid hB6; clear hA6 hB6)))
            go_roundg (gk - 1)
            case measure => omega
            case rel =>
              have hsz := HB6.out.size
              have hbl := blk_lt HS2.out.blk
              have hO : ∀ i, O7 i → O2 i ∨ wr.heap.size ≤ i := fun i hi => (HO7.out i hi).imp id (fun q => by omega)
              have hws := HS2.out.bel.size
              have e1 : (fun z => rest2 z + vx 0 0 z + one i z) = fun z => (rest2 z + one i z) + vx 0 0 z := by funext z; omega
              have hA7 := HA7.out
              rw [e1] at hA7
              refine ⟨O7, _, _, fun z => rest2 z + one i z, by omega, by omega, fun z => ?_, hA7, HS2.out.rep.same (fun j h0 hj => KeepR.same HK7.out h0 (by show 0 < rest2 j + vx 0 0 j; omega)), HF7.out.blk (blk_below HS2.out.blk HB6.out) HS2.out.nb, fun q => ?_, fun i hi => ?_, ?_, HS2.out.wb⟩
              · have h1 := HR2.out z
                have h2 : one i z ≤ 1 := by unfold one; split <;> omega
                show ((rest2 z + one i z : Nat) : Int) ≤ live2 + 1
                omega
              · rcases hO b q with e | e
                · exact HS2.out.nb e
                · omega
              · rcases hO i hi with e | e
                · exact HS2.out.own i e
                · omega
              · exact Fr.below (S := fun j => W.heap.size ≤ j) (((Fr.of_new HS2.out.bel).more HB6.out).then_ HF7.out (fun i hi => .inl (HS2.out.own i hi))) (fun _ h => h) (Nat.le_refl _)
          · go_wp2_with (first
              | (go_at_call 22; have hx := HA8; clear hx; go_loud (refine (live_AO _ HA8.out).mono ?_; rintro e w9 ⟨rfl, rfl⟩))
              | (go_at_call 35; have hx := HA7; clear hx; go_loud (refine (set_none (a := a) 0 0 0 0 0 0 0 ⟨#[]⟩ _ (.inr (Int.le_refl _))).mono ?_; rintro e w8 ⟨rfl, hB8⟩; have HA8 := Lib.hid ((HA7.out.below hB8).below (below_alloc (Below.refl _ _) (.cells #[.int .i64 0, .int .i64 0, .int .i64 0] 61))); have HB8 := Lib.hid hB8; clear hB8))
              | (go_at_call 25; have hx := HFLAG; clear hx; go_loud (refine (room_AO _ HA6.out).mono ?_; rintro e w7 ⟨rfl, hB7⟩; have HA7 := Lib.hid (HA6.out.below hB7); have hv7 := blk_below HV6.out hB7; have z0 := blk_cell hv7 0; have z1 := blk_cell hv7 1; have z2 := blk_cell hv7 2; have HB7 := Lib.hid (HB6.out.trans (hB7.mono HB6.out.size)); clear hB7 hv7))
              | (go_at_call 22; go_loud (refine (live_AO _ HA6.out).mono ?_; rintro e w9 ⟨rfl, hw9⟩; subst hw9; have HFLAG := Lib.hid trivial))
              | (go_at_call 25; go_loud (refine (room_AO _ HS2.out.ao).mono ?_; rintro e w6 ⟨rfl, hB6⟩; have HA6 := Lib.hid (HS2.out.ao.below hB6); have HV6 := Lib.hid (blk_below HS2.out.blk hB6); have HB6 := Lib.hid hB6; clear hB6)))
            go_ret
            exact ⟨rfl, below_alloc ((HS2.out.bel.trans (HB7.out.mono HS2.out.bel.size)).trans (HB8.out.mono (Nat.le_trans HS2.out.bel.size HB7.out.size))) _⟩
      · have hj1 : 0 < j := by omega
        have hj0' : ¬ (j : Int) = 0 := by omega
        have hlj := hlv.2 hj1
        have hl32 : lvs j ≤ 32 := by unfold lvs; omega
        have hle2 : ((lvs j : Nat) : Int) ≤ 32 := by omega
        have hgt : ¬ (d : Int) + 3 < live := by unfold lvs at hlj; omega
        have ew : wrap64 ((d : Int) + 3) = d + 3 := by unfold wrap64; omega
        obtain ⟨h, hh⟩ : ∃ h : Nat, (j : Int).tdiv 2 = (h : Int) := ⟨j / 2, by rw [Int.tdiv_eq_ediv_of_nonneg (by omega)]; omega⟩
        have hhj : h < j := by rw [Int.tdiv_eq_ediv_of_nonneg (by omega)] at hh; omega
        have hh2 : (j : Int) / 2 = (h : Int) := by rw [Int.tdiv_eq_ediv_of_nonneg (by omega)] at hh; exact hh
        have x0 : wr.cell? ⟨b, 0, none⟩ = some (.int .i64 (j : Int)) := blk_cell hS.blk 0
        clear hS hlv hdj hlj hl32 hle2
        go_wp2_with (go_at_call 22; go_loud (refine (live_AO _ HS.out.ao).mono ?_; rintro e w5 ⟨rfl, rfl⟩))
        go_loopg [] ((4096 : Int) - live).toNat (fun q wr => ∃ (O2 : Nat → Prop) (f2 : Nat → Cell) (live2 : Int) (rest2 : Nat → Nat), (q : Int) = 4096 - live2 ∧ 0 ≤ live2 ∧ (∀ z, (rest2 z : Int) ≤ live2) ∧ VS W wr a b j r t (numL j) O2 f2 live2 4096 rest2)
        case atStart => exact ⟨_, _, _, _, by omega, by omega, fun z => by show ((0 : Nat) : Int) ≤ _; omega, HS.out⟩
        case round =>
          obtain ⟨O2, f2, live2, rest2, hq2, hl2, hr2, hS2⟩ := hrel
          have HS2 := Lib.hid hS2
          have HR2 := Lib.hid hr2
          have hm2 := hS2.ao.room
          have y0 : wr.cell? ⟨b, 0, none⟩ = some (.int .i64 (j : Int)) := blk_cell hS2.blk 0
          have y1 : wr.cell? ⟨b, 1, none⟩ = some (.int .i64 (r : Int)) := blk_cell hS2.blk 1
          have y2 : wr.cell? ⟨b, 2, none⟩ = some (.int .i64 (t : Int)) := blk_cell hS2.blk 2
          clear hS2 hr2
          by_cases hlt : (c : Int) < 4096 - live2
          · go_wp2_with (first
              | (go_at_call 21; go_loud (refine (make_ao (Q := fun _ => False) (rest := fun z => rest2 z + vx r t z) 0 0 0 _ _ [] [] _ HA6.out (row_none _ _ _) (row_none _ _ _) (fun _ h => h.elim) (by intro z hz; cases hz) (by omega) (by simp) (by simp) (fun z hz => by cases hz)).mono ?_; rintro e w7 ⟨i, O7, rfl, hA7, hi0, hri, _, hK7, hO7, hF7⟩; have HA7 := Lib.hid hA7; have HK7 := Lib.hid hK7; have HO7 := Lib.hid hO7; have HF7 := Lib.hid hF7; clear hA7 hK7 hO7 hF7))
              | (go_at_call 25; go_loud (refine (room_AO _ HS2.out.ao).mono ?_; rintro e w6 ⟨rfl, hB6⟩; have hA6 := HS2.out.ao.below hB6; rw [kc_nil (fun z => rest2 z + vx r t z)] at hA6; have HA6 := Lib.hid hA6; have HB6 := Lib.hid hB6; clear hA6 hB6)))
            go_roundg (gk - 1)
            case measure => omega
            case rel =>
              have hsz := HB6.out.size
              have hbl := blk_lt HS2.out.blk
              have hO : ∀ i, O7 i → O2 i ∨ wr.heap.size ≤ i := fun i hi => (HO7.out i hi).imp id (fun q => by omega)
              have hws := HS2.out.bel.size
              have e1 : (fun z => rest2 z + vx r t z + one i z) = fun z => (rest2 z + one i z) + vx r t z := by funext z; omega
              have hA7 := HA7.out
              rw [e1] at hA7
              refine ⟨O7, _, _, fun z => rest2 z + one i z, by omega, by omega, fun z => ?_, hA7, HS2.out.rep.same (fun j h0 hj => KeepR.same HK7.out h0 (by show 0 < rest2 j + vx r t j; omega)), HF7.out.blk (blk_below HS2.out.blk HB6.out) HS2.out.nb, fun q => ?_, fun i hi => ?_, ?_, HS2.out.wb⟩
              · have h1 := HR2.out z
                have h2 : one i z ≤ 1 := by unfold one; split <;> omega
                show ((rest2 z + one i z : Nat) : Int) ≤ live2 + 1
                omega
              · rcases hO b q with e | e
                · exact HS2.out.nb e
                · omega
              · rcases hO i hi with e | e
                · exact HS2.out.own i e
                · omega
              · exact Fr.below (S := fun j => W.heap.size ≤ j) (((Fr.of_new HS2.out.bel).more HB6.out).then_ HF7.out (fun i hi => .inl (HS2.out.own i hi))) (fun _ h => h) (Nat.le_refl _)
          · have hr3 : ∀ z, rest2 z ≤ 4096 := fun z => by have := HR2.out z; omega
            have hlev : lev (lvs j + 1) ≤ 1 := by unfold lev; split <;> omega
            have HR3 := Lib.hid hr3
            clear hr3
            by_cases hful : (4096 : Int) - live2 < (lev (lvs j + 1) : Int) + 3
            · have hl8 : (4096 : Int) - live2 < 8 := by omega
              have HFUL := Lib.hid hful
              clear hful hlev
              go_wp2_with (first
                | (go_at_call 22; have hx := HA8; clear hx; go_loud (refine (live_AO _ HA8.out).mono ?_; rintro e w9 ⟨rfl, rfl⟩))
                | (go_at_call 35; have hx := HA7; clear hx; go_loud (refine (set_full (rest := rest2) 0 j r t h 0 0 ⟨#[]⟩ _ HA7.out (by omega) (by omega) (fun z => Nat.le_trans (HR3.out z) (by decide)) (by have := HFUL.out; omega)).mono ?_; rintro e w8 ⟨rfl, hB8⟩; have HA8 := Lib.hid ((HA7.out.below hB8).below (below_alloc (Below.refl _ _) (.cells #[.int .i64 0, .int .i64 0, .int .i64 0] 61))); have HB8 := Lib.hid hB8; clear hB8))
                | (go_at_call 25; have hx := HFLAG; clear hx; go_loud (refine (room_AO _ HA6.out).mono ?_; rintro e w7 ⟨rfl, hB7⟩; have HA7 := Lib.hid (HA6.out.below hB7); have hv7 := blk_below HV6.out hB7; have z0 := blk_cell hv7 0; have z1 := blk_cell hv7 1; have z2 := blk_cell hv7 2; have HV7 := Lib.hid hv7; have HB7 := Lib.hid (HB6.out.trans (hB7.mono HB6.out.size)); clear hB7 hv7))
                | (go_at_call 22; go_loud (refine (live_AO _ HA6.out).mono ?_; rintro e w9 ⟨rfl, hw9⟩; subst hw9; have HFLAG := Lib.hid trivial))
                | (go_at_call 25; go_loud (refine (room_AO _ HS2.out.ao).mono ?_; rintro e w6 ⟨rfl, hB6⟩; have HA6 := Lib.hid (HS2.out.ao.below hB6); have HV6 := Lib.hid (blk_below HS2.out.blk hB6); have HB6 := Lib.hid hB6; clear hB6)))
              go_ret
              exact ⟨rfl, below_alloc ((HS2.out.bel.trans (HB7.out.mono HS2.out.bel.size)).trans (HB8.out.mono (Nat.le_trans HS2.out.bel.size HB7.out.size))) _⟩
            · have HFUL := Lib.hid hful
              clear hful hlev
              go_wp2_with (first
                | (go_at_call 37; have hx := HA10; clear hx; go_loud (refine (vdrop_calls (rest := RR rest2 0 r t) j r' t' _ HA10.out).mono ?_; rintro e w11 ⟨rfl, O11, f11, live11, hA11, hK11, _, hO11, hF11⟩; have HA11 := Lib.hid hA11; have HK11 := Lib.hid hK11; have HF11 := Lib.hid hF11; have hz8 := HB9.out.size; have hz9 := HB10.out.size; have HX11 := Lib.hid (And.intro (hF11.blk HX10.out.1 (fun q => by have := HL8.out _ q; simp only [World.size_alloc] at hz8 hz9; omega)) (hF11.blk HX10.out.2 (fun q => by have := HL8.out _ q; simp only [World.size_alloc] at hz8 hz9; omega))); have HO11 := Lib.hid hO11; clear hA11 hK11 hO11 hF11 hz8 hz9))
                | (go_at_call 36; have hx := HA9; clear hx; go_loud (refine (get_calls j r t h (numL j) 2 h ⟨#[]⟩ _ HA9.out HREP8.out (fun z => Nat.le_trans (HRR.out z) (Nat.le_add_right _ _)) (numL_at j h (by omega))).mono ?_; rintro e w10 ⟨rfl, hB10⟩; have HA10 := Lib.hid ((HA9.out.below hB10).below (below_alloc (Below.refl _ _) (.cells #[.int .u8 2, .int .i64 h, .string ⟨#[]⟩] 66))); have b1 := blk_alloc (blk_below HX9.out.2.1 hB10) (.cells #[.int .u8 2, .int .i64 h, .string ⟨#[]⟩] 66); have d0 := blk_cell b1 0; have d1 := blk_cell b1 1; have d2 := blk_cell b1 2; have HX10 := Lib.hid (And.intro (blk_alloc (blk_below HX9.out.2.2 hB10) (.cells #[.int .u8 2, .int .i64 h, .string ⟨#[]⟩] 66)) (blk_new w10 (.cells #[.int .u8 2, .int .i64 h, .string ⟨#[]⟩] 66))); have HB10 := Lib.hid hB10; clear hB10 b1))
                | (go_at_call 36; have hx := HA8; clear hx; go_loud (refine (get_calls j r' t' h ((numL j).set h (0, 0, ⟨#[]⟩)) 0 0 ⟨#[]⟩ _ HA8.out HV8.out (fun z => Nat.le_add_left _ _) (by rw [List.getElem?_set_self (by have := HS2.out.rep.1; omega)])).mono ?_; rintro e w9 ⟨rfl, hB9⟩; have HA9 := Lib.hid ((HA8.out.below hB9).below (below_alloc (Below.refl _ _) (.cells #[.int .u8 0, .int .i64 0, .string ⟨#[]⟩] 66))); have b0 := blk_alloc (blk_below HX8.out.1 hB9) (.cells #[.int .u8 0, .int .i64 0, .string ⟨#[]⟩] 66); have b1 := blk_alloc (blk_below HX8.out.2 hB9) (.cells #[.int .u8 0, .int .i64 0, .string ⟨#[]⟩] 66); have c0 := blk_cell b0 0; have c1 := blk_cell b0 1; have c2 := blk_cell b0 2; have d0 := blk_cell b1 0; have d1 := blk_cell b1 1; have d2 := blk_cell b1 2; have HX9 := Lib.hid (And.intro b0 (And.intro b1 (blk_new w9 (.cells #[.int .u8 0, .int .i64 0, .string ⟨#[]⟩] 66)))); have HB9 := Lib.hid hB9; clear hB9 b0 b1))
                | (go_at_call 35; have hx := HA7; clear hx; go_loud (refine (set_ok (rest := rest2) 0 j r t h (numL j) 0 0 ⟨#[]⟩ _ HA7.out HS2.out.rep (by omega) (fun z => Nat.le_trans (HR3.out z) (by decide)) (by have := HFUL.out; omega)).mono ?_; rintro e w8 ⟨r', t', O8, f8, live8, rfl, hA8, _, hV8, hK8, hO8, hF8⟩; have HA8 := Lib.hid (hA8.below (below_alloc (Below.refl _ _) (.cells #[.int .i64 j, .int .i64 r', .int .i64 t'] 61))); have HL8 := Lib.hid hA8.lt; have HV8 := Lib.hid hV8; have HK8 := Lib.hid hK8; have HO8 := Lib.hid hO8; have HF8 := Lib.hid hF8; have b0 := blk_alloc (hF8.blk HV7.out HS2.out.nb) (.cells #[.int .i64 j, .int .i64 r', .int .i64 t'] 61); have c0 := blk_cell b0 0; have c1 := blk_cell b0 1; have c2 := blk_cell b0 2; have HX8 := Lib.hid (And.intro b0 (blk_new w8 (.cells #[.int .i64 j, .int .i64 r', .int .i64 t'] 61))); have hrr : ∀ z, vx r t z ≤ RR rest2 0 r t z := (fun z => by unfold RR; rw [if_pos rfl]; exact Nat.le_add_left _ _); have HRR := Lib.hid hrr; have HREP8 := Lib.hid (HS2.out.rep.same (fun i h0 hi => KeepR.same hK8 h0 (by have := hrr i; omega))); clear hrr hA8 hV8 hK8 hO8 hF8 b0))
                | (go_at_call 25; have hx := HFLAG; clear hx; go_loud (refine (room_AO _ HA6.out).mono ?_; rintro e w7 ⟨rfl, hB7⟩; have HA7 := Lib.hid (HA6.out.below hB7); have hv7 := blk_below HV6.out hB7; have z0 := blk_cell hv7 0; have z1 := blk_cell hv7 1; have z2 := blk_cell hv7 2; have HV7 := Lib.hid hv7; have HB7 := Lib.hid (HB6.out.trans (hB7.mono HB6.out.size)); clear hB7 hv7))
                | (go_at_call 22; go_loud (refine (live_AO _ HA6.out).mono ?_; rintro e w9 ⟨rfl, hw9⟩; subst hw9; have HFLAG := Lib.hid trivial))
                | (go_at_call 25; go_loud (refine (room_AO _ HS2.out.ao).mono ?_; rintro e w6 ⟨rfl, hB6⟩; have HA6 := Lib.hid (HS2.out.ao.below hB6); have HV6 := Lib.hid (blk_below HS2.out.blk hB6); have HB6 := Lib.hid hB6; clear hB6)))
              have e7 : RR rest2 0 r t = fun z => rest2 z + vx r t z := by
                funext z
                unfold RR
                rw [if_pos rfl]
              have hA11 := HA11.out
              have hK81 := HK8.out.trans HK11.out
              rw [e7] at hA11 hK81
              have hll := live_same HS2.out.ao hA11 (fun i h0 hi => KeepR.same hK81 h0 hi)
              subst hll
              obtain ⟨V, hV⟩ : ∃ V, w11.drew = V := ⟨_, rfl⟩
              have hdv : Below w11.heap.size w11 V := by rw [← hV]; exact below_drew1 (Below.refl _ _)
              have a0 := blk_below HX11.out.1 hdv
              have a1 := blk_below HX11.out.2 hdv
              have p0 := blk_cell a0 0
              have p1 := blk_cell a0 1
              have p2 := blk_cell a0 2
              have q0 := blk_cell a1 0
              have q1 := blk_cell a1 1
              have q2 := blk_cell a1 2
              have HAV := Lib.hid (hA11.below hdv)
              have HXV := Lib.hid (And.intro a0 a1)
              have HDV := Lib.hid hdv
              have hnum : ∀ w, Calls Try.prog 34 #[.int .i64 (wrap64 (h : Int))] w fun e w' => e = .returned (valV 2 h ⟨#[]⟩) ∧ Below w.heap.size w w' := fun w => by rw [show wrap64 (h : Int) = h by unfold wrap64; omega]; exact number_calls h w
              have HNUM := Lib.hid hnum
              clear hA11 hK81 e7 a0 a1 hdv hnum
              refine start_ (n := 29) (S := fun w' => w'.cell? ⟨w9.heap.size, 0, none⟩ = some (.int .u8 0) ∧ w'.cell? ⟨w9.heap.size, 1, none⟩ = some (.int .i64 0) ∧ w'.cell? ⟨w9.heap.size, 2, none⟩ = some (.string ⟨#[]⟩) ∧ w'.cell? ⟨w10.heap.size, 0, none⟩ = some (.int .u8 2) ∧ w'.cell? ⟨w10.heap.size, 1, none⟩ = some (.int .i64 (h : Int)) ∧ w'.cell? ⟨w10.heap.size, 2, none⟩ = some (.string ⟨#[]⟩)) (ds := []) #[false, false, false, false, false, false, false, false, false, false, false, false, false, false, false, false, false, false, false, false, false, false, false, false, false, false, false, false, false] (by kernel_rfl) rfl rfl ⟨(by rw [hV]; exact p0), (by rw [hV]; exact p1), (by rw [hV]; exact p2), (by rw [hV]; exact q0), (by rw [hV]; exact q1), (by rw [hV]; exact q2)⟩ (fun hHeld => ?_)
              refine pure_ (i := 0) (N := some 137) (v := ?_) (a' := ?_) #[true, false, false, false, false, false, false, false, false, false, false, false, false, false, false, false, false, false, false, false, false, false, false, false, false, false, false, false, false] rfl rfl (by kernel_rfl) (fun _ _ _ h => h) (Or.inl ⟨by rfl, ?_⟩) ?_ ?_
              rotate_left
              · intro w'
                go_simp
                with_reducible rfl
              rotate_left
              · simp only [Act.put, List.setIfInBounds_toArray, List.set_cons_zero, List.set_cons_succ, i64_w, i32_w]
                rfl
              refine pure_ (i := 1) (N := some 138) (v := ?_) (a' := ?_) #[true, true, false, false, false, false, false, false, false, false, false, false, false, false, false, false, false, false, false, false, false, false, false, false, false, false, false, false, false] rfl rfl (by kernel_rfl) (fun _ _ _ h => h) (Or.inl ⟨by rfl, ?_⟩) ?_ ?_
              rotate_left
              · intro w'
                go_simp
                with_reducible rfl
              rotate_left
              · simp only [Act.put, List.setIfInBounds_toArray, List.set_cons_zero, List.set_cons_succ, i64_w, i32_w]
                rfl
              refine pure_ (i := 2) (N := some 139) (v := ?_) (a' := ?_) #[true, true, true, false, false, false, false, false, false, false, false, false, false, false, false, false, false, false, false, false, false, false, false, false, false, false, false, false, false] rfl rfl (by kernel_rfl) (fun _ _ _ h => h) (Or.inl ⟨by rfl, ?_⟩) ?_ ?_
              rotate_left
              · intro w'
                go_simp
                with_reducible rfl
              rotate_left
              · simp only [Act.put, List.setIfInBounds_toArray, List.set_cons_zero, List.set_cons_succ, i64_w, i32_w]
                rfl
              refine pure_ (i := 3) (N := some 140) (v := ?_) (a' := ?_) #[true, true, true, true, false, false, false, false, false, false, false, false, false, false, false, false, false, false, false, false, false, false, false, false, false, false, false, false, false] rfl rfl (by kernel_rfl) (fun _ _ _ h => h) (Or.inl ⟨by rfl, ?_⟩) ?_ ?_
              rotate_left
              · intro w'
                go_simp
                with_reducible rfl
              rotate_left
              · simp only [Act.put, List.setIfInBounds_toArray, List.set_cons_zero, List.set_cons_succ, i64_w, i32_w]
                rfl
              refine pure_ (i := 4) (N := some 141) (v := ?_) (a' := ?_) #[true, true, true, true, true, false, false, false, false, false, false, false, false, false, false, false, false, false, false, false, false, false, false, false, false, false, false, false, false] rfl rfl (by kernel_rfl) (fun _ _ _ h => h) (Or.inl ⟨by rfl, ?_⟩) ?_ ?_
              rotate_left
              · intro w'
                go_simp
                with_reducible rfl
              rotate_left
              · simp only [Act.put, List.setIfInBounds_toArray, List.set_cons_zero, List.set_cons_succ, i64_w, i32_w]
                rfl
              refine pure_ (i := 5) (N := some 142) (v := ?_) (a' := ?_) #[true, true, true, true, true, true, false, false, false, false, false, false, false, false, false, false, false, false, false, false, false, false, false, false, false, false, false, false, false] rfl rfl (by kernel_rfl) (fun _ _ _ h => h) (Or.inl ⟨by rfl, ?_⟩) ?_ ?_
              rotate_left
              · intro w'
                go_simp
                with_reducible rfl
              rotate_left
              · simp only [Act.put, List.setIfInBounds_toArray, List.set_cons_zero, List.set_cons_succ, i64_w, i32_w]
                rfl
              refine pure_ (i := 6) (N := some 143) (v := ?_) (a' := ?_) #[true, true, true, true, true, true, true, false, false, false, false, false, false, false, false, false, false, false, false, false, false, false, false, false, false, false, false, false, false] rfl rfl (by kernel_rfl) (fun _ _ _ h => h) (Or.inl ⟨by rfl, ?_⟩) ?_ ?_
              rotate_left
              · intro w'
                go_simp
                with_reducible rfl
              rotate_left
              · simp only [Act.put, List.setIfInBounds_toArray, List.set_cons_zero, List.set_cons_succ, i64_w, i32_w]
                rfl
              refine pure_ (i := 7) (N := some 144) (v := ?_) (a' := ?_) #[true, true, true, true, true, true, true, true, false, false, false, false, false, false, false, false, false, false, false, false, false, false, false, false, false, false, false, false, false] rfl rfl (by kernel_rfl) (fun _ _ _ h => h) (Or.inl ⟨by rfl, ?_⟩) ?_ ?_
              rotate_left
              · intro w'
                go_simp
                with_reducible rfl
              rotate_left
              · simp only [Act.put, List.setIfInBounds_toArray, List.set_cons_zero, List.set_cons_succ, i64_w, i32_w]
                rfl
              refine pure_ (i := 8) (N := some 145) (v := ?_) (a' := ?_) #[true, true, true, true, true, true, true, true, true, false, false, false, false, false, false, false, false, false, false, false, false, false, false, false, false, false, false, false, false] rfl rfl (by kernel_rfl) (fun _ _ _ h => h) (Or.inl ⟨by rfl, ?_⟩) ?_ ?_
              rotate_left
              · intro w'
                go_simp
                with_reducible rfl
              rotate_left
              · simp only [Act.put, List.setIfInBounds_toArray, List.set_cons_zero, List.set_cons_succ, i64_w, i32_w]
                rfl
              refine pure_ (i := 9) (N := some 146) (v := ?_) (a' := ?_) #[true, true, true, true, true, true, true, true, true, true, false, false, false, false, false, false, false, false, false, false, false, false, false, false, false, false, false, false, false] rfl rfl (by kernel_rfl) (fun _ _ _ h => h) (Or.inl ⟨by rfl, ?_⟩) ?_ ?_
              rotate_left
              · intro w'
                go_simp
                with_reducible rfl
              rotate_left
              · simp only [Act.put, List.setIfInBounds_toArray, List.set_cons_zero, List.set_cons_succ, i64_w, i32_w]
                rfl
              refine pure_ (i := 10) (N := some 147) (v := ?_) (a' := ?_) #[true, true, true, true, true, true, true, true, true, true, true, false, false, false, false, false, false, false, false, false, false, false, false, false, false, false, false, false, false] rfl rfl (by kernel_rfl) (fun _ _ _ h => h) (Or.inl ⟨by rfl, ?_⟩) ?_ ?_
              rotate_left
              · intro w'
                go_simp
                with_reducible rfl
              rotate_left
              · simp only [Act.put, List.setIfInBounds_toArray, List.set_cons_zero, List.set_cons_succ, i64_w, i32_w]
                rfl
              refine pure_ (i := 12) (N := some 149) (v := ?_) (a' := ?_) #[true, true, true, true, true, true, true, true, true, true, true, false, true, false, false, false, false, false, false, false, false, false, false, false, false, false, false, false, false] rfl rfl (by kernel_rfl) (fun _ _ _ h => h) (Or.inl ⟨by rfl, ?_⟩) ?_ ?_
              rotate_left
              · intro w'
                go_simp
                with_reducible rfl
              rotate_left
              · simp only [Act.put, List.setIfInBounds_toArray, List.set_cons_zero, List.set_cons_succ, i64_w, i32_w]
                rfl
              refine take_ (i := 11) (N := some 148) (v := ?_) (a' := ?_) #[true, true, true, true, true, true, true, true, true, true, true, true, true, false, false, false, false, false, false, false, false, false, false, false, false, false, false, false, false] rfl rfl (by kernel_rfl) (fun _ _ _ h => h) (Or.inl ⟨by rfl, ?_⟩) hHeld ?_ ?_
              rotate_left
              · rintro w' ⟨s0, s1, s2, s3, s4, s5⟩
                go_simp
                with_reducible rfl
              rotate_left
              · simp only [Act.put, List.setIfInBounds_toArray, List.set_cons_zero, List.set_cons_succ, i64_w, i32_w]
                rfl
              refine pure_ (i := 13) (N := some 150) (v := ?_) (a' := ?_) #[true, true, true, true, true, true, true, true, true, true, true, true, true, true, false, false, false, false, false, false, false, false, false, false, false, false, false, false, false] rfl rfl (by kernel_rfl) (fun _ _ _ h => h) (Or.inl ⟨by rfl, ?_⟩) ?_ ?_
              rotate_left
              · intro w'
                go_simp
                with_reducible rfl
              rotate_left
              · simp only [Act.put, List.setIfInBounds_toArray, List.set_cons_zero, List.set_cons_succ, i64_w, i32_w]
                rfl
              refine pure_ (i := 14) (N := some 151) (v := ?_) (a' := ?_) #[true, true, true, true, true, true, true, true, true, true, true, true, true, true, true, false, false, false, false, false, false, false, false, false, false, false, false, false, false] rfl rfl (by kernel_rfl) (fun _ _ _ h => h) (Or.inl ⟨by rfl, ?_⟩) ?_ ?_
              rotate_left
              · intro w'
                go_simp
                with_reducible rfl
              rotate_left
              · simp only [Act.put, List.setIfInBounds_toArray, List.set_cons_zero, List.set_cons_succ, i64_w, i32_w]
                rfl
              refine pure_ (i := 15) (N := some 152) (v := ?_) (a' := ?_) #[true, true, true, true, true, true, true, true, true, true, true, true, true, true, true, true, false, false, false, false, false, false, false, false, false, false, false, false, false] rfl rfl (by kernel_rfl) (fun _ _ _ h => h) (Or.inl ⟨by rfl, ?_⟩) ?_ ?_
              rotate_left
              · intro w'
                go_simp
                with_reducible rfl
              rotate_left
              · simp only [Act.put, List.setIfInBounds_toArray, List.set_cons_zero, List.set_cons_succ, i64_w, i32_w]
                rfl
              refine pure_ (i := 17) (N := some 154) (v := ?_) (a' := ?_) #[true, true, true, true, true, true, true, true, true, true, true, true, true, true, true, true, false, true, false, false, false, false, false, false, false, false, false, false, false] rfl rfl (by kernel_rfl) (fun _ _ _ h => h) (Or.inl ⟨by rfl, ?_⟩) ?_ ?_
              rotate_left
              · intro w'
                go_simp
                with_reducible rfl
              rotate_left
              · simp only [Act.put, List.setIfInBounds_toArray, List.set_cons_zero, List.set_cons_succ, i64_w, i32_w]
                rfl
              refine pure_ (i := 18) (N := some 155) (v := ?_) (a' := ?_) #[true, true, true, true, true, true, true, true, true, true, true, true, true, true, true, true, false, true, true, false, false, false, false, false, false, false, false, false, false] rfl rfl (by kernel_rfl) (fun _ _ _ h => h) (Or.inl ⟨by rfl, ?_⟩) ?_ ?_
              rotate_left
              · intro w'
                go_simp
                with_reducible rfl
              rotate_left
              · simp only [Act.put, List.setIfInBounds_toArray, List.set_cons_zero, List.set_cons_succ, i64_w, i32_w]
                rfl
              refine take_ (i := 16) (N := some 153) (v := ?_) (a' := ?_) #[true, true, true, true, true, true, true, true, true, true, true, true, true, true, true, true, true, true, true, false, false, false, false, false, false, false, false, false, false] rfl rfl (by kernel_rfl) (fun _ _ _ h => h) (Or.inl ⟨by rfl, ?_⟩) hHeld ?_ ?_
              rotate_left
              · rintro w' ⟨s0, s1, s2, s3, s4, s5⟩
                go_simp
                with_reducible rfl
              rotate_left
              · simp only [Act.put, List.setIfInBounds_toArray, List.set_cons_zero, List.set_cons_succ, i64_w, i32_w]
                rfl
              refine one_ (i := 19) (N := some 156) #[true, true, true, true, true, true, true, true, true, true, true, true, true, true, true, true, true, true, true, true, false, false, false, false, false, false, false, false, false] rfl rfl (by kernel_rfl) (by decide) (fun K hK => ?_)
              refine goes_ Try.func34 (by kernel_rfl) rfl #[.int .i64 (wrap64 (h : Int))] (by rfl) rfl rfl (by simp only [List.map_toArray, List.map_cons, List.map_nil]; rfl) ?_
              with_reducible refine (HNUM.out _).mono ?_
              rintro e w12 ⟨rfl, hB12⟩
              refine ⟨_, rfl, ?_⟩
              have HB12 := Lib.hid (hV ▸ hB12 : Below V.heap.size V w12)
              refine hK.out _ _ ⟨(blk_cell (blk_below HXV.out.1 HB12.out) 0), (blk_cell (blk_below HXV.out.1 HB12.out) 1), (blk_cell (blk_below HXV.out.1 HB12.out) 2), (blk_cell (blk_below HXV.out.2 HB12.out) 0), (blk_cell (blk_below HXV.out.2 HB12.out) 1), (blk_cell (blk_below HXV.out.2 HB12.out) 2)⟩ (fun hHeld => ?_)
              clear hK K
              refine norm_ (a' := ?_) ?_ ?_
              rotate_left
              · show Act.put _ (some 156) _ = _
                simp only [Act.put, List.setIfInBounds_toArray, List.set_cons_zero, List.set_cons_succ, i64_w, i32_w]
                rfl
              refine pure_ (i := 20) (N := some 157) (v := ?_) (a' := ?_) #[true, true, true, true, true, true, true, true, true, true, true, true, true, true, true, true, true, true, true, true, true, false, false, false, false, false, false, false, false] rfl rfl (by kernel_rfl) (fun _ _ _ h => h) (Or.inl ⟨by rfl, ?_⟩) ?_ ?_
              rotate_left
              · intro w'
                go_simp
                with_reducible rfl
              rotate_left
              · simp only [Act.put, List.setIfInBounds_toArray, List.set_cons_zero, List.set_cons_succ, i64_w, i32_w]
                rfl
              refine pure_ (i := 21) (N := some 158) (v := ?_) (a' := ?_) #[true, true, true, true, true, true, true, true, true, true, true, true, true, true, true, true, true, true, true, true, true, true, false, false, false, false, false, false, false] rfl rfl (by kernel_rfl) (fun _ _ _ h => h) (Or.inl ⟨by rfl, ?_⟩) ?_ ?_
              rotate_left
              · intro w'
                go_simp
                with_reducible rfl
              rotate_left
              · simp only [Act.put, List.setIfInBounds_toArray, List.set_cons_zero, List.set_cons_succ, i64_w, i32_w]
                rfl
              refine pure_ (i := 22) (N := some 159) (v := ?_) (a' := ?_) #[true, true, true, true, true, true, true, true, true, true, true, true, true, true, true, true, true, true, true, true, true, true, true, false, false, false, false, false, false] rfl rfl (by kernel_rfl) (fun _ _ _ h => h) (Or.inl ⟨by rfl, ?_⟩) ?_ ?_
              rotate_left
              · intro w'
                go_simp
                with_reducible rfl
              rotate_left
              · simp only [Act.put, List.setIfInBounds_toArray, List.set_cons_zero, List.set_cons_succ, i64_w, i32_w]
                rfl
              refine pure_ (i := 23) (N := some 160) (v := ?_) (a' := ?_) #[true, true, true, true, true, true, true, true, true, true, true, true, true, true, true, true, true, true, true, true, true, true, true, true, false, false, false, false, false] rfl rfl (by kernel_rfl) (fun _ _ _ h => h) (Or.inl ⟨by rfl, ?_⟩) ?_ ?_
              rotate_left
              · intro w'
                go_simp
                with_reducible rfl
              rotate_left
              · simp only [Act.put, List.setIfInBounds_toArray, List.set_cons_zero, List.set_cons_succ, i64_w, i32_w]
                rfl
              refine pure_ (i := 25) (N := some 162) (v := ?_) (a' := ?_) #[true, true, true, true, true, true, true, true, true, true, true, true, true, true, true, true, true, true, true, true, true, true, true, true, false, true, false, false, false] rfl rfl (by kernel_rfl) (fun _ _ _ h => h) (Or.inl ⟨by rfl, ?_⟩) ?_ ?_
              rotate_left
              · intro w'
                go_simp
                with_reducible rfl
              rotate_left
              · simp only [Act.put, List.setIfInBounds_toArray, List.set_cons_zero, List.set_cons_succ, i64_w, i32_w]
                rfl
              refine one_ (i := 24) (N := some 161) #[true, true, true, true, true, true, true, true, true, true, true, true, true, true, true, true, true, true, true, true, true, true, true, true, true, true, false, false, false] rfl rfl (by kernel_rfl) (by decide) (fun K hK => ?_)
              refine goes_ Try.func22 (by kernel_rfl) rfl #[.pointer (some ⟨a, 0, none⟩)] (by rfl) rfl rfl (by simp only [List.map_toArray, List.map_cons, List.map_nil]; rfl) ?_
              with_reducible refine (live_AO _ (HAV.out.below HB12.out)).mono ?_
              rintro e w13 ⟨rfl, hw13⟩
              refine ⟨_, rfl, ?_⟩
              subst hw13
              refine hK.out _ _ ⟨(blk_cell (blk_below HXV.out.1 HB12.out) 0), (blk_cell (blk_below HXV.out.1 HB12.out) 1), (blk_cell (blk_below HXV.out.1 HB12.out) 2), (blk_cell (blk_below HXV.out.2 HB12.out) 0), (blk_cell (blk_below HXV.out.2 HB12.out) 1), (blk_cell (blk_below HXV.out.2 HB12.out) 2)⟩ (fun hHeld => ?_)
              clear hK K
              refine norm_ (a' := ?_) ?_ ?_
              rotate_left
              · show Act.put _ (some 161) _ = _
                simp only [Act.put, List.setIfInBounds_toArray, List.set_cons_zero, List.set_cons_succ, i64_w, i32_w]
                rfl
              refine pure_ (i := 26) (N := some 163) (v := ?_) (a' := ?_) #[true, true, true, true, true, true, true, true, true, true, true, true, true, true, true, true, true, true, true, true, true, true, true, true, true, true, true, false, false] rfl rfl (by kernel_rfl) (fun _ _ _ h => h) (Or.inl ⟨by rfl, ?_⟩) ?_ ?_
              rotate_left
              · intro w'
                go_simp
                with_reducible rfl
              rotate_left
              · simp only [Act.put, List.setIfInBounds_toArray, List.set_cons_zero, List.set_cons_succ, i64_w, i32_w]
                rfl
              refine pure_ (i := 27) (N := some 164) (v := ?_) (a' := ?_) #[true, true, true, true, true, true, true, true, true, true, true, true, true, true, true, true, true, true, true, true, true, true, true, true, true, true, true, true, false] rfl rfl (by kernel_rfl) (fun _ _ _ h => h) (Or.inl ⟨by rfl, ?_⟩) ?_ ?_
              rotate_left
              · intro w'
                go_simp
                with_reducible rfl
              rotate_left
              · simp only [Act.put, List.setIfInBounds_toArray, List.set_cons_zero, List.set_cons_succ, i64_w, i32_w]
                rfl
              refine pure_ (i := 28) (N := some 4) (v := ?_) (a' := ?_) #[true, true, true, true, true, true, true, true, true, true, true, true, true, true, true, true, true, true, true, true, true, true, true, true, true, true, true, true, true] rfl rfl (by kernel_rfl) (fun _ _ _ h => h) (Or.inl ⟨by rfl, ?_⟩) ?_ ?_
              rotate_left
              · intro w'
                go_simp
                with_reducible rfl
              rotate_left
              · simp only [Act.put, List.setIfInBounds_toArray, List.set_cons_zero, List.set_cons_succ, i64_w, i32_w]
                rfl
              refine done_ (by kernel_rfl) ?_

              go_wp2
              go_ret
              have hS1 := (Fr.of_new (S := fun j => W.heap.size ≤ j) HS2.out.bel).more HB7.out
              have hS2 := ((((((hS1.then_ HF8.out (fun i hi => .inl (HS2.out.own i hi))).more (below_alloc (Below.refl _ _) (.cells #[.int .i64 j, .int .i64 r', .int .i64 t'] 61))).more HB9.out).more (below_alloc (Below.refl _ _) (.cells #[.int .u8 0, .int .i64 0, .string ⟨#[]⟩] 66))).more HB10.out).more (below_alloc (Below.refl _ _) (.cells #[.int .u8 2, .int .i64 h, .string ⟨#[]⟩] 66)))
              have hs7 := hS1.size
              have hS3 := ((hS2.then_ HF11.out (fun i hi => by
                rcases HO8.out i hi with q | q
                · exact .inl (HS2.out.own i q)
                · exact .inl (by omega))).more HDV.out).more HB12.out
              exact ⟨rfl, Fr.below hS3 (fun _ h => h) (Nat.le_refl _)⟩
end Go.Proofs.Ytnipbfhfaefieaa.Pv
