/- Texts of this claim, laid together: PwD. -/
import Derived.Test.YtnipbfhfaefieaaVr
import Derived.Deep.LoopGhost
/-! pvec: PvecRoom. -/
namespace Go.Proofs.Ytnipbfhfaefieaa.Pv
open Go.RowKit Go Go.Proofs.YtnipbfhfaefieaaW.PrintWords Go.Proofs.YtnipbfhfaefieaaW.PrintMore Go.Proofs.YtnipbfhfaefieaaW.PrintLast Go.Proofs.Ytnipbfhfaefieaa.Bts Go.Proofs.Ytnipbfhfaefieaa.Fra Go.Proofs.Ytnipbfhfaefieaa.ArnP Go.Proofs.Ytnipbfhfaefieaa.Arn Go.Proofs.Ytnipbfhfaefieaa.Ao
def numL (j : Nat) : List V3 := (List.range j).map fun i : Nat => (2, (i : Int), ⟨#[]⟩)
theorem numL_succ (j : Nat) : numL (j + 1) = numL j ++ [(2, (j : Int), ⟨#[]⟩)] := by
  unfold numL
  rw [List.range_succ, List.map_append]
  rfl
theorem numL_at (j i : Nat) (h : i < j) : (numL j)[i]? = some (2, (i : Int), ⟨#[]⟩) := by
  unfold numL
  rw [List.getElem?_map, List.getElem?_range h]
  rfl
abbrev vecB (w : World) (b : Nat) (n r t : Int) : Prop := w.heap[b]? = some (.cells #[.int .i64 n, .int .i64 r, .int .i64 t] 61 (0, 0))
/-- A vector of the caller's, whose words stand in block b. -/
structure VS (W wr : World) (a b : Nat) (n r t : Nat) (l : List V3) (O : Nat → Prop) (f : Nat → Cell) (live most : Int) (rest : Nat → Nat) : Prop where
  ao : AO wr O a f live most (fun z => rest z + vx r t z) nop
  rep : VRep f n r t l
  blk : vecB wr b n r t
  nb : ¬ O b
  own : ∀ i, O i → W.heap.size ≤ i
  bel : Below W.heap.size W wr
  wb : W.heap.size ≤ b
theorem fr3c (w : World) (b : Nat) (x y z : Value) : Fr (fun j => j = b) w (((w.setCell ⟨b, 0, none⟩ x).setCell ⟨b, 1, none⟩ y).setCell ⟨b, 2, none⟩ z) :=
  Fr.put (S := fun j => j = b) (Fr.put (S := fun j => j = b) (Fr.put (S := fun j => j = b) (Fr.refl (fun j => j = b) w) (p := ⟨b, 0, none⟩) (.inl rfl) x) (p := ⟨b, 1, none⟩) (.inl rfl) y) (p := ⟨b, 2, none⟩) (.inl rfl) z
theorem RR_own (rest : Nat → Nat) (r t : Nat) : RR rest 1 r t = rest := by
  funext z
  unfold RR
  rw [if_neg (by decide)]
  rfl
set_option maxHeartbeats 4000000 in
set_option maxRecDepth 100000 in
theorem walk (x0 : Int) (x1 : Int) (W : World) (p0 : (IntKind.i64.min ≤ x0 ∧ x0 ≤ IntKind.i64.max)) (p1 : (IntKind.i64.min ≤ x1 ∧ x1 ≤ IntKind.i64.max)) :
    Calls Try.prog 7 #[.int .i64 x0, .int .i64 x1] W fun e W' => e = .returned (.bool true) ∧ Below W.heap.size W W' := by
  clear p0 p1
  go_enter Try.func7, Try.ntmps7
  go_wp2_with (first
    | (go_at_call 20; go_loud (refine (new_AO 4096 _ (by decide) (by decide)).mono ?_; rintro e w2 ⟨a, O, rfl, hA, hO, hB⟩; have HA2 := Lib.hid hA; have HO2 := Lib.hid (fun j hj => Nat.le_trans HB1.out.size (hO j hj)); have HB2 := Lib.hid (HB1.out.trans (hB.mono HB1.out.size)); clear hA hO hB))
    | (go_at_call 32; go_loud (refine (lives_calls _).mono ?_; rintro e w1 ⟨rfl, hb1⟩; have HB1 := Lib.hid hb1; clear hb1)))
  obtain ⟨k, hk, hk2⟩ : ∃ k : Nat, wrap64 ((IntKind.u64.wrap x0).tmod 1025) = k ∧ k ≤ 1024 := by
    have h1 : 0 ≤ IntKind.u64.wrap x0 := (by rw [IntKind.wrap_u64]; omega)
    have h2 : 0 ≤ (IntKind.u64.wrap x0).tmod 1025 := Int.tmod_nonneg _ h1
    have h3 : (IntKind.u64.wrap x0).tmod 1025 < 1025 := Int.tmod_lt_of_pos _ (by decide)
    obtain ⟨m, hm⟩ : ∃ m, (IntKind.u64.wrap x0).tmod 1025 = m := ⟨_, rfl⟩
    rw [hm] at h2 h3 ⊢
    refine ⟨m.toNat, ?_, by omega⟩
    unfold wrap64
    omega
  rw [hk]
  have hk2' : (k : Int) ≤ 1024 := by omega
  clear hk
  obtain ⟨b, hb⟩ : ∃ b, w2.heap.size = b := ⟨_, rfl⟩
  have hS0 : VS W (w2.alloc (.cells #[.int .i64 0, .int .i64 0, .int .i64 0] 61)) a b 0 0 0 (numL 0) O f0 0 4096 no0 := by
    subst hb
    exact ⟨HA2.out.below (below_alloc (Below.refl _ _) _), ⟨rfl, by omega, .inl ⟨rfl, rfl, rfl⟩⟩, blk_new _ _, fun q => by have := HA2.out.lt _ q; omega, HO2.out, below_alloc HB2.out _, HB2.out.size⟩
  have HS0 := Lib.hid hS0
  rw [hb]
  clear hS0 HA2 HO2 HB2 HB1 hb
  go_loopg [7, 30] k (fun q e i wr => ∃ (j r t : Nat) (Oj : Nat → Prop) (f : Nat → Cell) (live : Int), q + j = k ∧ e = .int .i64 0 ∧ i = .int .i64 (j : Int) ∧ VS W wr a b j r t (numL j) Oj f live 4096 no0)
  case atStart => exact ⟨0, 0, 0, O, f0, 0, rfl, rfl, rfl, HS0.out⟩
  case round =>
    obtain ⟨j, r, t, Oj, f, live, hq, rfl, rfl, hS⟩ := hrel
    have HS := Lib.hid hS
    by_cases hj : j < k
    · have hj' : (j : Int) < (k : Int) := by omega
      have hlv := vec_live hS.ao hS.rep
      have hful : ¬ (4096 : Int) - live < (lev (lvs j + 1) : Int) + 3 := by
        have h1 : lev (lvs j + 1) ≤ 1 := by unfold lev; split <;> omega
        have h2 : lvs j ≤ 32 := by unfold lvs; omega
        rcases Nat.eq_zero_or_pos j with q | q
        · have := hlv.1 q; omega
        · have := hlv.2 q; omega
      obtain ⟨V, hV⟩ : ∃ V, wr.drew = V := ⟨_, rfl⟩
      have hd : Below wr.heap.size wr V := by rw [← hV]; exact below_drew1 (Below.refl _ _)
      have hx := blk_below hS.blk hd
      have x0 := blk_cell hx 0
      have x1 := blk_cell hx 1
      have x2 := blk_cell hx 2
      have HX := Lib.hid hx
      have HAV := Lib.hid (hS.ao.below hd)
      have HD := Lib.hid hd
      have HFUL := Lib.hid hful
      clear hd hx hS hful hlv
      go_wp2
      refine start_ (n := 10) (S := fun w' => w'.cell? ⟨b, 0, none⟩ = some (.int .i64 (j : Int)) ∧ w'.cell? ⟨b, 1, none⟩ = some (.int .i64 (r : Int)) ∧ w'.cell? ⟨b, 2, none⟩ = some (.int .i64 (t : Int))) (ds := [8]) #[false, false, false, false, false, false, false, false, false, false] (by kernel_rfl) rfl rfl ⟨(by rw [hV]; exact x0), (by rw [hV]; exact x1), (by rw [hV]; exact x2)⟩ (fun hHeld => ?_)
      refine pure_ (i := 0) (N := some 34) (v := ?_) (a' := ?_) #[true, false, false, false, false, false, false, false, false, false] rfl rfl (by kernel_rfl) (fun _ _ _ h => h) (Or.inl ⟨by rfl, ?_⟩) ?_ ?_
      rotate_left
      · intro w'
        go_simp
        with_reducible rfl
      rotate_left
      · simp only [Act.put, List.setIfInBounds_toArray, List.set_cons_zero, List.set_cons_succ, i64_w, i32_w]
        rfl
      refine pure_ (i := 2) (N := some 36) (v := ?_) (a' := ?_) #[true, false, true, false, false, false, false, false, false, false] rfl rfl (by kernel_rfl) (fun _ _ _ h => h) (Or.inl ⟨by rfl, ?_⟩) ?_ ?_
      rotate_left
      · intro w'
        go_simp
        with_reducible rfl
      rotate_left
      · simp only [Act.put, List.setIfInBounds_toArray, List.set_cons_zero, List.set_cons_succ, i64_w, i32_w]
        rfl
      refine take_ (i := 1) (N := some 35) (v := ?_) (a' := ?_) #[true, true, true, false, false, false, false, false, false, false] rfl rfl (by kernel_rfl) (fun _ _ _ h => h) (Or.inl ⟨by rfl, ?_⟩) hHeld ?_ ?_
      rotate_left
      · rintro w' ⟨s0, s1, s2⟩
        go_simp
        with_reducible rfl
      rotate_left
      · simp only [Act.put, List.setIfInBounds_toArray, List.set_cons_zero, List.set_cons_succ, i64_w, i32_w]
        rfl
      refine one_ (i := 3) (N := some 37) #[true, true, true, true, false, false, false, false, false, false] rfl rfl (by kernel_rfl) (by decide) (fun K hK => ?_)
      refine goes_ Try.func34 (by kernel_rfl) rfl #[.int .i64 j] (by rfl) rfl rfl (by simp only [List.map_toArray, List.map_cons, List.map_nil]; rfl) ?_
      with_reducible refine (number_calls j _).mono ?_
      rintro e w4 ⟨rfl, hB4⟩
      refine ⟨_, rfl, ?_⟩
      have HB4 := Lib.hid (hV ▸ hB4 : Below V.heap.size V w4)
      refine hK.out _ _ ⟨(blk_cell (blk_below HX.out HB4.out) 0), (blk_cell (blk_below HX.out HB4.out) 1), (blk_cell (blk_below HX.out HB4.out) 2)⟩ (fun hHeld => ?_)
      clear hK K
      refine norm_ (a' := ?_) ?_ ?_
      rotate_left
      · show Act.put _ (some 37) _ = _
        simp only [Act.put, List.setIfInBounds_toArray, List.set_cons_zero, List.set_cons_succ, i64_w, i32_w]
        rfl
      refine one_ (i := 4) (N := some 38) #[true, true, true, true, true, false, false, false, false, false] rfl rfl (by kernel_rfl) (by decide) (fun K hK => ?_)
      refine goes_ Try.func33 (by kernel_rfl) rfl #[.pointer (some ⟨a, 0, none⟩), vecV j r t, valV 2 j ⟨#[]⟩, .int .u32 1] (by rfl) rfl rfl (by simp only [List.map_toArray, List.map_cons, List.map_nil]; rfl) ?_
      with_reducible refine (push_ok (rest := no0) 1 j r t (numL j) 2 j ⟨#[]⟩ _ (HAV.out.below HB4.out) HS.out.rep (by omega) (fun _ => Nat.zero_le _) (by have := HFUL.out; omega)).mono ?_
      rintro e w5 ⟨r', t', O5, f5, live5, rfl, hA5, _, hV5, _, hO5, hF5⟩
      refine ⟨_, rfl, ?_⟩
      have HA5 := Lib.hid hA5
      have HV5 := Lib.hid hV5
      have HO5 := Lib.hid hO5
      have HF5 := Lib.hid hF5
      have g0 := hF5.blk (blk_below HX.out HB4.out) HS.out.nb
      have y0 := blk_frozen g0 0
      have y1 := blk_frozen g0 1
      have y2 := blk_frozen g0 2
      have HG := Lib.hid g0
      clear hA5 hV5 hO5 hF5 g0
      refine hK.out _ _ ⟨(blk_cell HG.out 0), (blk_cell HG.out 1), (blk_cell HG.out 2)⟩ (fun hHeld => ?_)
      clear hK K
      refine norm_ (a' := ?_) ?_ ?_
      rotate_left
      · show Act.put _ (some 38) _ = _
        simp only [Act.put, List.setIfInBounds_toArray, List.set_cons_zero, List.set_cons_succ, i64_w, i32_w]
        rfl
      refine pure_ (i := 5) (N := some 33) (v := ?_) (a' := ?_) #[true, true, true, true, true, true, false, false, false, false] rfl rfl (by kernel_rfl) (fun _ _ _ h => h) (Or.inl ⟨by rfl, ?_⟩) ?_ ?_
      rotate_left
      · intro w'
        go_simp
        with_reducible rfl
      rotate_left
      · simp only [Act.put, List.setIfInBounds_toArray, List.set_cons_zero, List.set_cons_succ, i64_w, i32_w]
        rfl
      refine pure_ (i := 6) (N := some 39) (v := ?_) (a' := ?_) #[true, true, true, true, true, true, true, false, false, false] rfl rfl (by kernel_rfl) (fun _ _ _ h => h) (Or.inl ⟨by rfl, ?_⟩) ?_ ?_
      rotate_left
      · intro w'
        go_simp
        with_reducible rfl
      rotate_left
      · simp only [Act.put, List.setIfInBounds_toArray, List.set_cons_zero, List.set_cons_succ, i64_w, i32_w]
        rfl
      refine pure_ (i := 7) (N := some 40) (v := ?_) (a' := ?_) #[true, true, true, true, true, true, true, true, false, false] rfl rfl (by kernel_rfl) (fun _ _ _ h => h) (Or.inl ⟨by rfl, ?_⟩) ?_ ?_
      rotate_left
      · intro w'
        go_simp
        with_reducible rfl
      rotate_left
      · simp only [Act.put, List.setIfInBounds_toArray, List.set_cons_zero, List.set_cons_succ, i64_w, i32_w]
        rfl
      refine last_ (i := 8) (N := none) #[true, true, true, true, true, true, true, true, true, false] rfl rfl (by kernel_rfl) (by decide) (fun K hK => ?_)
      refine skip_ (w1 := ?_) (by rfl) rfl ?_ ?_
      rotate_left
      · go_simp
        rfl
      refine hK.out _ _ ?_
      clear hK K
      refine pure_ (i := 9) (N := some 7) (v := ?_) (a' := ?_) #[true, true, true, true, true, true, true, true, true, true] rfl rfl (by kernel_rfl) (fun _ _ _ h => h) (Or.inl ⟨by rfl, ?_⟩) ?_ ?_
      rotate_left
      · intro w'
        go_simp
        with_reducible rfl
      rotate_left
      · simp only [Act.put, List.setIfInBounds_toArray, List.set_cons_zero, List.set_cons_succ, i64_w, i32_w]
        rfl
      refine done_ (by kernel_rfl) ?_

      go_wp2
      go_roundg (gk - 1)
      case measure => omega
      case rel =>
        have hbl := blk_lt HX.out
        have hsz := HB4.out.size
        have hsd := HD.out.size
        have hF6 := fr3c w5 b (.int .i64 ((j : Int) + 1)) (.int .i64 r') (.int .i64 t')
        have hO : ∀ i, O5 i → Oj i ∨ wr.heap.size ≤ i := fun i hi => (HO5.out i hi).imp id (fun q => by omega)
        have hnb : ¬ O5 b := fun q => by
          rcases hO b q with e | e
          · exact HS.out.nb e
          · have := blk_lt HS.out.blk
            omega
        have hws := HS.out.bel.size
        have hA6 := HA5.out.move hF6 (fun i hi e => by rw [e] at hi; exact hnb hi)
        rw [RR_own] at hA6
        refine ⟨j + 1, r', t', O5, f5, live5, by omega, rfl, by simp, hA6, by rw [numL_succ]; exact HV5.out, ret3 HG.out _ _ _, hnb, fun i hi => ?_, ?_, HS.out.wb⟩
        · rcases hO i hi with e | e
          · exact HS.out.own i e
          · omega
        · exact Fr.below (S := fun j => W.heap.size ≤ j) ((((Fr.of_new HS.out.bel).more HD.out).more HB4.out |>.then_ HF5.out (fun i hi => .inl (HS.out.own i hi))).then_ hF6 (fun i hi => .inl (by rw [hi]; exact HS.out.wb))) (fun _ h => h) (Nat.le_refl _)
    · have hjk : j = k := by omega
      subst hjk
      have hj' : ¬ (j : Int) < (j : Int) := by omega
      have hlv := vec_live hS.ao hS.rep
      have hlr := hS.ao.room
      obtain ⟨d, hd⟩ : ∃ d : Nat, (j : Int).tdiv 16 = (d : Int) := ⟨j / 16, by rw [Int.tdiv_eq_ediv_of_nonneg (by omega)]; omega⟩
      have hdj : d = j / 16 := by rw [Int.tdiv_eq_ediv_of_nonneg (by omega)] at hd; omega
      have hd2 : (j : Int) / 16 = (d : Int) := by omega
      obtain ⟨c, hc, hc2⟩ : ∃ c : Nat, wrap64 ((IntKind.u64.wrap x1).tmod 12) = c ∧ c ≤ 11 := by
        have h1 : 0 ≤ IntKind.u64.wrap x1 := (by rw [IntKind.wrap_u64]; omega)
        have h2 : 0 ≤ (IntKind.u64.wrap x1).tmod 12 := Int.tmod_nonneg _ h1
        have h3 : (IntKind.u64.wrap x1).tmod 12 < 12 := Int.tmod_lt_of_pos _ (by decide)
        obtain ⟨m, hm⟩ : ∃ m, (IntKind.u64.wrap x1).tmod 12 = m := ⟨_, rfl⟩
        rw [hm] at h2 h3 ⊢
        refine ⟨m.toNat, ?_, by omega⟩
        unfold wrap64
        omega
      have hc2' : (c : Int) ≤ 11 := by omega
      by_cases hj0 : j = 0
      · subst hj0
        have hl0 := hlv.1 rfl
        subst hl0
        obtain ⟨rfl, rfl⟩ : r = 0 ∧ t = 0 := by
          rcases hS.rep.2.2 with ⟨_, q1, q2⟩ | ⟨q, _⟩
          · exact ⟨q1, q2⟩
          · omega
        have x0 : wr.cell? ⟨b, 0, none⟩ = some (.int .i64 0) := blk_cell hS.blk 0
        have x1 : wr.cell? ⟨b, 1, none⟩ = some (.int .i64 0) := blk_cell hS.blk 1
        have x2 : wr.cell? ⟨b, 2, none⟩ = some (.int .i64 0) := blk_cell hS.blk 2
        have hd0 : d = 0 := by omega
        subst hd0
        clear hS hlv hd hd2 hdj
        go_wp2_with (go_at_call 22; go_loud (refine (live_AO _ HS.out.ao).mono ?_; rintro e w5 ⟨rfl, rfl⟩))
        go_loopg [] ((4096 : Int) - 0).toNat (fun q wr => ∃ (O2 : Nat → Prop) (f2 : Nat → Cell) (live2 : Int) (rest2 : Nat → Nat), (q : Int) = 4096 - live2 ∧ 0 ≤ live2 ∧ (∀ z, (rest2 z : Int) ≤ live2) ∧ VS W wr a b 0 0 0 (numL 0) O2 f2 live2 4096 rest2)
        case atStart => exact ⟨_, _, _, _, by omega, by omega, fun z => by show ((0 : Nat) : Int) ≤ _; omega, HS.out⟩
        case round =>
          obtain ⟨O2, f2, live2, rest2, hq2, hl2, hr2, hS2⟩ := hrel
          have HS2 := Lib.hid hS2
          have HR2 := Lib.hid hr2
          have hm2 := hS2.ao.room
          have y0 : wr.cell? ⟨b, 0, none⟩ = some (.int .i64 0) := blk_cell hS2.blk 0
          have y1 : wr.cell? ⟨b, 1, none⟩ = some (.int .i64 0) := blk_cell hS2.blk 1
          have y2 : wr.cell? ⟨b, 2, none⟩ = some (.int .i64 0) := blk_cell hS2.blk 2
          clear hS2 hr2
          by_cases hlt : (c : Int) < 4096 - live2
          · go_wp2_with (first
              | (go_at_call 21; go_loud (refine (make_ao (Q := fun _ => False) (rest := fun z => rest2 z + vx 0 0 z) 0 0 0 _ _ [] [] _ HA6.out (row_none _ _ _) (row_none _ _ _) (fun _ h => h.elim) (by intro z hz; cases hz) (by omega) (by simp) (by simp) (fun z hz => by cases hz)).mono ?_; rintro e w7 ⟨i, O7, rfl, hA7, hi0, hri, _, hK7, hO7, hF7⟩; have HA7 := Lib.hid hA7; have HK7 := Lib.hid hK7; have HO7 := Lib.hid hO7; have HF7 := Lib.hid hF7; clear hA7 hK7 hO7 hF7))
              | (go_at_call 25; go_loud (refine (room_AO _ HS2.out.ao).mono ?_; rintro e w6 ⟨rfl, hB6⟩; have hA6 := HS2.out.ao.below hB6; rw [kc_nil (fun z => rest2 z + vx 0 0 z)] at hA6; have HA6 := Lib.hid hA6; have HB6 := Lib.hid hB6; clear hA6 hB6)))
            go_roundg (gk - 1)
            case measure => omega
            case rel =>
              have hsz := HB6.out.size
              have hbl := blk_lt HS2.out.blk
              have hO : ∀ i, O7 i → O2 i ∨ wr.heap.size ≤ i := fun i hi => (HO7.out i hi).imp id (fun q => by omega)
              have hws := HS2.out.bel.size
              have e1 : (fun z => rest2 z + vx 0 0 z + one i z) = fun z => (rest2 z + one i z) + vx 0 0 z := by funext z; omega
              have hA7 := HA7.out
              rw [e1] at hA7
              refine ⟨O7, _, _, fun z => rest2 z + one i z, by omega, by omega, fun z => ?_, hA7, HS2.out.rep.same (fun j h0 hj => KeepR.same HK7.out h0 (by show 0 < rest2 j + vx 0 0 j; omega)), HF7.out.blk (blk_below HS2.out.blk HB6.out) HS2.out.nb, fun q => ?_, fun i hi => ?_, ?_, HS2.out.wb⟩
              · have h1 := HR2.out z
                have h2 : one i z ≤ 1 := by unfold one; split <;> omega
                show ((rest2 z + one i z : Nat) : Int) ≤ live2 + 1
                omega
              · rcases hO b q with e | e
                · exact HS2.out.nb e
                · omega
              · rcases hO i hi with e | e
                · exact HS2.out.own i e
                · omega
              · exact Fr.below (S := fun j => W.heap.size ≤ j) (((Fr.of_new HS2.out.bel).more HB6.out).then_ HF7.out (fun i hi => .inl (HS2.out.own i hi))) (fun _ h => h) (Nat.le_refl _)
          · go_wp2_with (first
              | (go_at_call 22; have hx := HA8; clear hx; go_loud (refine (live_AO _ HA8.out).mono ?_; rintro e w9 ⟨rfl, rfl⟩))
              | (go_at_call 35; have hx := HA7; clear hx; go_loud (refine (set_none (a := a) 0 0 0 0 0 0 0 ⟨#[]⟩ _ (.inr (Int.le_refl _))).mono ?_; rintro e w8 ⟨rfl, hB8⟩; have HA8 := Lib.hid ((HA7.out.below hB8).below (below_alloc (Below.refl _ _) (.cells #[.int .i64 0, .int .i64 0, .int .i64 0] 61))); have HB8 := Lib.hid hB8; clear hB8))
              | (go_at_call 25; have hx := HFLAG; clear hx; go_loud (refine (room_AO _ HA6.out).mono ?_; rintro e w7 ⟨rfl, hB7⟩; have HA7 := Lib.hid (HA6.out.below hB7); have hv7 := blk_below HV6.out hB7; have z0 := blk_cell hv7 0; have z1 := blk_cell hv7 1; have z2 := blk_cell hv7 2; have HB7 := Lib.hid (HB6.out.trans (hB7.mono HB6.out.size)); clear hB7 hv7))
              | (go_at_call 22; go_loud (refine (live_AO _ HA6.out).mono ?_; rintro e w9 ⟨rfl, hw9⟩; subst hw9; have HFLAG := Lib.hid trivial))
              | (go_at_call 25; go_loud (refine (room_AO _ HS2.out.ao).mono ?_; rintro e w6 ⟨rfl, hB6⟩; have HA6 := Lib.hid (HS2.out.ao.below hB6); have HV6 := Lib.hid (blk_below HS2.out.blk hB6); have HB6 := Lib.hid hB6; clear hB6)))
            go_ret
            exact ⟨rfl, below_alloc ((HS2.out.bel.trans (HB7.out.mono HS2.out.bel.size)).trans (HB8.out.mono (Nat.le_trans HS2.out.bel.size HB7.out.size))) _⟩
      · have hj1 : 0 < j := by omega
        have hj0' : ¬ (j : Int) = 0 := by omega
        have hlj := hlv.2 hj1
        have hl32 : lvs j ≤ 32 := by unfold lvs; omega
        have hle2 : ((lvs j : Nat) : Int) ≤ 32 := by omega
        have hgt : ¬ (d : Int) + 3 < live := by unfold lvs at hlj; omega
        have ew : wrap64 ((d : Int) + 3) = d + 3 := by unfold wrap64; omega
        obtain ⟨h, hh⟩ : ∃ h : Nat, (j : Int).tdiv 2 = (h : Int) := ⟨j / 2, by rw [Int.tdiv_eq_ediv_of_nonneg (by omega)]; omega⟩
        have hhj : h < j := by rw [Int.tdiv_eq_ediv_of_nonneg (by omega)] at hh; omega
        have hh2 : (j : Int) / 2 = (h : Int) := by rw [Int.tdiv_eq_ediv_of_nonneg (by omega)] at hh; exact hh
        have x0 : wr.cell? ⟨b, 0, none⟩ = some (.int .i64 (j : Int)) := blk_cell hS.blk 0
        clear hS hlv hdj hlj hl32 hle2
        go_wp2_with (go_at_call 22; go_loud (refine (live_AO _ HS.out.ao).mono ?_; rintro e w5 ⟨rfl, rfl⟩))
        go_loopg [] ((4096 : Int) - live).toNat (fun q wr => ∃ (O2 : Nat → Prop) (f2 : Nat → Cell) (live2 : Int) (rest2 : Nat → Nat), (q : Int) = 4096 - live2 ∧ 0 ≤ live2 ∧ (∀ z, (rest2 z : Int) ≤ live2) ∧ VS W wr a b j r t (numL j) O2 f2 live2 4096 rest2)
        case atStart => exact ⟨_, _, _, _, by omega, by omega, fun z => by show ((0 : Nat) : Int) ≤ _; omega, HS.out⟩
        case round =>
          obtain ⟨O2, f2, live2, rest2, hq2, hl2, hr2, hS2⟩ := hrel
          have HS2 := Lib.hid hS2
          have HR2 := Lib.hid hr2
          have hm2 := hS2.ao.room
          have y0 : wr.cell? ⟨b, 0, none⟩ = some (.int .i64 (j : Int)) := blk_cell hS2.blk 0
          have y1 : wr.cell? ⟨b, 1, none⟩ = some (.int .i64 (r : Int)) := blk_cell hS2.blk 1
          have y2 : wr.cell? ⟨b, 2, none⟩ = some (.int .i64 (t : Int)) := blk_cell hS2.blk 2
          clear hS2 hr2
          by_cases hlt : (c : Int) < 4096 - live2
          · go_wp2_with (first
              | (go_at_call 21; go_loud (refine (make_ao (Q := fun _ => False) (rest := fun z => rest2 z + vx r t z) 0 0 0 _ _ [] [] _ HA6.out (row_none _ _ _) (row_none _ _ _) (fun _ h => h.elim) (by intro z hz; cases hz) (by omega) (by simp) (by simp) (fun z hz => by cases hz)).mono ?_; rintro e w7 ⟨i, O7, rfl, hA7, hi0, hri, _, hK7, hO7, hF7⟩; have HA7 := Lib.hid hA7; have HK7 := Lib.hid hK7; have HO7 := Lib.hid hO7; have HF7 := Lib.hid hF7; clear hA7 hK7 hO7 hF7))
              | (go_at_call 25; go_loud (refine (room_AO _ HS2.out.ao).mono ?_; rintro e w6 ⟨rfl, hB6⟩; have hA6 := HS2.out.ao.below hB6; rw [kc_nil (fun z => rest2 z + vx r t z)] at hA6; have HA6 := Lib.hid hA6; have HB6 := Lib.hid hB6; clear hA6 hB6)))
            go_roundg (gk - 1)
            case measure => omega
            case rel =>
              have hsz := HB6.out.size
              have hbl := blk_lt HS2.out.blk
              have hO : ∀ i, O7 i → O2 i ∨ wr.heap.size ≤ i := fun i hi => (HO7.out i hi).imp id (fun q => by omega)
              have hws := HS2.out.bel.size
              have e1 : (fun z => rest2 z + vx r t z + one i z) = fun z => (rest2 z + one i z) + vx r t z := by funext z; omega
              have hA7 := HA7.out
              rw [e1] at hA7
              refine ⟨O7, _, _, fun z => rest2 z + one i z, by omega, by omega, fun z => ?_, hA7, HS2.out.rep.same (fun j h0 hj => KeepR.same HK7.out h0 (by show 0 < rest2 j + vx r t j; omega)), HF7.out.blk (blk_below HS2.out.blk HB6.out) HS2.out.nb, fun q => ?_, fun i hi => ?_, ?_, HS2.out.wb⟩
              · have h1 := HR2.out z
                have h2 : one i z ≤ 1 := by unfold one; split <;> omega
                show ((rest2 z + one i z : Nat) : Int) ≤ live2 + 1
                omega
              · rcases hO b q with e | e
                · exact HS2.out.nb e
                · omega
              · rcases hO i hi with e | e
                · exact HS2.out.own i e
                · omega
              · exact Fr.below (S := fun j => W.heap.size ≤ j) (((Fr.of_new HS2.out.bel).more HB6.out).then_ HF7.out (fun i hi => .inl (HS2.out.own i hi))) (fun _ h => h) (Nat.le_refl _)
          · have hr3 : ∀ z, rest2 z ≤ 4096 := fun z => by have := HR2.out z; omega
            have hlev : lev (lvs j + 1) ≤ 1 := by unfold lev; split <;> omega
            have HR3 := Lib.hid hr3
            clear hr3
            by_cases hful : (4096 : Int) - live2 < (lev (lvs j + 1) : Int) + 3
            · have hl8 : (4096 : Int) - live2 < 8 := by omega
              have HFUL := Lib.hid hful
              clear hful hlev
              go_wp2_with (first
                | (go_at_call 22; have hx := HA8; clear hx; go_loud (refine (live_AO _ HA8.out).mono ?_; rintro e w9 ⟨rfl, rfl⟩))
                | (go_at_call 35; have hx := HA7; clear hx; go_loud (refine (set_full (rest := rest2) 0 j r t h 0 0 ⟨#[]⟩ _ HA7.out (by omega) (by omega) (fun z => Nat.le_trans (HR3.out z) (by decide)) (by have := HFUL.out; omega)).mono ?_; rintro e w8 ⟨rfl, hB8⟩; have HA8 := Lib.hid ((HA7.out.below hB8).below (below_alloc (Below.refl _ _) (.cells #[.int .i64 0, .int .i64 0, .int .i64 0] 61))); have HB8 := Lib.hid hB8; clear hB8))
                | (go_at_call 25; have hx := HFLAG; clear hx; go_loud (refine (room_AO _ HA6.out).mono ?_; rintro e w7 ⟨rfl, hB7⟩; have HA7 := Lib.hid (HA6.out.below hB7); have hv7 := blk_below HV6.out hB7; have z0 := blk_cell hv7 0; have z1 := blk_cell hv7 1; have z2 := blk_cell hv7 2; have HV7 := Lib.hid hv7; have HB7 := Lib.hid (HB6.out.trans (hB7.mono HB6.out.size)); clear hB7 hv7))
                | (go_at_call 22; go_loud (refine (live_AO _ HA6.out).mono ?_; rintro e w9 ⟨rfl, hw9⟩; subst hw9; have HFLAG := Lib.hid trivial))
                | (go_at_call 25; go_loud (refine (room_AO _ HS2.out.ao).mono ?_; rintro e w6 ⟨rfl, hB6⟩; have HA6 := Lib.hid (HS2.out.ao.below hB6); have HV6 := Lib.hid (blk_below HS2.out.blk hB6); have HB6 := Lib.hid hB6; clear hB6)))
              go_ret
              exact ⟨rfl, below_alloc ((HS2.out.bel.trans (HB7.out.mono HS2.out.bel.size)).trans (HB8.out.mono (Nat.le_trans HS2.out.bel.size HB7.out.size))) _⟩
            · have HFUL := Lib.hid hful
              clear hful hlev
              go_wp2_with (first
                | (go_at_call 37; have hx := HA10; clear hx; go_loud (refine (vdrop_calls (rest := RR rest2 0 r t) j r' t' _ HA10.out).mono ?_; rintro e w11 ⟨rfl, O11, f11, live11, hA11, hK11, _, hO11, hF11⟩; have HA11 := Lib.hid hA11; have HK11 := Lib.hid hK11; have HF11 := Lib.hid hF11; have hz8 := HB9.out.size; have hz9 := HB10.out.size; have HX11 := Lib.hid (And.intro (hF11.blk HX10.out.1 (fun q => by have := HL8.out _ q; simp only [World.size_alloc] at hz8 hz9; omega)) (hF11.blk HX10.out.2 (fun q => by have := HL8.out _ q; simp only [World.size_alloc] at hz8 hz9; omega))); have HO11 := Lib.hid hO11; clear hA11 hK11 hO11 hF11 hz8 hz9))
                | (go_at_call 36; have hx := HA9; clear hx; go_loud (refine (get_calls j r t h (numL j) 2 h ⟨#[]⟩ _ HA9.out HREP8.out (fun z => Nat.le_trans (HRR.out z) (Nat.le_add_right _ _)) (numL_at j h (by omega))).mono ?_; rintro e w10 ⟨rfl, hB10⟩; have HA10 := Lib.hid ((HA9.out.below hB10).below (below_alloc (Below.refl _ _) (.cells #[.int .u8 2, .int .i64 h, .string ⟨#[]⟩] 66))); have b1 := blk_alloc (blk_below HX9.out.2.1 hB10) (.cells #[.int .u8 2, .int .i64 h, .string ⟨#[]⟩] 66); have d0 := blk_cell b1 0; have d1 := blk_cell b1 1; have d2 := blk_cell b1 2; have HX10 := Lib.hid (And.intro (blk_alloc (blk_below HX9.out.2.2 hB10) (.cells #[.int .u8 2, .int .i64 h, .string ⟨#[]⟩] 66)) (blk_new w10 (.cells #[.int .u8 2, .int .i64 h, .string ⟨#[]⟩] 66))); have HB10 := Lib.hid hB10; clear hB10 b1))
                | (go_at_call 36; have hx := HA8; clear hx; go_loud (refine (get_calls j r' t' h ((numL j).set h (0, 0, ⟨#[]⟩)) 0 0 ⟨#[]⟩ _ HA8.out HV8.out (fun z => Nat.le_add_left _ _) (by rw [List.getElem?_set_self (by have := HS2.out.rep.1; omega)])).mono ?_; rintro e w9 ⟨rfl, hB9⟩; have HA9 := Lib.hid ((HA8.out.below hB9).below (below_alloc (Below.refl _ _) (.cells #[.int .u8 0, .int .i64 0, .string ⟨#[]⟩] 66))); have b0 := blk_alloc (blk_below HX8.out.1 hB9) (.cells #[.int .u8 0, .int .i64 0, .string ⟨#[]⟩] 66); have b1 := blk_alloc (blk_below HX8.out.2 hB9) (.cells #[.int .u8 0, .int .i64 0, .string ⟨#[]⟩] 66); have c0 := blk_cell b0 0; have c1 := blk_cell b0 1; have c2 := blk_cell b0 2; have d0 := blk_cell b1 0; have d1 := blk_cell b1 1; have d2 := blk_cell b1 2; have HX9 := Lib.hid (And.intro b0 (And.intro b1 (blk_new w9 (.cells #[.int .u8 0, .int .i64 0, .string ⟨#[]⟩] 66)))); have HB9 := Lib.hid hB9; clear hB9 b0 b1))
                | (go_at_call 35; have hx := HA7; clear hx; go_loud (refine (set_ok (rest := rest2) 0 j r t h (numL j) 0 0 ⟨#[]⟩ _ HA7.out HS2.out.rep (by omega) (fun z => Nat.le_trans (HR3.out z) (by decide)) (by have := HFUL.out; omega)).mono ?_; rintro e w8 ⟨r', t', O8, f8, live8, rfl, hA8, _, hV8, hK8, hO8, hF8⟩; have HA8 := Lib.hid (hA8.below (below_alloc (Below.refl _ _) (.cells #[.int .i64 j, .int .i64 r', .int .i64 t'] 61))); have HL8 := Lib.hid hA8.lt; have HV8 := Lib.hid hV8; have HK8 := Lib.hid hK8; have HO8 := Lib.hid hO8; have HF8 := Lib.hid hF8; have b0 := blk_alloc (hF8.blk HV7.out HS2.out.nb) (.cells #[.int .i64 j, .int .i64 r', .int .i64 t'] 61); have c0 := blk_cell b0 0; have c1 := blk_cell b0 1; have c2 := blk_cell b0 2; have HX8 := Lib.hid (And.intro b0 (blk_new w8 (.cells #[.int .i64 j, .int .i64 r', .int .i64 t'] 61))); have hrr : ∀ z, vx r t z ≤ RR rest2 0 r t z := (fun z => by unfold RR; rw [if_pos rfl]; exact Nat.le_add_left _ _); have HRR := Lib.hid hrr; have HREP8 := Lib.hid (HS2.out.rep.same (fun i h0 hi => KeepR.same hK8 h0 (by have := hrr i; omega))); clear hrr hA8 hV8 hK8 hO8 hF8 b0))
                | (go_at_call 25; have hx := HFLAG; clear hx; go_loud (refine (room_AO _ HA6.out).mono ?_; rintro e w7 ⟨rfl, hB7⟩; have HA7 := Lib.hid (HA6.out.below hB7); have hv7 := blk_below HV6.out hB7; have z0 := blk_cell hv7 0; have z1 := blk_cell hv7 1; have z2 := blk_cell hv7 2; have HV7 := Lib.hid hv7; have HB7 := Lib.hid (HB6.out.trans (hB7.mono HB6.out.size)); clear hB7 hv7))
                | (go_at_call 22; go_loud (refine (live_AO _ HA6.out).mono ?_; rintro e w9 ⟨rfl, hw9⟩; subst hw9; have HFLAG := Lib.hid trivial))
                | (go_at_call 25; go_loud (refine (room_AO _ HS2.out.ao).mono ?_; rintro e w6 ⟨rfl, hB6⟩; have HA6 := Lib.hid (HS2.out.ao.below hB6); have HV6 := Lib.hid (blk_below HS2.out.blk hB6); have HB6 := Lib.hid hB6; clear hB6)))
              have e7 : RR rest2 0 r t = fun z => rest2 z + vx r t z := by
                funext z
                unfold RR
                rw [if_pos rfl]
              have hA11 := HA11.out
              have hK81 := HK8.out.trans HK11.out
              rw [e7] at hA11 hK81
              have hll := live_same HS2.out.ao hA11 (fun i h0 hi => KeepR.same hK81 h0 hi)
              subst hll
              obtain ⟨V, hV⟩ : ∃ V, w11.drew = V := ⟨_, rfl⟩
              have hdv : Below w11.heap.size w11 V := by rw [← hV]; exact below_drew1 (Below.refl _ _)
              have a0 := blk_below HX11.out.1 hdv
              have a1 := blk_below HX11.out.2 hdv
              have p0 := blk_cell a0 0
              have p1 := blk_cell a0 1
              have p2 := blk_cell a0 2
              have q0 := blk_cell a1 0
              have q1 := blk_cell a1 1
              have q2 := blk_cell a1 2
              have HAV := Lib.hid (hA11.below hdv)
              have HXV := Lib.hid (And.intro a0 a1)
              have HDV := Lib.hid hdv
              have hnum : ∀ w, Calls Try.prog 34 #[.int .i64 (wrap64 (h : Int))] w fun e w' => e = .returned (valV 2 h ⟨#[]⟩) ∧ Below w.heap.size w w' := fun w => by rw [show wrap64 (h : Int) = h by unfold wrap64; omega]; exact number_calls h w
              have HNUM := Lib.hid hnum
              clear hA11 hK81 e7 a0 a1 hdv hnum
              refine start_ (n := 29) (S := fun w' => w'.cell? ⟨w9.heap.size, 0, none⟩ = some (.int .u8 0) ∧ w'.cell? ⟨w9.heap.size, 1, none⟩ = some (.int .i64 0) ∧ w'.cell? ⟨w9.heap.size, 2, none⟩ = some (.string ⟨#[]⟩) ∧ w'.cell? ⟨w10.heap.size, 0, none⟩ = some (.int .u8 2) ∧ w'.cell? ⟨w10.heap.size, 1, none⟩ = some (.int .i64 (h : Int)) ∧ w'.cell? ⟨w10.heap.size, 2, none⟩ = some (.string ⟨#[]⟩)) (ds := []) #[false, false, false, false, false, false, false, false, false, false, false, false, false, false, false, false, false, false, false, false, false, false, false, false, false, false, false, false, false] (by kernel_rfl) rfl rfl ⟨(by rw [hV]; exact p0), (by rw [hV]; exact p1), (by rw [hV]; exact p2), (by rw [hV]; exact q0), (by rw [hV]; exact q1), (by rw [hV]; exact q2)⟩ (fun hHeld => ?_)
              refine pure_ (i := 0) (N := some 137) (v := ?_) (a' := ?_) #[true, false, false, false, false, false, false, false, false, false, false, false, false, false, false, false, false, false, false, false, false, false, false, false, false, false, false, false, false] rfl rfl (by kernel_rfl) (fun _ _ _ h => h) (Or.inl ⟨by rfl, ?_⟩) ?_ ?_
              rotate_left
              · intro w'
                go_simp
                with_reducible rfl
              rotate_left
              · simp only [Act.put, List.setIfInBounds_toArray, List.set_cons_zero, List.set_cons_succ, i64_w, i32_w]
                rfl
              refine pure_ (i := 1) (N := some 138) (v := ?_) (a' := ?_) #[true, true, false, false, false, false, false, false, false, false, false, false, false, false, false, false, false, false, false, false, false, false, false, false, false, false, false, false, false] rfl rfl (by kernel_rfl) (fun _ _ _ h => h) (Or.inl ⟨by rfl, ?_⟩) ?_ ?_
              rotate_left
              · intro w'
                go_simp
                with_reducible rfl
              rotate_left
              · simp only [Act.put, List.setIfInBounds_toArray, List.set_cons_zero, List.set_cons_succ, i64_w, i32_w]
                rfl
              refine pure_ (i := 2) (N := some 139) (v := ?_) (a' := ?_) #[true, true, true, false, false, false, false, false, false, false, false, false, false, false, false, false, false, false, false, false, false, false, false, false, false, false, false, false, false] rfl rfl (by kernel_rfl) (fun _ _ _ h => h) (Or.inl ⟨by rfl, ?_⟩) ?_ ?_
              rotate_left
              · intro w'
                go_simp
                with_reducible rfl
              rotate_left
              · simp only [Act.put, List.setIfInBounds_toArray, List.set_cons_zero, List.set_cons_succ, i64_w, i32_w]
                rfl
              refine pure_ (i := 3) (N := some 140) (v := ?_) (a' := ?_) #[true, true, true, true, false, false, false, false, false, false, false, false, false, false, false, false, false, false, false, false, false, false, false, false, false, false, false, false, false] rfl rfl (by kernel_rfl) (fun _ _ _ h => h) (Or.inl ⟨by rfl, ?_⟩) ?_ ?_
              rotate_left
              · intro w'
                go_simp
                with_reducible rfl
              rotate_left
              · simp only [Act.put, List.setIfInBounds_toArray, List.set_cons_zero, List.set_cons_succ, i64_w, i32_w]
                rfl
              refine pure_ (i := 4) (N := some 141) (v := ?_) (a' := ?_) #[true, true, true, true, true, false, false, false, false, false, false, false, false, false, false, false, false, false, false, false, false, false, false, false, false, false, false, false, false] rfl rfl (by kernel_rfl) (fun _ _ _ h => h) (Or.inl ⟨by rfl, ?_⟩) ?_ ?_
              rotate_left
              · intro w'
                go_simp
                with_reducible rfl
              rotate_left
              · simp only [Act.put, List.setIfInBounds_toArray, List.set_cons_zero, List.set_cons_succ, i64_w, i32_w]
                rfl
              refine pure_ (i := 5) (N := some 142) (v := ?_) (a' := ?_) #[true, true, true, true, true, true, false, false, false, false, false, false, false, false, false, false, false, false, false, false, false, false, false, false, false, false, false, false, false] rfl rfl (by kernel_rfl) (fun _ _ _ h => h) (Or.inl ⟨by rfl, ?_⟩) ?_ ?_
              rotate_left
              · intro w'
                go_simp
                with_reducible rfl
              rotate_left
              · simp only [Act.put, List.setIfInBounds_toArray, List.set_cons_zero, List.set_cons_succ, i64_w, i32_w]
                rfl
              refine pure_ (i := 6) (N := some 143) (v := ?_) (a' := ?_) #[true, true, true, true, true, true, true, false, false, false, false, false, false, false, false, false, false, false, false, false, false, false, false, false, false, false, false, false, false] rfl rfl (by kernel_rfl) (fun _ _ _ h => h) (Or.inl ⟨by rfl, ?_⟩) ?_ ?_
              rotate_left
              · intro w'
                go_simp
                with_reducible rfl
              rotate_left
              · simp only [Act.put, List.setIfInBounds_toArray, List.set_cons_zero, List.set_cons_succ, i64_w, i32_w]
                rfl
              refine pure_ (i := 7) (N := some 144) (v := ?_) (a' := ?_) #[true, true, true, true, true, true, true, true, false, false, false, false, false, false, false, false, false, false, false, false, false, false, false, false, false, false, false, false, false] rfl rfl (by kernel_rfl) (fun _ _ _ h => h) (Or.inl ⟨by rfl, ?_⟩) ?_ ?_
              rotate_left
              · intro w'
                go_simp
                with_reducible rfl
              rotate_left
              · simp only [Act.put, List.setIfInBounds_toArray, List.set_cons_zero, List.set_cons_succ, i64_w, i32_w]
                rfl
              refine pure_ (i := 8) (N := some 145) (v := ?_) (a' := ?_) #[true, true, true, true, true, true, true, true, true, false, false, false, false, false, false, false, false, false, false, false, false, false, false, false, false, false, false, false, false] rfl rfl (by kernel_rfl) (fun _ _ _ h => h) (Or.inl ⟨by rfl, ?_⟩) ?_ ?_
              rotate_left
              · intro w'
                go_simp
                with_reducible rfl
              rotate_left
              · simp only [Act.put, List.setIfInBounds_toArray, List.set_cons_zero, List.set_cons_succ, i64_w, i32_w]
                rfl
              refine pure_ (i := 9) (N := some 146) (v := ?_) (a' := ?_) #[true, true, true, true, true, true, true, true, true, true, false, false, false, false, false, false, false, false, false, false, false, false, false, false, false, false, false, false, false] rfl rfl (by kernel_rfl) (fun _ _ _ h => h) (Or.inl ⟨by rfl, ?_⟩) ?_ ?_
              rotate_left
              · intro w'
                go_simp
                with_reducible rfl
              rotate_left
              · simp only [Act.put, List.setIfInBounds_toArray, List.set_cons_zero, List.set_cons_succ, i64_w, i32_w]
                rfl
              refine pure_ (i := 10) (N := some 147) (v := ?_) (a' := ?_) #[true, true, true, true, true, true, true, true, true, true, true, false, false, false, false, false, false, false, false, false, false, false, false, false, false, false, false, false, false] rfl rfl (by kernel_rfl) (fun _ _ _ h => h) (Or.inl ⟨by rfl, ?_⟩) ?_ ?_
              rotate_left
              · intro w'
                go_simp
                with_reducible rfl
              rotate_left
              · simp only [Act.put, List.setIfInBounds_toArray, List.set_cons_zero, List.set_cons_succ, i64_w, i32_w]
                rfl
              refine pure_ (i := 12) (N := some 149) (v := ?_) (a' := ?_) #[true, true, true, true, true, true, true, true, true, true, true, false, true, false, false, false, false, false, false, false, false, false, false, false, false, false, false, false, false] rfl rfl (by kernel_rfl) (fun _ _ _ h => h) (Or.inl ⟨by rfl, ?_⟩) ?_ ?_
              rotate_left
              · intro w'
                go_simp
                with_reducible rfl
              rotate_left
              · simp only [Act.put, List.setIfInBounds_toArray, List.set_cons_zero, List.set_cons_succ, i64_w, i32_w]
                rfl
              refine take_ (i := 11) (N := some 148) (v := ?_) (a' := ?_) #[true, true, true, true, true, true, true, true, true, true, true, true, true, false, false, false, false, false, false, false, false, false, false, false, false, false, false, false, false] rfl rfl (by kernel_rfl) (fun _ _ _ h => h) (Or.inl ⟨by rfl, ?_⟩) hHeld ?_ ?_
              rotate_left
              · rintro w' ⟨s0, s1, s2, s3, s4, s5⟩
                go_simp
                with_reducible rfl
              rotate_left
              · simp only [Act.put, List.setIfInBounds_toArray, List.set_cons_zero, List.set_cons_succ, i64_w, i32_w]
                rfl
              refine pure_ (i := 13) (N := some 150) (v := ?_) (a' := ?_) #[true, true, true, true, true, true, true, true, true, true, true, true, true, true, false, false, false, false, false, false, false, false, false, false, false, false, false, false, false] rfl rfl (by kernel_rfl) (fun _ _ _ h => h) (Or.inl ⟨by rfl, ?_⟩) ?_ ?_
              rotate_left
              · intro w'
                go_simp
                with_reducible rfl
              rotate_left
              · simp only [Act.put, List.setIfInBounds_toArray, List.set_cons_zero, List.set_cons_succ, i64_w, i32_w]
                rfl
              refine pure_ (i := 14) (N := some 151) (v := ?_) (a' := ?_) #[true, true, true, true, true, true, true, true, true, true, true, true, true, true, true, false, false, false, false, false, false, false, false, false, false, false, false, false, false] rfl rfl (by kernel_rfl) (fun _ _ _ h => h) (Or.inl ⟨by rfl, ?_⟩) ?_ ?_
              rotate_left
              · intro w'
                go_simp
                with_reducible rfl
              rotate_left
              · simp only [Act.put, List.setIfInBounds_toArray, List.set_cons_zero, List.set_cons_succ, i64_w, i32_w]
                rfl
              refine pure_ (i := 15) (N := some 152) (v := ?_) (a' := ?_) #[true, true, true, true, true, true, true, true, true, true, true, true, true, true, true, true, false, false, false, false, false, false, false, false, false, false, false, false, false] rfl rfl (by kernel_rfl) (fun _ _ _ h => h) (Or.inl ⟨by rfl, ?_⟩) ?_ ?_
              rotate_left
              · intro w'
                go_simp
                with_reducible rfl
              rotate_left
              · simp only [Act.put, List.setIfInBounds_toArray, List.set_cons_zero, List.set_cons_succ, i64_w, i32_w]
                rfl
              refine pure_ (i := 17) (N := some 154) (v := ?_) (a' := ?_) #[true, true, true, true, true, true, true, true, true, true, true, true, true, true, true, true, false, true, false, false, false, false, false, false, false, false, false, false, false] rfl rfl (by kernel_rfl) (fun _ _ _ h => h) (Or.inl ⟨by rfl, ?_⟩) ?_ ?_
              rotate_left
              · intro w'
                go_simp
                with_reducible rfl
              rotate_left
              · simp only [Act.put, List.setIfInBounds_toArray, List.set_cons_zero, List.set_cons_succ, i64_w, i32_w]
                rfl
              refine pure_ (i := 18) (N := some 155) (v := ?_) (a' := ?_) #[true, true, true, true, true, true, true, true, true, true, true, true, true, true, true, true, false, true, true, false, false, false, false, false, false, false, false, false, false] rfl rfl (by kernel_rfl) (fun _ _ _ h => h) (Or.inl ⟨by rfl, ?_⟩) ?_ ?_
              rotate_left
              · intro w'
                go_simp
                with_reducible rfl
              rotate_left
              · simp only [Act.put, List.setIfInBounds_toArray, List.set_cons_zero, List.set_cons_succ, i64_w, i32_w]
                rfl
              refine take_ (i := 16) (N := some 153) (v := ?_) (a' := ?_) #[true, true, true, true, true, true, true, true, true, true, true, true, true, true, true, true, true, true, true, false, false, false, false, false, false, false, false, false, false] rfl rfl (by kernel_rfl) (fun _ _ _ h => h) (Or.inl ⟨by rfl, ?_⟩) hHeld ?_ ?_
              rotate_left
              · rintro w' ⟨s0, s1, s2, s3, s4, s5⟩
                go_simp
                with_reducible rfl
              rotate_left
              · simp only [Act.put, List.setIfInBounds_toArray, List.set_cons_zero, List.set_cons_succ, i64_w, i32_w]
                rfl
              refine one_ (i := 19) (N := some 156) #[true, true, true, true, true, true, true, true, true, true, true, true, true, true, true, true, true, true, true, true, false, false, false, false, false, false, false, false, false] rfl rfl (by kernel_rfl) (by decide) (fun K hK => ?_)
              refine goes_ Try.func34 (by kernel_rfl) rfl #[.int .i64 (wrap64 (h : Int))] (by rfl) rfl rfl (by simp only [List.map_toArray, List.map_cons, List.map_nil]; rfl) ?_
              with_reducible refine (HNUM.out _).mono ?_
              rintro e w12 ⟨rfl, hB12⟩
              refine ⟨_, rfl, ?_⟩
              have HB12 := Lib.hid (hV ▸ hB12 : Below V.heap.size V w12)
              refine hK.out _ _ ⟨(blk_cell (blk_below HXV.out.1 HB12.out) 0), (blk_cell (blk_below HXV.out.1 HB12.out) 1), (blk_cell (blk_below HXV.out.1 HB12.out) 2), (blk_cell (blk_below HXV.out.2 HB12.out) 0), (blk_cell (blk_below HXV.out.2 HB12.out) 1), (blk_cell (blk_below HXV.out.2 HB12.out) 2)⟩ (fun hHeld => ?_)
              clear hK K
              refine norm_ (a' := ?_) ?_ ?_
              rotate_left
              · show Act.put _ (some 156) _ = _
                simp only [Act.put, List.setIfInBounds_toArray, List.set_cons_zero, List.set_cons_succ, i64_w, i32_w]
                rfl
              refine pure_ (i := 20) (N := some 157) (v := ?_) (a' := ?_) #[true, true, true, true, true, true, true, true, true, true, true, true, true, true, true, true, true, true, true, true, true, false, false, false, false, false, false, false, false] rfl rfl (by kernel_rfl) (fun _ _ _ h => h) (Or.inl ⟨by rfl, ?_⟩) ?_ ?_
              rotate_left
              · intro w'
                go_simp
                with_reducible rfl
              rotate_left
              · simp only [Act.put, List.setIfInBounds_toArray, List.set_cons_zero, List.set_cons_succ, i64_w, i32_w]
                rfl
              refine pure_ (i := 21) (N := some 158) (v := ?_) (a' := ?_) #[true, true, true, true, true, true, true, true, true, true, true, true, true, true, true, true, true, true, true, true, true, true, false, false, false, false, false, false, false] rfl rfl (by kernel_rfl) (fun _ _ _ h => h) (Or.inl ⟨by rfl, ?_⟩) ?_ ?_
              rotate_left
              · intro w'
                go_simp
                with_reducible rfl
              rotate_left
              · simp only [Act.put, List.setIfInBounds_toArray, List.set_cons_zero, List.set_cons_succ, i64_w, i32_w]
                rfl
              refine pure_ (i := 22) (N := some 159) (v := ?_) (a' := ?_) #[true, true, true, true, true, true, true, true, true, true, true, true, true, true, true, true, true, true, true, true, true, true, true, false, false, false, false, false, false] rfl rfl (by kernel_rfl) (fun _ _ _ h => h) (Or.inl ⟨by rfl, ?_⟩) ?_ ?_
              rotate_left
              · intro w'
                go_simp
                with_reducible rfl
              rotate_left
              · simp only [Act.put, List.setIfInBounds_toArray, List.set_cons_zero, List.set_cons_succ, i64_w, i32_w]
                rfl
              refine pure_ (i := 23) (N := some 160) (v := ?_) (a' := ?_) #[true, true, true, true, true, true, true, true, true, true, true, true, true, true, true, true, true, true, true, true, true, true, true, true, false, false, false, false, false] rfl rfl (by kernel_rfl) (fun _ _ _ h => h) (Or.inl ⟨by rfl, ?_⟩) ?_ ?_
              rotate_left
              · intro w'
                go_simp
                with_reducible rfl
              rotate_left
              · simp only [Act.put, List.setIfInBounds_toArray, List.set_cons_zero, List.set_cons_succ, i64_w, i32_w]
                rfl
              refine pure_ (i := 25) (N := some 162) (v := ?_) (a' := ?_) #[true, true, true, true, true, true, true, true, true, true, true, true, true, true, true, true, true, true, true, true, true, true, true, true, false, true, false, false, false] rfl rfl (by kernel_rfl) (fun _ _ _ h => h) (Or.inl ⟨by rfl, ?_⟩) ?_ ?_
              rotate_left
              · intro w'
                go_simp
                with_reducible rfl
              rotate_left
              · simp only [Act.put, List.setIfInBounds_toArray, List.set_cons_zero, List.set_cons_succ, i64_w, i32_w]
                rfl
              refine one_ (i := 24) (N := some 161) #[true, true, true, true, true, true, true, true, true, true, true, true, true, true, true, true, true, true, true, true, true, true, true, true, true, true, false, false, false] rfl rfl (by kernel_rfl) (by decide) (fun K hK => ?_)
              refine goes_ Try.func22 (by kernel_rfl) rfl #[.pointer (some ⟨a, 0, none⟩)] (by rfl) rfl rfl (by simp only [List.map_toArray, List.map_cons, List.map_nil]; rfl) ?_
              with_reducible refine (live_AO _ (HAV.out.below HB12.out)).mono ?_
              rintro e w13 ⟨rfl, hw13⟩
              refine ⟨_, rfl, ?_⟩
              subst hw13
              refine hK.out _ _ ⟨(blk_cell (blk_below HXV.out.1 HB12.out) 0), (blk_cell (blk_below HXV.out.1 HB12.out) 1), (blk_cell (blk_below HXV.out.1 HB12.out) 2), (blk_cell (blk_below HXV.out.2 HB12.out) 0), (blk_cell (blk_below HXV.out.2 HB12.out) 1), (blk_cell (blk_below HXV.out.2 HB12.out) 2)⟩ (fun hHeld => ?_)
              clear hK K
              refine norm_ (a' := ?_) ?_ ?_
              rotate_left
              · show Act.put _ (some 161) _ = _
                simp only [Act.put, List.setIfInBounds_toArray, List.set_cons_zero, List.set_cons_succ, i64_w, i32_w]
                rfl
              refine pure_ (i := 26) (N := some 163) (v := ?_) (a' := ?_) #[true, true, true, true, true, true, true, true, true, true, true, true, true, true, true, true, true, true, true, true, true, true, true, true, true, true, true, false, false] rfl rfl (by kernel_rfl) (fun _ _ _ h => h) (Or.inl ⟨by rfl, ?_⟩) ?_ ?_
              rotate_left
              · intro w'
                go_simp
                with_reducible rfl
              rotate_left
              · simp only [Act.put, List.setIfInBounds_toArray, List.set_cons_zero, List.set_cons_succ, i64_w, i32_w]
                rfl
              refine pure_ (i := 27) (N := some 164) (v := ?_) (a' := ?_) #[true, true, true, true, true, true, true, true, true, true, true, true, true, true, true, true, true, true, true, true, true, true, true, true, true, true, true, true, false] rfl rfl (by kernel_rfl) (fun _ _ _ h => h) (Or.inl ⟨by rfl, ?_⟩) ?_ ?_
              rotate_left
              · intro w'
                go_simp
                with_reducible rfl
              rotate_left
              · simp only [Act.put, List.setIfInBounds_toArray, List.set_cons_zero, List.set_cons_succ, i64_w, i32_w]
                rfl
              refine pure_ (i := 28) (N := some 4) (v := ?_) (a' := ?_) #[true, true, true, true, true, true, true, true, true, true, true, true, true, true, true, true, true, true, true, true, true, true, true, true, true, true, true, true, true] rfl rfl (by kernel_rfl) (fun _ _ _ h => h) (Or.inl ⟨by rfl, ?_⟩) ?_ ?_
              rotate_left
              · intro w'
                go_simp
                with_reducible rfl
              rotate_left
              · simp only [Act.put, List.setIfInBounds_toArray, List.set_cons_zero, List.set_cons_succ, i64_w, i32_w]
                rfl
              refine done_ (by kernel_rfl) ?_

              go_wp2
              go_ret
              have hS1 := (Fr.of_new (S := fun j => W.heap.size ≤ j) HS2.out.bel).more HB7.out
              have hS2 := ((((((hS1.then_ HF8.out (fun i hi => .inl (HS2.out.own i hi))).more (below_alloc (Below.refl _ _) (.cells #[.int .i64 j, .int .i64 r', .int .i64 t'] 61))).more HB9.out).more (below_alloc (Below.refl _ _) (.cells #[.int .u8 0, .int .i64 0, .string ⟨#[]⟩] 66))).more HB10.out).more (below_alloc (Below.refl _ _) (.cells #[.int .u8 2, .int .i64 h, .string ⟨#[]⟩] 66)))
              have hs7 := hS1.size
              have hS3 := ((hS2.then_ HF11.out (fun i hi => by
                rcases HO8.out i hi with q | q
                · exact .inl (HS2.out.own i q)
                · exact .inl (by omega))).more HDV.out).more HB12.out
              exact ⟨rfl, Fr.below hS3 (fun _ h => h) (Nat.le_refl _)⟩
end Go.Proofs.Ytnipbfhfaefieaa.Pv
