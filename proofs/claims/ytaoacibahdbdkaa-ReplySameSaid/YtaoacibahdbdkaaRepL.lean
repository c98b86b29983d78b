/- reply: the chapter's example. -/
import Derived.Test.YtaoacibahdbdkaaRepS
import Derived.Test.YtaoacibahdbdkaaPackV
import Derived.Test.YtaoacibahdbdkaaPackP
namespace Go.Proofs.Ytaoacibahdbdkaa.Rep
open Go.RowKit Go Go.Proofs.Ytaoacibahdbdkaa.QReplySame Go.Proofs.YtaoacibahdbdkaaW.PrintWords Go.Proofs.YtaoacibahdbdkaaW.PrintLast Go.Proofs.YtaoacibahdbdkaaW.PrintMore Go.Proofs.Ytaoacibahdbdkaa.Fra Go.Proofs.Ytaoacibahdbdkaa.Pk Go.Proofs.Ytaoacibahdbdkaa.Bts Go.Proofs.Ytaoacibahdbdkaa.Pr
theorem encode_wrong (e h g : Int) (A : Option Addr) (c : Nat) (l : List S54) (w : World) (hC : Kd.C k54 w A l.length l) (hc : l.length ≤ c) (hl : l.length ≤ 100000) (hr : rightR e h g l = false) :
    Calls Try.prog 53 #[.agg #[.int .i64 e, .int .u64 h, .int .u64 g, .slice A l.length c]] w fun en w' => en = .returned (.tuple #[.slice none 0 0, .int .i64 1]) ∧ Below w.heap.size w w' := by
  have HC := Lib.hid hC
  have HR := Lib.hid hr
  clear hC hr
  go_enter Try.func53, Try.ntmps53
  go_wp2_with (go_at_call 61; go_loud (refine (reply_Reply_Right.calls 200000 e h g A c l false _ (Kd.C_below HC.out (below_alloc (Below.refl _ _) _)) hc (by rw [rright_f _ _ _ _ _ hl (by omega), HR.out])).mono ?_; rintro en w2 ⟨rfl, hB2⟩))
  go_ret2
  exact ⟨rfl, below_step (below_alloc (Below.refl _ _) _) hB2⟩
theorem own_one (W : World) (x : Int) {base : Nat} (hb : base ≤ W.heap.size) : (W.alloc (.cells #[.int .u8 x] 5)).ownsRow base 5 1 (.slice (some ⟨W.heap.size, 0, none⟩) 1 1) 1 [.int .u8 x] :=
  ⟨rfl, .inr ⟨_, 1, _, rfl, hb, blk_new _ _, by omega, by unfold maxLen; omega, rfl, rfl⟩⟩
set_option maxHeartbeats 1000000 in
set_option maxRecDepth 100000 in
theorem encode_error (e h g : Int) (A : Option Addr) (c : Nat) (l : List S54) (w : World) (hC : Kd.C k54 w A l.length l) (hc : l.length ≤ c) (hl : l.length ≤ 100000) (hr : rightR e h g l = true) (he : e ≠ 0) (he0 : 0 ≤ e) (he1 : e ≤ 14) :
    Calls Try.prog 53 #[.agg #[.int .i64 e, .int .u64 h, .int .u64 g, .slice A l.length c]] w fun en w' => ∃ v, en = .returned (.tuple #[v, .int .i64 0]) ∧ Made w w' v [e] := by
  have HC := Lib.hid hC
  have HR := Lib.hid hr
  have hne : (e == 0) = false := by simpa using he
  have hne' : (e != 0) = true := by simpa using he
  have he8 : e % 256 = e := by omega
  clear hC hr he
  go_enter Try.func53, Try.ntmps53
  go_wp2_with (go_at_call 61; go_loud (refine (reply_Reply_Right.calls 200000 e h g A c l true _ (Kd.C_below HC.out (below_alloc (Below.refl _ _) _)) hc (by rw [rright_f _ _ _ _ _ hl (by omega), HR.out])).mono ?_; rintro en w2 ⟨rfl, hB2⟩; have hp := blk_below (blk_new w _) hB2; have p0 := blk_cell hp 0; have hz2 : w.heap.size < w2.heap.size := blk_lt hp; have HB2 := Lib.hid hB2; clear hB2 hp))
  go_ret2
  exact ⟨_, rfl, own_one _ _ (by omega), below_alloc (below_step (below_alloc (Below.refl _ _) _) HB2.out) _⟩
theorem bcell {W w1 : World} (hb : Below W.heap.size W w1) : (∀ b o, b < W.heap.size → w1.cell? ⟨b, o, none⟩ = W.cell? ⟨b, o, none⟩) ∧ (∀ b o, b < W.heap.size → w1.frozen? ⟨b, o, none⟩ = W.frozen? ⟨b, o, none⟩) :=
  ⟨fun b o h => hb.cell (p := ⟨b, o, none⟩) h, fun b o h => hb.frozen (p := ⟨b, o, none⟩) h⟩
theorem told_calls (A : Option Addr) (n c : Nat) (w : World) : Calls Try.prog 80 #[.slice A n c] w fun e w' => e = .returned (.agg #[.int .i64 0, .int .u64 0, .int .u64 0, .slice A n c]) ∧ Below w.heap.size w w' := by
  go_enter Try.func80, Try.ntmps80
  go_wp2
  refine bodyPost_ret (results_cell_row rfl _ _ w.heap.size 82 #[.int .i64 0, .int .u64 0, .int .u64 0, .slice A n c] (0, 0) _ rfl (blk_new w _) Try.underlying82 rfl (by kernel_rfl)) rfl ?_
  exact ⟨rfl, below_alloc (Below.refl _ _) _⟩
theorem given_calls (w : World) : Calls Try.prog 82 #[.agg #[.int .u64 0, .int .u64 3]] w fun e w' => e = .returned (.agg #[.int .i64 0, .int .u64 0, .int .u64 3, .slice none 0 0]) ∧ Below w.heap.size w w' := by
  go_enter Try.func82, Try.ntmps82
  go_wp2
  refine bodyPost_ret (results_cell_row rfl _ _ (w.heap.size + 1) 82 #[.int .i64 0, .int .u64 0, .int .u64 3, .slice none 0 0] (0, 0) _ rfl (blk_new1 w _ _) Try.underlying82 rfl (by kernel_rfl)) rfl ?_
  exact ⟨rfl, below_alloc (below_alloc (Below.refl _ _) _) _⟩
theorem nil_C (w : World) : Kd.C k54 w none ([] : List S54).length [] := Kd.C_nil k54 w
set_option maxHeartbeats 2000000 in
set_option maxRecDepth 100000 in
theorem lives_calls (w : World) : Calls Try.prog 46 #[] w fun e w' => e = .returned (.bool true) ∧ Below w.heap.size w w' := by
  go_enter Try.func46, Try.ntmps46
  go_wp2_with (first
    | (go_at_call 79; go_loud (refine (reply_Wrong.calls 4 _ _ _ _ _ rfl).mono ?_; rintro e w1 ⟨v1, rfl, hR1, hB1⟩; obtain ⟨A1, c1, rfl, hc1, hC1⟩ := Kd.R_reads hR1; have HB1 := Lib.hid hB1; clear hB1))
    | (go_at_call 53; go_loud (refine (encode_error 4 0 0 A1 c1 [] _ hC1 hc1 (by simp) (by decide) (by decide) (by decide) (by decide)).mono ?_; rintro e w2 ⟨v2, rfl, hM2⟩; have HB2 := Lib.hid (below_step HB1.out hM2.2); have hcv : ∀ V, Below w2.heap.size w2 V → (convert 56 9 v2).run Try.prog V = .ok (.string ⟨#[4]⟩) V := fun V hV => byt_convE (hM2.byt.below hV) (by decide) (by decide +kernel); clear hM2)))
  have hS := Below.refl w2.heap.size w2
  have hf1 : ∀ (A : Option Addr) (n c : Nat) (V : World), (Instr.field 82 (.agg #[.int .i64 0, .int .u64 0, .int .u64 0, .slice A n c]) 2).run Try.prog V = .ok (.slice A n c) V := fun _ _ _ _ => by kernel_rfl
  have hf2 : ∀ (V : World), (Instr.field 82 (.agg #[.int .i64 0, .int .u64 0, .int .u64 3, .slice none 0 0]) 1).run Try.prog V = .ok (.agg #[.int .u64 0, .int .u64 3]) V := fun _ => by kernel_rfl
  have hf3 : ∀ (V : World), (Instr.field 80 (.agg #[.int .u64 0, .int .u64 3]) 1).run Try.prog V = .ok (.int .u64 3) V := fun _ => by kernel_rfl
  refine start_ (n := 25) (S := fun w' => (convert 56 9 v2).run Try.prog w' = .ok (.string ⟨#[4]⟩) w') (ds := []) #[false, false, false, false, false, false, false, false, false, false, false, false, false, false, false, false, false, false, false, false, false, false, false, false, false] (by kernel_rfl) rfl rfl ((hcv _ (below_drew1 hS))) (fun hHeld => ?_)
  refine pure_ (i := 0) (N := some 8) (v := ?_) (a' := ?_) #[true, false, false, false, false, false, false, false, false, false, false, false, false, false, false, false, false, false, false, false, false, false, false, false, false] rfl rfl (by kernel_rfl) (fun _ _ _ h => h) (Or.inl ⟨by rfl, ?_⟩) ?_ ?_
  rotate_left
  · intro w'
    go_simp
    with_reducible rfl
  rotate_left
  · simp only [Act.put, List.setIfInBounds_toArray, List.set_cons_zero, List.set_cons_succ, i64_w, i32_w]
    rfl
  refine pure_ (i := 1) (N := some 9) (v := ?_) (a' := ?_) #[true, true, false, false, false, false, false, false, false, false, false, false, false, false, false, false, false, false, false, false, false, false, false, false, false] rfl rfl (by kernel_rfl) (fun _ _ _ h => h) (Or.inl ⟨by rfl, ?_⟩) ?_ ?_
  rotate_left
  · intro w'
    go_simp
    with_reducible rfl
  rotate_left
  · simp only [Act.put, List.setIfInBounds_toArray, List.set_cons_zero, List.set_cons_succ, i64_w, i32_w]
    rfl
  refine pure_ (i := 2) (N := some 10) (v := ?_) (a' := ?_) #[true, true, true, false, false, false, false, false, false, false, false, false, false, false, false, false, false, false, false, false, false, false, false, false, false] rfl rfl (by kernel_rfl) (fun _ _ _ h => h) (Or.inl ⟨by rfl, ?_⟩) ?_ ?_
  rotate_left
  · intro w'
    go_simp
    with_reducible rfl
  rotate_left
  · simp only [Act.put, List.setIfInBounds_toArray, List.set_cons_zero, List.set_cons_succ, i64_w, i32_w]
    rfl
  refine pure_ (i := 3) (N := some 11) (v := ?_) (a' := ?_) #[true, true, true, true, false, false, false, false, false, false, false, false, false, false, false, false, false, false, false, false, false, false, false, false, false] rfl rfl (by kernel_rfl) (fun _ _ _ h => h) (Or.inl ⟨by rfl, ?_⟩) ?_ ?_
  rotate_left
  · intro w'
    go_simp
    with_reducible rfl
  rotate_left
  · simp only [Act.put, List.setIfInBounds_toArray, List.set_cons_zero, List.set_cons_succ, i64_w, i32_w]
    rfl
  refine take_ (i := 4) (N := some 12) (v := ?_) (a' := ?_) #[true, true, true, true, true, false, false, false, false, false, false, false, false, false, false, false, false, false, false, false, false, false, false, false, false] rfl rfl (by kernel_rfl) (fun _ _ _ h => h) (Or.inl ⟨by rfl, ?_⟩) hHeld ?_ ?_
  rotate_left
  · intro w' s0
    go_simp
    with_reducible rfl
  rotate_left
  · simp only [Act.put, List.setIfInBounds_toArray, List.set_cons_zero, List.set_cons_succ, i64_w, i32_w]
    rfl
  refine pure_ (i := 5) (N := some 13) (v := ?_) (a' := ?_) #[true, true, true, true, true, true, false, false, false, false, false, false, false, false, false, false, false, false, false, false, false, false, false, false, false] rfl rfl (by kernel_rfl) (fun _ _ _ h => h) (Or.inl ⟨by rfl, ?_⟩) ?_ ?_
  rotate_left
  · intro w'
    go_simp
    with_reducible rfl
  rotate_left
  · simp only [Act.put, List.setIfInBounds_toArray, List.set_cons_zero, List.set_cons_succ, i64_w, i32_w]
    rfl
  refine pure_ (i := 6) (N := some 14) (v := ?_) (a' := ?_) #[true, true, true, true, true, true, true, false, false, false, false, false, false, false, false, false, false, false, false, false, false, false, false, false, false] rfl rfl (by kernel_rfl) (fun _ _ _ h => h) (Or.inl ⟨by rfl, ?_⟩) ?_ ?_
  rotate_left
  · intro w'
    go_simp
    with_reducible rfl
  rotate_left
  · simp only [Act.put, List.setIfInBounds_toArray, List.set_cons_zero, List.set_cons_succ, i64_w, i32_w]
    rfl
  refine pure_ (i := 7) (N := some 15) (v := ?_) (a' := ?_) #[true, true, true, true, true, true, true, true, false, false, false, false, false, false, false, false, false, false, false, false, false, false, false, false, false] rfl rfl (by kernel_rfl) (fun _ _ _ h => h) (Or.inl ⟨by rfl, ?_⟩) ?_ ?_
  rotate_left
  · intro w'
    go_simp
    with_reducible rfl
  rotate_left
  · simp only [Act.put, List.setIfInBounds_toArray, List.set_cons_zero, List.set_cons_succ, i64_w, i32_w]
    rfl
  refine one_ (i := 8) (N := some 16) #[true, true, true, true, true, true, true, true, true, false, false, false, false, false, false, false, false, false, false, false, false, false, false, false, false] rfl rfl (by kernel_rfl) (by decide) (fun K hK => ?_)
  refine goes_ Try.func81 (by kernel_rfl) rfl #[.int .i64 1] (by rfl) rfl rfl (by simp only [List.map_toArray, List.map_cons, List.map_nil]; rfl) ?_
  with_reducible refine (value_Number.calls 1 _ _ _ _ rfl).mono ?_
  rintro e3 w3 ⟨rfl, hB3⟩
  refine ⟨_, rfl, ?_⟩
  have hb3 := below_step (below_drew1 hS) hB3
  refine hK.out _ _ ((hcv _ hb3)) (fun hHeld => ?_)
  clear hK K
  refine norm_ (a' := ?_) ?_ ?_
  rotate_left
  · show Act.put _ (some 16) _ = _
    simp only [Act.put, List.setIfInBounds_toArray, List.set_cons_zero, List.set_cons_succ, i64_w, i32_w]
    rfl
  refine one_ (i := 9) (N := some 17) #[true, true, true, true, true, true, true, true, true, true, false, false, false, false, false, false, false, false, false, false, false, false, false, false, false] rfl rfl (by kernel_rfl) (by decide) (fun K hK => ?_)
  refine value_ (w1 := ?_) (v := ?_) (by rfl) rfl ?_ ?_
  rotate_left 2
  · go_simp
    constructor
    · rfl
    · rfl
  refine hK.out _ _ ((hcv _ (below_alloc hb3 _))) (fun hHeld => ?_)
  clear hK K
  refine norm_ (a' := ?_) ?_ ?_
  rotate_left
  · show Act.put _ (some 17) _ = _
    simp only [Act.put, List.setIfInBounds_toArray, List.set_cons_zero, List.set_cons_succ, i64_w, i32_w]
    rfl
  refine one_ (i := 10) (N := some 18) #[true, true, true, true, true, true, true, true, true, true, true, false, false, false, false, false, false, false, false, false, false, false, false, false, false] rfl rfl (by kernel_rfl) (by decide) (fun K hK => ?_)
  refine goes_ Try.func80 (by kernel_rfl) rfl #[.slice (some ⟨w3.heap.size, 0, none⟩) 1 1] (by rfl) rfl rfl (by simp only [List.map_toArray, List.map_cons, List.map_nil]; rfl) ?_
  with_reducible refine (told_calls _ _ _ _).mono ?_
  rintro e4 w4 ⟨rfl, hB4⟩
  refine ⟨_, rfl, ?_⟩
  have hb4 := below_step (below_alloc hb3 _) hB4
  have hx4 := blk_below (blk_new w3 _) hB4
  have x0 := blk_cell hx4 0
  have x1 := blk_cell hx4 1
  have x2 := blk_cell hx4 2
  refine hK.out _ _ ((hcv _ hb4)) (fun hHeld => ?_)
  clear hK K
  refine norm_ (a' := ?_) ?_ ?_
  rotate_left
  · show Act.put _ (some 18) _ = _
    simp only [Act.put, List.setIfInBounds_toArray, List.set_cons_zero, List.set_cons_succ, i64_w, i32_w]
    rfl
  refine pure_ (i := 11) (N := some 19) (v := ?_) (a' := ?_) #[true, true, true, true, true, true, true, true, true, true, true, true, false, false, false, false, false, false, false, false, false, false, false, false, false] rfl rfl (by kernel_rfl) (fun _ _ _ h => h) (Or.inl ⟨by rfl, ?_⟩) ?_ ?_
  rotate_left
  · intro w'
    go_simp
    with_reducible rfl
  rotate_left
  · simp only [Act.put, List.setIfInBounds_toArray, List.set_cons_zero, List.set_cons_succ, i64_w, i32_w]
    rfl
  refine pure_ (i := 12) (N := some 20) (v := ?_) (a' := ?_) #[true, true, true, true, true, true, true, true, true, true, true, true, true, false, false, false, false, false, false, false, false, false, false, false, false] rfl rfl (by kernel_rfl) (fun _ _ _ h => h) (Or.inl ⟨by rfl, ?_⟩) ?_ ?_
  rotate_left
  · intro w'
    go_simp
    with_reducible rfl
  rotate_left
  · simp only [Act.put, List.setIfInBounds_toArray, List.set_cons_zero, List.set_cons_succ, i64_w, i32_w]
    rfl
  refine join_ (σ := Unit) 10 #[true, true, true, true, true, true, true, true, true, true, true, true, true, true, true, false, false, false, false, false, false, false, false, false, false] (fun _ => [(21, .agg #[.int .u8 2, .int .i64 1, .string (⟨#[]⟩ : ByteArray)]), (22, .agg #[.int .u8 2, .int .i64 1, .string (⟨#[]⟩ : ByteArray)])]) (fun _ w' => Below w2.heap.size w2 w') ?_ ?_
  rotate_left
  · intro hCont
    refine two_ (i := 13) (j := 14) (Ni := some 21) (Nj := some 22) #[true, true, true, true, true, true, true, true, true, true, true, true, true, true, false, false, false, false, false, false, false, false, false, false, false] #[true, true, true, true, true, true, true, true, true, true, true, true, true, false, true, false, false, false, false, false, false, false, false, false, false] rfl rfl rfl rfl (by kernel_rfl) (by decide) (by decide) (fun K hK => ?_) (fun K hK => ?_)
    · skip
      refine value_ (w1 := ?_) (v := ?_) (by rfl) rfl ?_ ?_
      rotate_left 2
      · go_simp
        constructor
        · rfl
        · rfl
      refine hK.out _ _ ((hcv _ (by assumption))) (fun hHeld => ?_)
      clear hK K
      refine norm_ (a' := ?_) ?_ ?_
      rotate_left
      · show Act.put _ (some 21) _ = _
        simp only [Act.put, List.setIfInBounds_toArray, List.set_cons_zero, List.set_cons_succ, i64_w, i32_w]
        rfl
      refine one_ (i := 14) (N := some 22) #[true, true, true, true, true, true, true, true, true, true, true, true, true, true, true, false, false, false, false, false, false, false, false, false, false] rfl rfl (by kernel_rfl) (by decide) (fun K hK => ?_)
      refine goes_ Try.func81 (by kernel_rfl) rfl #[.int .i64 1] (by rfl) rfl rfl (by simp only [List.map_toArray, List.map_cons, List.map_nil]; rfl) ?_
      with_reducible refine (value_Number.calls 1 _ _ _ _ rfl).mono ?_
      rintro e5 w5 ⟨rfl, hB5⟩
      refine ⟨_, rfl, ?_⟩
      have hb5 := below_step hb4 hB5
      have hx5 := blk_below hx4 hB5
      have y0 := blk_cell hx5 0
      have y1 := blk_cell hx5 1
      have y2 := blk_cell hx5 2
      refine hK.out _ _ ((hcv _ hb5)) (fun hHeld => ?_)
      clear hK K
      refine norm_ (a' := ?_) ?_ ?_
      rotate_left
      · show Act.put _ (some 22) _ = _
        simp only [Act.put, List.setIfInBounds_toArray, List.set_cons_zero, List.set_cons_succ, i64_w, i32_w]
        rfl
      exact norm_ (by simp only [putAll, Act.put, List.setIfInBounds_toArray, List.set_cons_zero, List.set_cons_succ]) (hCont () _ hb5)
    · skip
      refine goes_ Try.func81 (by kernel_rfl) rfl #[.int .i64 1] (by rfl) rfl rfl (by simp only [List.map_toArray, List.map_cons, List.map_nil]; rfl) ?_
      with_reducible refine (value_Number.calls 1 _ _ _ _ rfl).mono ?_
      rintro e5 w5 ⟨rfl, hB5⟩
      refine ⟨_, rfl, ?_⟩
      have hb5 := below_step hb4 hB5
      have hx5 := blk_below hx4 hB5
      have y0 := blk_cell hx5 0
      have y1 := blk_cell hx5 1
      have y2 := blk_cell hx5 2
      refine hK.out _ _ ((hcv _ hb5)) (fun hHeld => ?_)
      clear hK K
      refine norm_ (a' := ?_) ?_ ?_
      rotate_left
      · show Act.put _ (some 22) _ = _
        simp only [Act.put, List.setIfInBounds_toArray, List.set_cons_zero, List.set_cons_succ, i64_w, i32_w]
        rfl
      refine one_ (i := 13) (N := some 21) #[true, true, true, true, true, true, true, true, true, true, true, true, true, true, true, false, false, false, false, false, false, false, false, false, false] rfl rfl (by kernel_rfl) (by decide) (fun K hK => ?_)
      refine value_ (w1 := ?_) (v := ?_) (by rfl) rfl ?_ ?_
      rotate_left 2
      · go_simp
        constructor
        · rfl
        · rfl
      refine hK.out _ _ ((hcv _ (by assumption))) (fun hHeld => ?_)
      clear hK K
      refine norm_ (a' := ?_) ?_ ?_
      rotate_left
      · show Act.put _ (some 21) _ = _
        simp only [Act.put, List.setIfInBounds_toArray, List.set_cons_zero, List.set_cons_succ, i64_w, i32_w]
        rfl
      exact norm_ (by simp only [putAll, Act.put, List.setIfInBounds_toArray, List.set_cons_zero, List.set_cons_succ]) (hCont () _ hb5)
  rintro _ w5 hb5
  have hHeld := hcv _ hb5
  refine norm_ (a' := ?_) ?_ ?_
  rotate_left
  · simp only [putAll, Act.put, List.setIfInBounds_toArray, List.set_cons_zero, List.set_cons_succ]
    rfl
  refine pure_ (i := 15) (N := some 23) (v := ?_) (a' := ?_) #[true, true, true, true, true, true, true, true, true, true, true, true, true, true, true, true, false, false, false, false, false, false, false, false, false] rfl rfl (by kernel_rfl) (fun _ _ _ h => h) (Or.inl ⟨by rfl, ?_⟩) ?_ ?_
  rotate_left
  · intro w'
    go_simp
    with_reducible rfl
  rotate_left
  · simp only [Act.put, List.setIfInBounds_toArray, List.set_cons_zero, List.set_cons_succ, i64_w, i32_w]
    rfl
  refine pure_ (i := 16) (N := some 24) (v := ?_) (a' := ?_) #[true, true, true, true, true, true, true, true, true, true, true, true, true, true, true, true, true, false, false, false, false, false, false, false, false] rfl rfl (by kernel_rfl) (fun _ _ _ h => h) (Or.inl ⟨by rfl, ?_⟩) ?_ ?_
  rotate_left
  · intro w'
    go_simp
    with_reducible rfl
  rotate_left
  · simp only [Act.put, List.setIfInBounds_toArray, List.set_cons_zero, List.set_cons_succ, i64_w, i32_w]
    rfl
  refine pure_ (i := 17) (N := some 25) (v := ?_) (a' := ?_) #[true, true, true, true, true, true, true, true, true, true, true, true, true, true, true, true, true, true, false, false, false, false, false, false, false] rfl rfl (by kernel_rfl) (fun _ _ _ h => h) (Or.inl ⟨by rfl, ?_⟩) ?_ ?_
  rotate_left
  · intro w'
    go_simp
    with_reducible rfl
  rotate_left
  · simp only [Act.put, List.setIfInBounds_toArray, List.set_cons_zero, List.set_cons_succ, i64_w, i32_w]
    rfl
  refine pure_ (i := 18) (N := some 26) (v := ?_) (a' := ?_) #[true, true, true, true, true, true, true, true, true, true, true, true, true, true, true, true, true, true, true, false, false, false, false, false, false] rfl rfl (by kernel_rfl) (fun _ _ _ h => h) (Or.inl ⟨by rfl, ?_⟩) ?_ ?_
  rotate_left
  · intro w'
    go_simp
    with_reducible rfl
  rotate_left
  · simp only [Act.put, List.setIfInBounds_toArray, List.set_cons_zero, List.set_cons_succ, i64_w, i32_w]
    rfl
  refine one_ (i := 19) (N := some 27) #[true, true, true, true, true, true, true, true, true, true, true, true, true, true, true, true, true, true, true, true, false, false, false, false, false] rfl rfl (by kernel_rfl) (by decide) (fun K hK => ?_)
  refine goes_ Try.func82 (by kernel_rfl) rfl #[.agg #[.int .u64 0, .int .u64 3]] (by rfl) rfl rfl (by simp only [List.map_toArray, List.map_cons, List.map_nil]; rfl) ?_
  with_reducible refine (given_calls _).mono ?_
  rintro e6 w6 ⟨rfl, hB6⟩
  refine ⟨_, rfl, ?_⟩
  have hb6 := below_step hb5 hB6
  refine hK.out _ _ ((hcv _ hb6)) (fun hHeld => ?_)
  clear hK K
  refine norm_ (a' := ?_) ?_ ?_
  rotate_left
  · show Act.put _ (some 27) _ = _
    simp only [Act.put, List.setIfInBounds_toArray, List.set_cons_zero, List.set_cons_succ, i64_w, i32_w]
    rfl
  refine pure_ (i := 20) (N := some 28) (v := ?_) (a' := ?_) #[true, true, true, true, true, true, true, true, true, true, true, true, true, true, true, true, true, true, true, true, true, false, false, false, false] rfl rfl (by kernel_rfl) (fun _ _ _ h => h) (Or.inl ⟨by rfl, ?_⟩) ?_ ?_
  rotate_left
  · intro w'
    go_simp
    with_reducible rfl
  rotate_left
  · simp only [Act.put, List.setIfInBounds_toArray, List.set_cons_zero, List.set_cons_succ, i64_w, i32_w]
    rfl
  refine pure_ (i := 21) (N := some 29) (v := ?_) (a' := ?_) #[true, true, true, true, true, true, true, true, true, true, true, true, true, true, true, true, true, true, true, true, true, true, false, false, false] rfl rfl (by kernel_rfl) (fun _ _ _ h => h) (Or.inl ⟨by rfl, ?_⟩) ?_ ?_
  rotate_left
  · intro w'
    go_simp
    with_reducible rfl
  rotate_left
  · simp only [Act.put, List.setIfInBounds_toArray, List.set_cons_zero, List.set_cons_succ, i64_w, i32_w]
    rfl
  refine pure_ (i := 22) (N := some 30) (v := ?_) (a' := ?_) #[true, true, true, true, true, true, true, true, true, true, true, true, true, true, true, true, true, true, true, true, true, true, true, false, false] rfl rfl (by kernel_rfl) (fun _ _ _ h => h) (Or.inl ⟨by rfl, ?_⟩) ?_ ?_
  rotate_left
  · intro w'
    go_simp
    with_reducible rfl
  rotate_left
  · simp only [Act.put, List.setIfInBounds_toArray, List.set_cons_zero, List.set_cons_succ, i64_w, i32_w]
    rfl
  refine pure_ (i := 23) (N := some 31) (v := ?_) (a' := ?_) #[true, true, true, true, true, true, true, true, true, true, true, true, true, true, true, true, true, true, true, true, true, true, true, true, false] rfl rfl (by kernel_rfl) (fun _ _ _ h => h) (Or.inl ⟨by rfl, ?_⟩) ?_ ?_
  rotate_left
  · intro w'
    go_simp
    with_reducible rfl
  rotate_left
  · simp only [Act.put, List.setIfInBounds_toArray, List.set_cons_zero, List.set_cons_succ, i64_w, i32_w]
    rfl
  refine pure_ (i := 24) (N := some 0) (v := ?_) (a' := ?_) #[true, true, true, true, true, true, true, true, true, true, true, true, true, true, true, true, true, true, true, true, true, true, true, true, true] rfl rfl (by kernel_rfl) (fun _ _ _ h => h) (Or.inl ⟨by rfl, ?_⟩) ?_ ?_
  rotate_left
  · intro w'
    go_simp
    with_reducible rfl
  rotate_left
  · simp only [Act.put, List.setIfInBounds_toArray, List.set_cons_zero, List.set_cons_succ, i64_w, i32_w]
    rfl
  refine done_ (by kernel_rfl) ?_

  have HF := Lib.hid (below_step HB2.out hb6)
  go_wp2
  go_ret
  exact ⟨rfl, HF.out⟩
end Go.Proofs.Ytaoacibahdbdkaa.Rep
