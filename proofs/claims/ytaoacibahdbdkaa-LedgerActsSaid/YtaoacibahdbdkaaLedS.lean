/- ledger: an account is set, as a contract. -/
import Derived.Test.YtaoacibahdbdkaaLedA
namespace Go.Proofs.Ytaoacibahdbdkaa.Led
open Go.RowKit Go Go.Proofs.YtaoacibahdbdkaaW.PrintWords Go.Proofs.YtaoacibahdbdkaaW.PrintMore Go.Proofs.YtaoacibahdbdkaaW.PrintLast Go.Proofs.Ytaoacibahdbdkaa.Bts Go.Proofs.Ytaoacibahdbdkaa.Fra
/-- An account x at g, a bill (a, b, c) at p. -/
def SetAt (g p : Nat) (x : Int × Int × Int) (a b c : Int) (w : World) : Prop :=
  Acc w g x ∧ w.heap[p]? = some (.cells #[.int .i64 a, .int .i64 b, .int .i64 c] 23 (0, 0))
theorem SetAt.drew {g p : Nat} {x : Int × Int × Int} {a b c : Int} {w : World} (h : SetAt g p x a b c w) : SetAt g p x a b c w.drew :=
  ⟨blk_below h.1 (below_drew1 (Below.refl _ _)), blk_below h.2 (below_drew1 (Below.refl _ _))⟩
set_option maxRecDepth 100000 in
set_option maxHeartbeats 1000000 in
theorem set_calls (g : Nat) (x : Int × Int × Int) (a b c : Int) (w : World) (h : Acc w g x) : Calls Try.prog 64 #[.pointer (some ⟨g, 0, none⟩), bill a b c] w fun e w' => e = .returned (.tuple #[]) ∧ Acc w' g (a, b, c) ∧ Fr (· = g) w w' := by
  obtain ⟨x, y, z⟩ := x
  have hlt : g < w.heap.size := blk_lt h
  have hne : ¬ g = w.heap.size := by omega
  have hne' : ¬ w.heap.size = g := by omega
  have hA := (blk_below h (below_drew1 (below_alloc (Below.refl w.heap.size w) (.cells #[.int .i64 a, .int .i64 b, .int .i64 c] 23))))
  have hP := blk_below (blk_new w (.cells #[.int .i64 a, .int .i64 b, .int .i64 c] 23)) (below_drew1 (Below.refl _ _))
  have c0 := blk_cell hA 0
  have f0 := blk_frozen hA 0
  have p0 := blk_cell hP 0
  have HA0 := Lib.hid hA
  have HP0 := Lib.hid hP
  have HF0 := Lib.hid (Fr.of_new (S := (· = g)) (below_drew1 (below_alloc (Below.refl w.heap.size w) (.cells #[.int .i64 a, .int .i64 b, .int .i64 c] 23))))
  clear h hA hP
  go_enter Try.func64, Try.ntmps64
  go_wp2
  refine start_ (n := 6) (S := fun w' => w'.cell? ⟨w.heap.size, 0, none⟩ = some (.int .i64 a)) (ds := [5]) #[false, false, false, false, false, false] (by kernel_rfl) rfl rfl (p0) (fun hHeld => ?_)
  refine pure_ (i := 0) (N := some 4) (v := ?_) (a' := ?_) #[true, false, false, false, false, false] rfl rfl (by kernel_rfl) (fun _ _ _ h => h) (Or.inl ⟨by rfl, ?_⟩) ?_ ?_
  rotate_left
  · intro w'
    go_simp
    with_reducible rfl
  rotate_left
  · simp only [Act.put, List.setIfInBounds_toArray, List.set_cons_zero, List.set_cons_succ, i64_w, i32_w]
    rfl
  refine pure_ (i := 1) (N := some 5) (v := ?_) (a' := ?_) #[true, true, false, false, false, false] rfl rfl (by kernel_rfl) (fun _ _ _ h => h) (Or.inl ⟨by rfl, ?_⟩) ?_ ?_
  rotate_left
  · intro w'
    go_simp
    with_reducible rfl
  rotate_left
  · simp only [Act.put, List.setIfInBounds_toArray, List.set_cons_zero, List.set_cons_succ, i64_w, i32_w]
    rfl
  refine pure_ (i := 2) (N := some 6) (v := ?_) (a' := ?_) #[true, true, true, false, false, false] rfl rfl (by kernel_rfl) (fun _ _ _ h => h) (Or.inl ⟨by rfl, ?_⟩) ?_ ?_
  rotate_left
  · intro w'
    go_simp
    with_reducible rfl
  rotate_left
  · simp only [Act.put, List.setIfInBounds_toArray, List.set_cons_zero, List.set_cons_succ, i64_w, i32_w]
    rfl
  refine pure_ (i := 3) (N := some 7) (v := ?_) (a' := ?_) #[true, true, true, true, false, false] rfl rfl (by kernel_rfl) (fun _ _ _ h => h) (Or.inl ⟨by rfl, ?_⟩) ?_ ?_
  rotate_left
  · intro w'
    go_simp
    with_reducible rfl
  rotate_left
  · simp only [Act.put, List.setIfInBounds_toArray, List.set_cons_zero, List.set_cons_succ, i64_w, i32_w]
    rfl
  refine take_ (i := 4) (N := some 8) (v := ?_) (a' := ?_) #[true, true, true, true, true, false] rfl rfl (by kernel_rfl) (fun _ _ _ h => h) (Or.inl ⟨by rfl, ?_⟩) hHeld ?_ ?_
  rotate_left
  · intro w' s0
    go_simp
    with_reducible rfl
  rotate_left
  · simp only [Act.put, List.setIfInBounds_toArray, List.set_cons_zero, List.set_cons_succ, i64_w, i32_w]
    rfl
  refine last_ (i := 5) (N := some 9) #[true, true, true, true, true, true] rfl rfl (by kernel_rfl) (by decide) (fun K hK => ?_)
  refine goes_ Try.func90 (by kernel_rfl) rfl #[.pointer (some ⟨g, 0, none⟩), .int .i64 a] (by rfl) rfl rfl (by simp only [List.map_toArray, List.map_cons, List.map_nil]; rfl) ?_
  with_reducible refine (store_calls ⟨g, 0, none⟩ _ a _ c0 f0).mono ?_
  rintro e w3 ⟨rfl, rfl⟩
  refine ⟨_, rfl, ?_⟩
  refine hK.out _ _ ?_
  clear hK K
  refine norm_ (a' := ?_) ?_ ?_
  rotate_left
  · show Act.put _ (some 9) _ = _
    simp only [Act.put, List.setIfInBounds_toArray, List.set_cons_zero, List.set_cons_succ, i64_w, i32_w]
    rfl
  refine done_ (by kernel_rfl) ?_

  have hA1 := blk_put HA0.out 0 (.int .i64 a) rfl
  have hP1 := blk_far HP0.out (p := ⟨g, 0, none⟩) hne' (.int .i64 a)
  have HF1 := Lib.hid (Fr.put (S := (· = g)) HF0.out (p := ⟨g, 0, none⟩) (.inl rfl) (.int .i64 a))
  generalize hW1 : World.setCell _ _ _ = W1
  rw [hW1] at hA1 hP1 HF1
  clear hW1 c0 f0 p0 hHeld
  have HA1b := Lib.hid (blk_below hA1 (below_drew1 (Below.refl _ _)))
  have HP1b := Lib.hid (blk_below hP1 (below_drew1 (Below.refl _ _)))
  have HF1b := Lib.hid (HF1.out.more (below_drew1 (Below.refl _ _)))
  clear HF1 hA1 hP1
  have HA1 := HA1b
  have HP1 := HP1b
  have HF1 := HF1b
  clear HA1b HP1b HF1b
  have c1 := blk_cell HA1.out 1
  have f1 := blk_frozen HA1.out 1
  have p1 := blk_cell HP1.out 1
  go_wp2
  refine start_ (n := 6) (S := fun w' => w'.cell? ⟨w.heap.size, 1, none⟩ = some (.int .i64 b)) (ds := [5]) #[false, false, false, false, false, false] (by kernel_rfl) rfl rfl (p1) (fun hHeld => ?_)
  refine pure_ (i := 0) (N := some 10) (v := ?_) (a' := ?_) #[true, false, false, false, false, false] rfl rfl (by kernel_rfl) (fun _ _ _ h => h) (Or.inl ⟨by rfl, ?_⟩) ?_ ?_
  rotate_left
  · intro w'
    go_simp
    with_reducible rfl
  rotate_left
  · simp only [Act.put, List.setIfInBounds_toArray, List.set_cons_zero, List.set_cons_succ, i64_w, i32_w]
    rfl
  refine pure_ (i := 1) (N := some 11) (v := ?_) (a' := ?_) #[true, true, false, false, false, false] rfl rfl (by kernel_rfl) (fun _ _ _ h => h) (Or.inl ⟨by rfl, ?_⟩) ?_ ?_
  rotate_left
  · intro w'
    go_simp
    with_reducible rfl
  rotate_left
  · simp only [Act.put, List.setIfInBounds_toArray, List.set_cons_zero, List.set_cons_succ, i64_w, i32_w]
    rfl
  refine pure_ (i := 2) (N := some 12) (v := ?_) (a' := ?_) #[true, true, true, false, false, false] rfl rfl (by kernel_rfl) (fun _ _ _ h => h) (Or.inl ⟨by rfl, ?_⟩) ?_ ?_
  rotate_left
  · intro w'
    go_simp
    with_reducible rfl
  rotate_left
  · simp only [Act.put, List.setIfInBounds_toArray, List.set_cons_zero, List.set_cons_succ, i64_w, i32_w]
    rfl
  refine pure_ (i := 3) (N := some 13) (v := ?_) (a' := ?_) #[true, true, true, true, false, false] rfl rfl (by kernel_rfl) (fun _ _ _ h => h) (Or.inl ⟨by rfl, ?_⟩) ?_ ?_
  rotate_left
  · intro w'
    go_simp
    with_reducible rfl
  rotate_left
  · simp only [Act.put, List.setIfInBounds_toArray, List.set_cons_zero, List.set_cons_succ, i64_w, i32_w]
    rfl
  refine take_ (i := 4) (N := some 14) (v := ?_) (a' := ?_) #[true, true, true, true, true, false] rfl rfl (by kernel_rfl) (fun _ _ _ h => h) (Or.inl ⟨by rfl, ?_⟩) hHeld ?_ ?_
  rotate_left
  · intro w' s0
    go_simp
    with_reducible rfl
  rotate_left
  · simp only [Act.put, List.setIfInBounds_toArray, List.set_cons_zero, List.set_cons_succ, i64_w, i32_w]
    rfl
  refine last_ (i := 5) (N := some 15) #[true, true, true, true, true, true] rfl rfl (by kernel_rfl) (by decide) (fun K hK => ?_)
  refine goes_ Try.func90 (by kernel_rfl) rfl #[.pointer (some ⟨g, 1, none⟩), .int .i64 b] (by rfl) rfl rfl (by simp only [List.map_toArray, List.map_cons, List.map_nil]; rfl) ?_
  with_reducible refine (store_calls ⟨g, 1, none⟩ _ b _ c1 f1).mono ?_
  rintro e w4 ⟨rfl, rfl⟩
  refine ⟨_, rfl, ?_⟩
  refine hK.out _ _ ?_
  clear hK K
  refine norm_ (a' := ?_) ?_ ?_
  rotate_left
  · show Act.put _ (some 15) _ = _
    simp only [Act.put, List.setIfInBounds_toArray, List.set_cons_zero, List.set_cons_succ, i64_w, i32_w]
    rfl
  refine done_ (by kernel_rfl) ?_

  have hA2 := blk_put HA1.out 1 (.int .i64 b) rfl
  have hP2 := blk_far HP1.out (p := ⟨g, 1, none⟩) hne' (.int .i64 b)
  have HF2 := Lib.hid (Fr.put (S := (· = g)) HF1.out (p := ⟨g, 1, none⟩) (.inl rfl) (.int .i64 b))
  generalize hW2 : World.setCell _ _ _ = W2
  rw [hW2] at hA2 hP2 HF2
  clear hW2 c1 f1 p1 hHeld
  have HA2b := Lib.hid (blk_below hA2 (below_drew1 (Below.refl _ _)))
  have HP2b := Lib.hid (blk_below hP2 (below_drew1 (Below.refl _ _)))
  have HF2b := Lib.hid (HF2.out.more (below_drew1 (Below.refl _ _)))
  clear HF2 hA2 hP2
  have HA2 := HA2b
  have HP2 := HP2b
  have HF2 := HF2b
  clear HA2b HP2b HF2b
  have c2 := blk_cell HA2.out 2
  have f2 := blk_frozen HA2.out 2
  have p2 := blk_cell HP2.out 2
  go_wp2
  refine start_ (n := 6) (S := fun w' => w'.cell? ⟨w.heap.size, 2, none⟩ = some (.int .i64 c)) (ds := [5]) #[false, false, false, false, false, false] (by kernel_rfl) rfl rfl (p2) (fun hHeld => ?_)
  refine pure_ (i := 0) (N := some 16) (v := ?_) (a' := ?_) #[true, false, false, false, false, false] rfl rfl (by kernel_rfl) (fun _ _ _ h => h) (Or.inl ⟨by rfl, ?_⟩) ?_ ?_
  rotate_left
  · intro w'
    go_simp
    with_reducible rfl
  rotate_left
  · simp only [Act.put, List.setIfInBounds_toArray, List.set_cons_zero, List.set_cons_succ, i64_w, i32_w]
    rfl
  refine pure_ (i := 1) (N := some 17) (v := ?_) (a' := ?_) #[true, true, false, false, false, false] rfl rfl (by kernel_rfl) (fun _ _ _ h => h) (Or.inl ⟨by rfl, ?_⟩) ?_ ?_
  rotate_left
  · intro w'
    go_simp
    with_reducible rfl
  rotate_left
  · simp only [Act.put, List.setIfInBounds_toArray, List.set_cons_zero, List.set_cons_succ, i64_w, i32_w]
    rfl
  refine pure_ (i := 2) (N := some 18) (v := ?_) (a' := ?_) #[true, true, true, false, false, false] rfl rfl (by kernel_rfl) (fun _ _ _ h => h) (Or.inl ⟨by rfl, ?_⟩) ?_ ?_
  rotate_left
  · intro w'
    go_simp
    with_reducible rfl
  rotate_left
  · simp only [Act.put, List.setIfInBounds_toArray, List.set_cons_zero, List.set_cons_succ, i64_w, i32_w]
    rfl
  refine pure_ (i := 3) (N := some 19) (v := ?_) (a' := ?_) #[true, true, true, true, false, false] rfl rfl (by kernel_rfl) (fun _ _ _ h => h) (Or.inl ⟨by rfl, ?_⟩) ?_ ?_
  rotate_left
  · intro w'
    go_simp
    with_reducible rfl
  rotate_left
  · simp only [Act.put, List.setIfInBounds_toArray, List.set_cons_zero, List.set_cons_succ, i64_w, i32_w]
    rfl
  refine take_ (i := 4) (N := some 20) (v := ?_) (a' := ?_) #[true, true, true, true, true, false] rfl rfl (by kernel_rfl) (fun _ _ _ h => h) (Or.inl ⟨by rfl, ?_⟩) hHeld ?_ ?_
  rotate_left
  · intro w' s0
    go_simp
    with_reducible rfl
  rotate_left
  · simp only [Act.put, List.setIfInBounds_toArray, List.set_cons_zero, List.set_cons_succ, i64_w, i32_w]
    rfl
  refine last_ (i := 5) (N := some 21) #[true, true, true, true, true, true] rfl rfl (by kernel_rfl) (by decide) (fun K hK => ?_)
  refine goes_ Try.func90 (by kernel_rfl) rfl #[.pointer (some ⟨g, 2, none⟩), .int .i64 c] (by rfl) rfl rfl (by simp only [List.map_toArray, List.map_cons, List.map_nil]; rfl) ?_
  with_reducible refine (store_calls ⟨g, 2, none⟩ _ c _ c2 f2).mono ?_
  rintro e w5 ⟨rfl, rfl⟩
  refine ⟨_, rfl, ?_⟩
  refine hK.out _ _ ?_
  clear hK K
  refine norm_ (a' := ?_) ?_ ?_
  rotate_left
  · show Act.put _ (some 21) _ = _
    simp only [Act.put, List.setIfInBounds_toArray, List.set_cons_zero, List.set_cons_succ, i64_w, i32_w]
    rfl
  refine done_ (by kernel_rfl) ?_

  have hA3 := blk_put HA2.out 2 (.int .i64 c) rfl
  have hP3 := blk_far HP2.out (p := ⟨g, 2, none⟩) hne' (.int .i64 c)
  have HF3 := Lib.hid (Fr.put (S := (· = g)) HF2.out (p := ⟨g, 2, none⟩) (.inl rfl) (.int .i64 c))
  go_wp2
  go_end0
  exact ⟨rfl, hA3, HF3.out⟩
end Go.Proofs.Ytaoacibahdbdkaa.Led
