/- forest: Find. -/
import Derived.Test.YtojbheiicmcnjaaFsE
namespace Go.Proofs.Ytojbheiicmcnjaa.Fst
open Go.RowKit Go Go.Proofs.YtojbheiicmcnjaaW.PrintWords Go.Proofs.YtojbheiicmcnjaaW.PrintMore Go.Proofs.YtojbheiicmcnjaaW.PrintLast Go.Proofs.Ytojbheiicmcnjaa.Bts Go.Proofs.Ytojbheiicmcnjaa.Fra Go.Maps
/-- One of somebody's handles, and what is told. -/
def fnd (L : List E) (x y who : Int) : E × Int := match find L x y with
  | some e => if e.ow = who then (e, 0) else (e0, 7)
  | none => (e0, 7)
theorem fnd_some {L : List E} {x y who : Int} {e : E} (h : find L x y = some e) (ho : e.ow = who) : fnd L x y who = (e, 0) := by
  unfold fnd
  rw [h]
  exact if_pos ho
theorem fnd_other {L : List E} {x y who : Int} {e : E} (h : find L x y = some e) (ho : e.ow ≠ who) : fnd L x y who = (e0, 7) := by
  unfold fnd
  rw [h]
  exact if_neg ho
theorem fnd_none {L : List E} {x y who : Int} (h : find L x y = none) : fnd L x y who = (e0, 7) := by
  unfold fnd
  rw [h]
section
variable {L : List E} {next : Int} {g b n : Nat}
set_option maxHeartbeats 2000000 in
theorem find_no (x y who : Int) (w : World) (h : FS w g b n L next) (hx : U64 x) (hy : U64 y) (hr : find L x y = none) :
    Calls Try.prog 18 #[.pointer (some ⟨g, 0, none⟩), H2 x y, .int .u32 who] w fun e' w' => e' = .returned (.tuple #[(e0).v, .int .i64 7]) ∧ Below w.heap.size w w' := by
  have hb := below_alloc (below_alloc (Below.refl w.heap.size w) (.cells #[.int .u64 x, .int .u64 y] 30)) (.cells #[.int .u64 0, .int .u64 0, .int .i64 0, .int .u8 0, .int .u32 0, .int .u64 0, .int .u64 0, .int .i64 0] 35)
  have hk := blk_alloc (blk_new w (.cells #[.int .u64 x, .int .u64 y] 30)) (.cells #[.int .u64 0, .int .u64 0, .int .i64 0, .int .u8 0, .int .u32 0, .int .u64 0, .int .u64 0, .int .i64 0] 35)
  have ho := new1 w (.cells #[.int .u64 x, .int .u64 y] 30) (.cells #[.int .u64 0, .int .u64 0, .int .i64 0, .int .u8 0, .int .u32 0, .int .u64 0, .int .u64 0, .int .i64 0] 35)
  obtain ⟨W1, hW1⟩ : ∃ W1, (w.alloc (.cells #[.int .u64 x, .int .u64 y] 30)).alloc (.cells #[.int .u64 0, .int .u64 0, .int .i64 0, .int .u8 0, .int .u32 0, .int .u64 0, .int .u64 0, .int .i64 0] 35) = W1 := ⟨_, rfl⟩
  rw [hW1] at hb hk ho
  have hd : Below W1.heap.size W1 W1.drew := below_drew1 (Below.refl _ _)
  obtain ⟨Y, hY0⟩ : ∃ Y, W1.drew = Y := ⟨_, rfl⟩
  have hY : ((w.alloc (.cells #[.int .u64 x, .int .u64 y] 30)).alloc (.cells #[.int .u64 0, .int .u64 0, .int .i64 0, .int .u8 0, .int .u32 0, .int .u64 0, .int .u64 0, .int .i64 0] 35)).drew = Y := by rw [hW1]; exact hY0
  rw [hY0] at hd
  have HF := Lib.hid ((h.below hb).below hd)
  have HK := Lib.hid (blk_below hk hd)
  have HO := Lib.hid (blk_below ho hd)
  have HB := Lib.hid (hb.trans (hd.mono hb.size))
  have HS := Lib.hid hb.size
  have HSZ := Lib.hid (show w.heap.size + 1 < Y.heap.size from blk_lt (blk_below ho hd))
  have hl := fun (W : World) (hW : FS W g b n L next) => (hW.look hx hy).1
  rw [hr] at hl
  clear hr
  have HL := Lib.hid hl
  clear hb hk ho hd hW1 hY0 h hl
  go_enter Try.func18, Try.ntmps18
  go_wp2
  refine start_ (n := 12) (S := fun w' => w'.cell? ⟨g, 0, none⟩ = some (.map (some b)) ∧ w'.cell? ⟨w.heap.size, 0, none⟩ = some (.int .u64 x) ∧ w'.cell? ⟨w.heap.size, 1, none⟩ = some (.int .u64 y) ∧ (Instr.lookup 62 (.map (some b)) (H2 x y) true).run Try.prog w' = .ok (.tuple #[.agg #[.int .u64 0, .int .u64 0, .int .i64 0, .int .u8 0, .int .u32 0, .int .u64 0, .int .u64 0, .int .i64 0], .bool false]) w') (ds := []) #[false, false, false, false, false, false, false, false, false, false, false, false] (by kernel_rfl) rfl rfl ⟨(by rw [hY]; exact ob0 HF.out), (by rw [hY]; exact blk_cell HK.out 0), (by rw [hY]; exact blk_cell HK.out 1), (by rw [hY]; exact HL.out _ HF.out)⟩ (fun hHeld => ?_)
  refine pure_ (i := 0) (N := some 14) (v := ?_) (a' := ?_) #[true, false, false, false, false, false, false, false, false, false, false, false] rfl rfl (by kernel_rfl) (fun _ _ _ h => h) (Or.inl ⟨by rfl, ?_⟩) ?_ ?_
  rotate_left
  · intro w'
    go_simp
    with_reducible rfl
  rotate_left
  · simp only [Act.put, List.setIfInBounds_toArray, List.set_cons_zero, List.set_cons_succ]
    rfl
  refine pure_ (i := 1) (N := some 15) (v := ?_) (a' := ?_) #[true, true, false, false, false, false, false, false, false, false, false, false] rfl rfl (by kernel_rfl) (fun _ _ _ h => h) (Or.inl ⟨by rfl, ?_⟩) ?_ ?_
  rotate_left
  · intro w'
    go_simp
    with_reducible rfl
  rotate_left
  · simp only [Act.put, List.setIfInBounds_toArray, List.set_cons_zero, List.set_cons_succ]
    rfl
  refine pure_ (i := 2) (N := some 16) (v := ?_) (a' := ?_) #[true, true, true, false, false, false, false, false, false, false, false, false] rfl rfl (by kernel_rfl) (fun _ _ _ h => h) (Or.inl ⟨by rfl, ?_⟩) ?_ ?_
  rotate_left
  · intro w'
    go_simp
    with_reducible rfl
  rotate_left
  · simp only [Act.put, List.setIfInBounds_toArray, List.set_cons_zero, List.set_cons_succ]
    rfl
  refine take_ (i := 3) (N := some 17) (v := ?_) (a' := ?_) #[true, true, true, true, false, false, false, false, false, false, false, false] rfl rfl (by kernel_rfl) (fun _ _ _ h => h) (Or.inl ⟨by rfl, ?_⟩) hHeld ?_ ?_
  rotate_left
  · rintro w' ⟨s0, s1, s2, s3⟩
    go_simp
    with_reducible rfl
  rotate_left
  · simp only [Act.put, List.setIfInBounds_toArray, List.set_cons_zero, List.set_cons_succ]
    rfl
  refine take_ (i := 4) (N := some 18) (v := ?_) (a' := ?_) #[true, true, true, true, true, false, false, false, false, false, false, false] rfl rfl (by kernel_rfl) (fun _ _ _ h => h) (Or.inl ⟨by rfl, ?_⟩) hHeld ?_ ?_
  rotate_left
  · rintro w' ⟨s0, s1, s2, s3⟩
    go_simp
    with_reducible rfl
  rotate_left
  · simp only [Act.put, List.setIfInBounds_toArray, List.set_cons_zero, List.set_cons_succ]
    rfl
  refine take_ (i := 5) (N := some 19) (v := ?_) (a' := ?_) #[true, true, true, true, true, true, false, false, false, false, false, false] rfl rfl (by kernel_rfl) (fun _ _ _ h => h) (Or.inl ⟨by rfl, ?_⟩) hHeld ?_ ?_
  rotate_left
  · rintro w' ⟨s0, s1, s2, s3⟩
    go_simp
    with_reducible rfl
  rotate_left
  · simp only [Act.put, List.setIfInBounds_toArray, List.set_cons_zero, List.set_cons_succ]
    rfl
  refine pure_ (i := 6) (N := some 13) (v := ?_) (a' := ?_) #[true, true, true, true, true, true, true, false, false, false, false, false] rfl rfl (by kernel_rfl) (fun _ _ _ h => h) (Or.inl ⟨by rfl, ?_⟩) ?_ ?_
  rotate_left
  · intro w'
    go_simp
    with_reducible rfl
  rotate_left
  · simp only [Act.put, List.setIfInBounds_toArray, List.set_cons_zero, List.set_cons_succ]
    rfl
  refine pure_ (i := 7) (N := some 20) (v := ?_) (a' := ?_) #[true, true, true, true, true, true, true, true, false, false, false, false] rfl rfl (by kernel_rfl) (fun _ _ _ h => h) (Or.inl ⟨by rfl, ?_⟩) ?_ ?_
  rotate_left
  · intro w'
    go_simp
    with_reducible rfl
  rotate_left
  · simp only [Act.put, List.setIfInBounds_toArray, List.set_cons_zero, List.set_cons_succ]
    rfl
  refine pure_ (i := 8) (N := some 21) (v := ?_) (a' := ?_) #[true, true, true, true, true, true, true, true, true, false, false, false] rfl rfl (by kernel_rfl) (fun _ _ _ h => h) (Or.inl ⟨by rfl, ?_⟩) ?_ ?_
  rotate_left
  · intro w'
    go_simp
    with_reducible rfl
  rotate_left
  · simp only [Act.put, List.setIfInBounds_toArray, List.set_cons_zero, List.set_cons_succ]
    rfl
  refine one_ (i := 9) (N := some 8) #[true, true, true, true, true, true, true, true, true, true, false, false] rfl rfl (by kernel_rfl) (by decide) (fun K hK => ?_)
  refine value_ (w1 := ?_) (v := ?_) (by rfl) rfl ?_ ?_
  rotate_left 2
  · go_simp
    constructor
    · rfl
    · rfl
  have hnb := below_alloc (Below.refl Y.heap.size Y) (.cells #[.int .u64 0, .int .u64 0, .int .i64 0, .int .u8 0, .int .u32 0, .int .u64 0, .int .u64 0, .int .i64 0] 35)
  have HNB := Lib.hid hnb
  clear hnb
  refine hK.out _ _ ⟨(ob0 (HF.out.below HNB.out)), (blk_cell (blk_below HK.out HNB.out) 0), (blk_cell (blk_below HK.out HNB.out) 1), (HL.out _ (HF.out.below HNB.out))⟩ (fun hHeld => ?_)
  clear hK K
  refine norm_ (a' := ?_) ?_ ?_
  rotate_left
  · show Act.put _ (some 8) _ = _
    simp only [Act.put, List.setIfInBounds_toArray, List.set_cons_zero, List.set_cons_succ]
    rfl
  refine one_ (i := 10) (N := none) #[true, true, true, true, true, true, true, true, true, true, true, false] rfl rfl (by kernel_rfl) (by decide) (fun K hK => ?_)
  refine skip_ (w1 := ?_) (by rfl) rfl ?_ ?_
  rotate_left
  · go_simp
    rfl
  have hnb2 := below_alloc (Below.refl Y.heap.size Y) (.cells #[.int .u64 0, .int .u64 0, .int .i64 0, .int .u8 0, .int .u32 0, .int .u64 0, .int .u64 0, .int .i64 0] 35)
  have HNB2 := Lib.hid hnb2
  clear hnb2
  refine hK.out _ _ ⟨(ob0 (HF.out.below HNB2.out)), (blk_cell (blk_below HK.out HNB2.out) 0), (blk_cell (blk_below HK.out HNB2.out) 1), (HL.out _ (HF.out.below HNB2.out))⟩ (fun hHeld => ?_)
  clear hK K
  refine pure_ (i := 11) (N := some 9) (v := ?_) (a' := ?_) #[true, true, true, true, true, true, true, true, true, true, true, true] rfl rfl (by kernel_rfl) (fun _ _ _ h => h) (Or.inl ⟨by rfl, ?_⟩) ?_ ?_
  rotate_left
  · intro w'
    go_simp
    with_reducible rfl
  rotate_left
  · simp only [Act.put, List.setIfInBounds_toArray, List.set_cons_zero, List.set_cons_succ]
    rfl
  refine done_ (by kernel_rfl) ?_

  have HO2 := Lib.hid (blk_below HO.out HNB2.out)
  have o0 := blk_cell HO2.out 0
  have o1 := blk_cell HO2.out 1
  have o2 := blk_cell HO2.out 2
  have o3 := blk_cell HO2.out 3
  have o4 := blk_cell HO2.out 4
  have o5 := blk_cell HO2.out 5
  have o6 := blk_cell HO2.out 6
  have o7 := blk_cell HO2.out 7
  have z0 := blk_frozen HO2.out 0
  have z1 := blk_frozen HO2.out 1
  have z2 := blk_frozen HO2.out 2
  have z3 := blk_frozen HO2.out 3
  have z4 := blk_frozen HO2.out 4
  have z5 := blk_frozen HO2.out 5
  have z6 := blk_frozen HO2.out 6
  have z7 := blk_frozen HO2.out 7
  go_wp2
  refine bodyPost_ret (results_ct rfl _ _ (w.heap.size + 1) 35 #[.int .u64 0, .int .u64 0, .int .i64 0, .int .u8 0, .int .u32 0, .int .u64 0, .int .u64 0, .int .i64 0] (0, 0) _ rfl (ret8 HO2.out _ _ _ _ _ _ _ _) Try.underlying35 rfl (by kernel_rfl)) rfl ?_
  refine ⟨rfl, Fr.below (S := fun j => w.heap.size ≤ j) ?_ (fun _ h => h) (Nat.le_refl _)⟩
  refine Fr.then_ (S' := fun j => w.heap.size ≤ j) (Fr.of_new HB.out) ?_ (fun k hk => .inl hk)
  refine Fr.then_ (S' := fun j => j = w.heap.size + 1) (Fr.of_new HNB2.out) ?_ (fun k hk => .inl (by omega))
  exact fr8 _ (w.heap.size + 1) _ _ _ _ _ _ _ _
set_option maxHeartbeats 2000000 in
theorem find_not (x y who : Int) (w : World) (h : FS w g b n L next) (hx : U64 x) (hy : U64 y) (e : E) (hr : find L x y = some e) (hw : e.ow ≠ who) :
    Calls Try.prog 18 #[.pointer (some ⟨g, 0, none⟩), H2 x y, .int .u32 who] w fun e' w' => e' = .returned (.tuple #[(e0).v, .int .i64 7]) ∧ Below w.heap.size w w' := by
  have hb := below_alloc (below_alloc (Below.refl w.heap.size w) (.cells #[.int .u64 x, .int .u64 y] 30)) (.cells #[.int .u64 0, .int .u64 0, .int .i64 0, .int .u8 0, .int .u32 0, .int .u64 0, .int .u64 0, .int .i64 0] 35)
  have hk := blk_alloc (blk_new w (.cells #[.int .u64 x, .int .u64 y] 30)) (.cells #[.int .u64 0, .int .u64 0, .int .i64 0, .int .u8 0, .int .u32 0, .int .u64 0, .int .u64 0, .int .i64 0] 35)
  have ho := new1 w (.cells #[.int .u64 x, .int .u64 y] 30) (.cells #[.int .u64 0, .int .u64 0, .int .i64 0, .int .u8 0, .int .u32 0, .int .u64 0, .int .u64 0, .int .i64 0] 35)
  obtain ⟨W1, hW1⟩ : ∃ W1, (w.alloc (.cells #[.int .u64 x, .int .u64 y] 30)).alloc (.cells #[.int .u64 0, .int .u64 0, .int .i64 0, .int .u8 0, .int .u32 0, .int .u64 0, .int .u64 0, .int .i64 0] 35) = W1 := ⟨_, rfl⟩
  rw [hW1] at hb hk ho
  have hd : Below W1.heap.size W1 W1.drew := below_drew1 (Below.refl _ _)
  obtain ⟨Y, hY0⟩ : ∃ Y, W1.drew = Y := ⟨_, rfl⟩
  have hY : ((w.alloc (.cells #[.int .u64 x, .int .u64 y] 30)).alloc (.cells #[.int .u64 0, .int .u64 0, .int .i64 0, .int .u8 0, .int .u32 0, .int .u64 0, .int .u64 0, .int .i64 0] 35)).drew = Y := by rw [hW1]; exact hY0
  rw [hY0] at hd
  have HF := Lib.hid ((h.below hb).below hd)
  have HK := Lib.hid (blk_below hk hd)
  have HO := Lib.hid (blk_below ho hd)
  have HB := Lib.hid (hb.trans (hd.mono hb.size))
  have HS := Lib.hid hb.size
  have HSZ := Lib.hid (show w.heap.size + 1 < Y.heap.size from blk_lt (blk_below ho hd))
  have hl := fun (W : World) (hW : FS W g b n L next) => (hW.look hx hy).1
  rw [hr] at hl
  have hwb : (e.ow != who) = true := by simpa using hw
  clear hr hw
  have HL := Lib.hid hl
  clear hb hk ho hd hW1 hY0 h hl
  go_enter Try.func18, Try.ntmps18
  go_wp2
  refine start_ (n := 12) (S := fun w' => w'.cell? ⟨g, 0, none⟩ = some (.map (some b)) ∧ w'.cell? ⟨w.heap.size, 0, none⟩ = some (.int .u64 x) ∧ w'.cell? ⟨w.heap.size, 1, none⟩ = some (.int .u64 y) ∧ (Instr.lookup 62 (.map (some b)) (H2 x y) true).run Try.prog w' = .ok (.tuple #[(e).v, .bool true]) w') (ds := []) #[false, false, false, false, false, false, false, false, false, false, false, false] (by kernel_rfl) rfl rfl ⟨(by rw [hY]; exact ob0 HF.out), (by rw [hY]; exact blk_cell HK.out 0), (by rw [hY]; exact blk_cell HK.out 1), (by rw [hY]; exact HL.out _ HF.out)⟩ (fun hHeld => ?_)
  refine pure_ (i := 0) (N := some 14) (v := ?_) (a' := ?_) #[true, false, false, false, false, false, false, false, false, false, false, false] rfl rfl (by kernel_rfl) (fun _ _ _ h => h) (Or.inl ⟨by rfl, ?_⟩) ?_ ?_
  rotate_left
  · intro w'
    go_simp
    with_reducible rfl
  rotate_left
  · simp only [Act.put, List.setIfInBounds_toArray, List.set_cons_zero, List.set_cons_succ]
    rfl
  refine pure_ (i := 1) (N := some 15) (v := ?_) (a' := ?_) #[true, true, false, false, false, false, false, false, false, false, false, false] rfl rfl (by kernel_rfl) (fun _ _ _ h => h) (Or.inl ⟨by rfl, ?_⟩) ?_ ?_
  rotate_left
  · intro w'
    go_simp
    with_reducible rfl
  rotate_left
  · simp only [Act.put, List.setIfInBounds_toArray, List.set_cons_zero, List.set_cons_succ]
    rfl
  refine pure_ (i := 2) (N := some 16) (v := ?_) (a' := ?_) #[true, true, true, false, false, false, false, false, false, false, false, false] rfl rfl (by kernel_rfl) (fun _ _ _ h => h) (Or.inl ⟨by rfl, ?_⟩) ?_ ?_
  rotate_left
  · intro w'
    go_simp
    with_reducible rfl
  rotate_left
  · simp only [Act.put, List.setIfInBounds_toArray, List.set_cons_zero, List.set_cons_succ]
    rfl
  refine take_ (i := 3) (N := some 17) (v := ?_) (a' := ?_) #[true, true, true, true, false, false, false, false, false, false, false, false] rfl rfl (by kernel_rfl) (fun _ _ _ h => h) (Or.inl ⟨by rfl, ?_⟩) hHeld ?_ ?_
  rotate_left
  · rintro w' ⟨s0, s1, s2, s3⟩
    go_simp
    with_reducible rfl
  rotate_left
  · simp only [Act.put, List.setIfInBounds_toArray, List.set_cons_zero, List.set_cons_succ]
    rfl
  refine take_ (i := 4) (N := some 18) (v := ?_) (a' := ?_) #[true, true, true, true, true, false, false, false, false, false, false, false] rfl rfl (by kernel_rfl) (fun _ _ _ h => h) (Or.inl ⟨by rfl, ?_⟩) hHeld ?_ ?_
  rotate_left
  · rintro w' ⟨s0, s1, s2, s3⟩
    go_simp
    with_reducible rfl
  rotate_left
  · simp only [Act.put, List.setIfInBounds_toArray, List.set_cons_zero, List.set_cons_succ]
    rfl
  refine take_ (i := 5) (N := some 19) (v := ?_) (a' := ?_) #[true, true, true, true, true, true, false, false, false, false, false, false] rfl rfl (by kernel_rfl) (fun _ _ _ h => h) (Or.inl ⟨by rfl, ?_⟩) hHeld ?_ ?_
  rotate_left
  · rintro w' ⟨s0, s1, s2, s3⟩
    go_simp
    with_reducible rfl
  rotate_left
  · simp only [Act.put, List.setIfInBounds_toArray, List.set_cons_zero, List.set_cons_succ]
    rfl
  refine pure_ (i := 6) (N := some 13) (v := ?_) (a' := ?_) #[true, true, true, true, true, true, true, false, false, false, false, false] rfl rfl (by kernel_rfl) (fun _ _ _ h => h) (Or.inl ⟨by rfl, ?_⟩) ?_ ?_
  rotate_left
  · intro w'
    go_simp
    with_reducible rfl
  rotate_left
  · simp only [Act.put, List.setIfInBounds_toArray, List.set_cons_zero, List.set_cons_succ]
    rfl
  refine pure_ (i := 7) (N := some 20) (v := ?_) (a' := ?_) #[true, true, true, true, true, true, true, true, false, false, false, false] rfl rfl (by kernel_rfl) (fun _ _ _ h => h) (Or.inl ⟨by rfl, ?_⟩) ?_ ?_
  rotate_left
  · intro w'
    go_simp
    with_reducible rfl
  rotate_left
  · simp only [Act.put, List.setIfInBounds_toArray, List.set_cons_zero, List.set_cons_succ]
    rfl
  refine pure_ (i := 8) (N := some 21) (v := ?_) (a' := ?_) #[true, true, true, true, true, true, true, true, true, false, false, false] rfl rfl (by kernel_rfl) (fun _ _ _ h => h) (Or.inl ⟨by rfl, ?_⟩) ?_ ?_
  rotate_left
  · intro w'
    go_simp
    with_reducible rfl
  rotate_left
  · simp only [Act.put, List.setIfInBounds_toArray, List.set_cons_zero, List.set_cons_succ]
    rfl
  refine one_ (i := 9) (N := some 8) #[true, true, true, true, true, true, true, true, true, true, false, false] rfl rfl (by kernel_rfl) (by decide) (fun K hK => ?_)
  refine value_ (w1 := ?_) (v := ?_) (by rfl) rfl ?_ ?_
  rotate_left 2
  · go_simp
    constructor
    · rfl
    · rfl
  have hnb := below_alloc (Below.refl Y.heap.size Y) (.cells #[.int .u64 0, .int .u64 0, .int .i64 0, .int .u8 0, .int .u32 0, .int .u64 0, .int .u64 0, .int .i64 0] 35)
  have HNB := Lib.hid hnb
  clear hnb
  refine hK.out _ _ ⟨(ob0 (HF.out.below HNB.out)), (blk_cell (blk_below HK.out HNB.out) 0), (blk_cell (blk_below HK.out HNB.out) 1), (HL.out _ (HF.out.below HNB.out))⟩ (fun hHeld => ?_)
  clear hK K
  refine norm_ (a' := ?_) ?_ ?_
  rotate_left
  · show Act.put _ (some 8) _ = _
    simp only [Act.put, List.setIfInBounds_toArray, List.set_cons_zero, List.set_cons_succ]
    rfl
  refine one_ (i := 10) (N := none) #[true, true, true, true, true, true, true, true, true, true, true, false] rfl rfl (by kernel_rfl) (by decide) (fun K hK => ?_)
  refine skip_ (w1 := ?_) (by rfl) rfl ?_ ?_
  rotate_left
  · go_simp
    rfl
  have hnb2 := below_alloc (Below.refl Y.heap.size Y) (EC (e))
  have HNB2 := Lib.hid hnb2
  clear hnb2
  refine hK.out _ _ ⟨(ob0 (HF.out.below HNB2.out)), (blk_cell (blk_below HK.out HNB2.out) 0), (blk_cell (blk_below HK.out HNB2.out) 1), (HL.out _ (HF.out.below HNB2.out))⟩ (fun hHeld => ?_)
  clear hK K
  refine pure_ (i := 11) (N := some 9) (v := ?_) (a' := ?_) #[true, true, true, true, true, true, true, true, true, true, true, true] rfl rfl (by kernel_rfl) (fun _ _ _ h => h) (Or.inl ⟨by rfl, ?_⟩) ?_ ?_
  rotate_left
  · intro w'
    go_simp
    with_reducible rfl
  rotate_left
  · simp only [Act.put, List.setIfInBounds_toArray, List.set_cons_zero, List.set_cons_succ]
    rfl
  refine done_ (by kernel_rfl) ?_

  have HO2 := Lib.hid (blk_below HO.out HNB2.out)
  have o0 := blk_cell HO2.out 0
  have o1 := blk_cell HO2.out 1
  have o2 := blk_cell HO2.out 2
  have o3 := blk_cell HO2.out 3
  have o4 := blk_cell HO2.out 4
  have o5 := blk_cell HO2.out 5
  have o6 := blk_cell HO2.out 6
  have o7 := blk_cell HO2.out 7
  have z0 := blk_frozen HO2.out 0
  have z1 := blk_frozen HO2.out 1
  have z2 := blk_frozen HO2.out 2
  have z3 := blk_frozen HO2.out 3
  have z4 := blk_frozen HO2.out 4
  have z5 := blk_frozen HO2.out 5
  have z6 := blk_frozen HO2.out 6
  have z7 := blk_frozen HO2.out 7
  go_wp2
  refine bodyPost_ret (results_ct rfl _ _ (w.heap.size + 1) 35 #[.int .u64 0, .int .u64 0, .int .i64 0, .int .u8 0, .int .u32 0, .int .u64 0, .int .u64 0, .int .i64 0] (0, 0) _ rfl (ret8 HO2.out _ _ _ _ _ _ _ _) Try.underlying35 rfl (by kernel_rfl)) rfl ?_
  refine ⟨rfl, Fr.below (S := fun j => w.heap.size ≤ j) ?_ (fun _ h => h) (Nat.le_refl _)⟩
  refine Fr.then_ (S' := fun j => w.heap.size ≤ j) (Fr.of_new HB.out) ?_ (fun k hk => .inl hk)
  refine Fr.then_ (S' := fun j => j = w.heap.size + 1) (Fr.of_new HNB2.out) ?_ (fun k hk => .inl (by omega))
  exact fr8 _ (w.heap.size + 1) _ _ _ _ _ _ _ _
set_option maxHeartbeats 2000000 in
theorem find_yes (x y who : Int) (w : World) (h : FS w g b n L next) (hx : U64 x) (hy : U64 y) (e : E) (hr : find L x y = some e) (hw : e.ow = who) :
    Calls Try.prog 18 #[.pointer (some ⟨g, 0, none⟩), H2 x y, .int .u32 who] w fun e' w' => e' = .returned (.tuple #[(e).v, .int .i64 0]) ∧ Below w.heap.size w w' := by
  have hb := below_alloc (below_alloc (Below.refl w.heap.size w) (.cells #[.int .u64 x, .int .u64 y] 30)) (.cells #[.int .u64 0, .int .u64 0, .int .i64 0, .int .u8 0, .int .u32 0, .int .u64 0, .int .u64 0, .int .i64 0] 35)
  have hk := blk_alloc (blk_new w (.cells #[.int .u64 x, .int .u64 y] 30)) (.cells #[.int .u64 0, .int .u64 0, .int .i64 0, .int .u8 0, .int .u32 0, .int .u64 0, .int .u64 0, .int .i64 0] 35)
  have ho := new1 w (.cells #[.int .u64 x, .int .u64 y] 30) (.cells #[.int .u64 0, .int .u64 0, .int .i64 0, .int .u8 0, .int .u32 0, .int .u64 0, .int .u64 0, .int .i64 0] 35)
  obtain ⟨W1, hW1⟩ : ∃ W1, (w.alloc (.cells #[.int .u64 x, .int .u64 y] 30)).alloc (.cells #[.int .u64 0, .int .u64 0, .int .i64 0, .int .u8 0, .int .u32 0, .int .u64 0, .int .u64 0, .int .i64 0] 35) = W1 := ⟨_, rfl⟩
  rw [hW1] at hb hk ho
  have hd : Below W1.heap.size W1 W1.drew := below_drew1 (Below.refl _ _)
  obtain ⟨Y, hY0⟩ : ∃ Y, W1.drew = Y := ⟨_, rfl⟩
  have hY : ((w.alloc (.cells #[.int .u64 x, .int .u64 y] 30)).alloc (.cells #[.int .u64 0, .int .u64 0, .int .i64 0, .int .u8 0, .int .u32 0, .int .u64 0, .int .u64 0, .int .i64 0] 35)).drew = Y := by rw [hW1]; exact hY0
  rw [hY0] at hd
  have HF := Lib.hid ((h.below hb).below hd)
  have HK := Lib.hid (blk_below hk hd)
  have HO := Lib.hid (blk_below ho hd)
  have HB := Lib.hid (hb.trans (hd.mono hb.size))
  have HS := Lib.hid hb.size
  have HSZ := Lib.hid (show w.heap.size + 1 < Y.heap.size from blk_lt (blk_below ho hd))
  have hl := fun (W : World) (hW : FS W g b n L next) => (hW.look hx hy).1
  rw [hr] at hl
  have hwb : (e.ow != who) = false := by simpa using hw
  clear hr hw
  have HL := Lib.hid hl
  clear hb hk ho hd hW1 hY0 h hl
  go_enter Try.func18, Try.ntmps18
  go_wp2
  refine start_ (n := 12) (S := fun w' => w'.cell? ⟨g, 0, none⟩ = some (.map (some b)) ∧ w'.cell? ⟨w.heap.size, 0, none⟩ = some (.int .u64 x) ∧ w'.cell? ⟨w.heap.size, 1, none⟩ = some (.int .u64 y) ∧ (Instr.lookup 62 (.map (some b)) (H2 x y) true).run Try.prog w' = .ok (.tuple #[(e).v, .bool true]) w') (ds := []) #[false, false, false, false, false, false, false, false, false, false, false, false] (by kernel_rfl) rfl rfl ⟨(by rw [hY]; exact ob0 HF.out), (by rw [hY]; exact blk_cell HK.out 0), (by rw [hY]; exact blk_cell HK.out 1), (by rw [hY]; exact HL.out _ HF.out)⟩ (fun hHeld => ?_)
  refine pure_ (i := 0) (N := some 14) (v := ?_) (a' := ?_) #[true, false, false, false, false, false, false, false, false, false, false, false] rfl rfl (by kernel_rfl) (fun _ _ _ h => h) (Or.inl ⟨by rfl, ?_⟩) ?_ ?_
  rotate_left
  · intro w'
    go_simp
    with_reducible rfl
  rotate_left
  · simp only [Act.put, List.setIfInBounds_toArray, List.set_cons_zero, List.set_cons_succ]
    rfl
  refine pure_ (i := 1) (N := some 15) (v := ?_) (a' := ?_) #[true, true, false, false, false, false, false, false, false, false, false, false] rfl rfl (by kernel_rfl) (fun _ _ _ h => h) (Or.inl ⟨by rfl, ?_⟩) ?_ ?_
  rotate_left
  · intro w'
    go_simp
    with_reducible rfl
  rotate_left
  · simp only [Act.put, List.setIfInBounds_toArray, List.set_cons_zero, List.set_cons_succ]
    rfl
  refine pure_ (i := 2) (N := some 16) (v := ?_) (a' := ?_) #[true, true, true, false, false, false, false, false, false, false, false, false] rfl rfl (by kernel_rfl) (fun _ _ _ h => h) (Or.inl ⟨by rfl, ?_⟩) ?_ ?_
  rotate_left
  · intro w'
    go_simp
    with_reducible rfl
  rotate_left
  · simp only [Act.put, List.setIfInBounds_toArray, List.set_cons_zero, List.set_cons_succ]
    rfl
  refine take_ (i := 3) (N := some 17) (v := ?_) (a' := ?_) #[true, true, true, true, false, false, false, false, false, false, false, false] rfl rfl (by kernel_rfl) (fun _ _ _ h => h) (Or.inl ⟨by rfl, ?_⟩) hHeld ?_ ?_
  rotate_left
  · rintro w' ⟨s0, s1, s2, s3⟩
    go_simp
    with_reducible rfl
  rotate_left
  · simp only [Act.put, List.setIfInBounds_toArray, List.set_cons_zero, List.set_cons_succ]
    rfl
  refine take_ (i := 4) (N := some 18) (v := ?_) (a' := ?_) #[true, true, true, true, true, false, false, false, false, false, false, false] rfl rfl (by kernel_rfl) (fun _ _ _ h => h) (Or.inl ⟨by rfl, ?_⟩) hHeld ?_ ?_
  rotate_left
  · rintro w' ⟨s0, s1, s2, s3⟩
    go_simp
    with_reducible rfl
  rotate_left
  · simp only [Act.put, List.setIfInBounds_toArray, List.set_cons_zero, List.set_cons_succ]
    rfl
  refine take_ (i := 5) (N := some 19) (v := ?_) (a' := ?_) #[true, true, true, true, true, true, false, false, false, false, false, false] rfl rfl (by kernel_rfl) (fun _ _ _ h => h) (Or.inl ⟨by rfl, ?_⟩) hHeld ?_ ?_
  rotate_left
  · rintro w' ⟨s0, s1, s2, s3⟩
    go_simp
    with_reducible rfl
  rotate_left
  · simp only [Act.put, List.setIfInBounds_toArray, List.set_cons_zero, List.set_cons_succ]
    rfl
  refine pure_ (i := 6) (N := some 13) (v := ?_) (a' := ?_) #[true, true, true, true, true, true, true, false, false, false, false, false] rfl rfl (by kernel_rfl) (fun _ _ _ h => h) (Or.inl ⟨by rfl, ?_⟩) ?_ ?_
  rotate_left
  · intro w'
    go_simp
    with_reducible rfl
  rotate_left
  · simp only [Act.put, List.setIfInBounds_toArray, List.set_cons_zero, List.set_cons_succ]
    rfl
  refine pure_ (i := 7) (N := some 20) (v := ?_) (a' := ?_) #[true, true, true, true, true, true, true, true, false, false, false, false] rfl rfl (by kernel_rfl) (fun _ _ _ h => h) (Or.inl ⟨by rfl, ?_⟩) ?_ ?_
  rotate_left
  · intro w'
    go_simp
    with_reducible rfl
  rotate_left
  · simp only [Act.put, List.setIfInBounds_toArray, List.set_cons_zero, List.set_cons_succ]
    rfl
  refine pure_ (i := 8) (N := some 21) (v := ?_) (a' := ?_) #[true, true, true, true, true, true, true, true, true, false, false, false] rfl rfl (by kernel_rfl) (fun _ _ _ h => h) (Or.inl ⟨by rfl, ?_⟩) ?_ ?_
  rotate_left
  · intro w'
    go_simp
    with_reducible rfl
  rotate_left
  · simp only [Act.put, List.setIfInBounds_toArray, List.set_cons_zero, List.set_cons_succ]
    rfl
  refine one_ (i := 9) (N := some 8) #[true, true, true, true, true, true, true, true, true, true, false, false] rfl rfl (by kernel_rfl) (by decide) (fun K hK => ?_)
  refine value_ (w1 := ?_) (v := ?_) (by rfl) rfl ?_ ?_
  rotate_left 2
  · go_simp
    constructor
    · rfl
    · rfl
  have hnb := below_alloc (Below.refl Y.heap.size Y) (.cells #[.int .u64 0, .int .u64 0, .int .i64 0, .int .u8 0, .int .u32 0, .int .u64 0, .int .u64 0, .int .i64 0] 35)
  have HNB := Lib.hid hnb
  clear hnb
  refine hK.out _ _ ⟨(ob0 (HF.out.below HNB.out)), (blk_cell (blk_below HK.out HNB.out) 0), (blk_cell (blk_below HK.out HNB.out) 1), (HL.out _ (HF.out.below HNB.out))⟩ (fun hHeld => ?_)
  clear hK K
  refine norm_ (a' := ?_) ?_ ?_
  rotate_left
  · show Act.put _ (some 8) _ = _
    simp only [Act.put, List.setIfInBounds_toArray, List.set_cons_zero, List.set_cons_succ]
    rfl
  refine one_ (i := 10) (N := none) #[true, true, true, true, true, true, true, true, true, true, true, false] rfl rfl (by kernel_rfl) (by decide) (fun K hK => ?_)
  refine skip_ (w1 := ?_) (by rfl) rfl ?_ ?_
  rotate_left
  · go_simp
    rfl
  have hnb2 := below_alloc (Below.refl Y.heap.size Y) (EC (e))
  have HNB2 := Lib.hid hnb2
  clear hnb2
  refine hK.out _ _ ⟨(ob0 (HF.out.below HNB2.out)), (blk_cell (blk_below HK.out HNB2.out) 0), (blk_cell (blk_below HK.out HNB2.out) 1), (HL.out _ (HF.out.below HNB2.out))⟩ (fun hHeld => ?_)
  clear hK K
  refine pure_ (i := 11) (N := some 9) (v := ?_) (a' := ?_) #[true, true, true, true, true, true, true, true, true, true, true, true] rfl rfl (by kernel_rfl) (fun _ _ _ h => h) (Or.inl ⟨by rfl, ?_⟩) ?_ ?_
  rotate_left
  · intro w'
    go_simp
    with_reducible rfl
  rotate_left
  · simp only [Act.put, List.setIfInBounds_toArray, List.set_cons_zero, List.set_cons_succ]
    rfl
  refine done_ (by kernel_rfl) ?_

  have HO2 := Lib.hid (blk_below HO.out HNB2.out)
  have o0 := blk_cell HO2.out 0
  have o1 := blk_cell HO2.out 1
  have o2 := blk_cell HO2.out 2
  have o3 := blk_cell HO2.out 3
  have o4 := blk_cell HO2.out 4
  have o5 := blk_cell HO2.out 5
  have o6 := blk_cell HO2.out 6
  have o7 := blk_cell HO2.out 7
  have z0 := blk_frozen HO2.out 0
  have z1 := blk_frozen HO2.out 1
  have z2 := blk_frozen HO2.out 2
  have z3 := blk_frozen HO2.out 3
  have z4 := blk_frozen HO2.out 4
  have z5 := blk_frozen HO2.out 5
  have z6 := blk_frozen HO2.out 6
  have z7 := blk_frozen HO2.out 7
  go_wp2
  refine bodyPost_ret (results_ct rfl _ _ (w.heap.size + 1) 35 #[.int .u64 (e).hi, .int .u64 (e).lo, .int .i64 (e).obj, .int .u8 (e).rt, .int .u32 (e).ow, .int .u64 (e).ph, .int .u64 (e).pl, .int .i64 (e).ord] (0, 0) _ rfl (ret8 HO2.out _ _ _ _ _ _ _ _) Try.underlying35 rfl (by kernel_rfl)) rfl ?_
  refine ⟨rfl, Fr.below (S := fun j => w.heap.size ≤ j) ?_ (fun _ h => h) (Nat.le_refl _)⟩
  refine Fr.then_ (S' := fun j => w.heap.size ≤ j) (Fr.of_new HB.out) ?_ (fun k hk => .inl hk)
  refine Fr.then_ (S' := fun j => j = w.heap.size + 1) (Fr.of_new HNB2.out) ?_ (fun k hk => .inl (by omega))
  exact fr8 _ (w.heap.size + 1) _ _ _ _ _ _ _ _
theorem find_calls (x y who : Int) (w : World) (h : FS w g b n L next) (hx : U64 x) (hy : U64 y) :
    Calls Try.prog 18 #[.pointer (some ⟨g, 0, none⟩), H2 x y, .int .u32 who] w fun e w' => e = .returned (.tuple #[(fnd L x y who).1.v, .int .i64 (fnd L x y who).2]) ∧ Below w.heap.size w w' := by
  cases hr : find L x y with
  | none =>
    rw [fnd_none hr]
    exact find_no x y who w h hx hy hr
  | some e =>
    by_cases hw : e.ow = who
    · rw [fnd_some hr hw]
      exact find_yes x y who w h hx hy e hr hw
    · rw [fnd_other hr hw]
      exact find_not x y who w h hx hy e hr hw
end
end Go.Proofs.Ytojbheiicmcnjaa.Fst
