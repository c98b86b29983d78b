/- forest: Taken, Find. -/
import Derived.Test.YtojbheiicmcnjaaFsC
namespace Go.Proofs.Ytojbheiicmcnjaa.Fst
open Go.RowKit Go Go.Proofs.YtojbheiicmcnjaaW.PrintWords Go.Proofs.YtojbheiicmcnjaaW.PrintMore Go.Proofs.YtojbheiicmcnjaaW.PrintLast Go.Proofs.Ytojbheiicmcnjaa.Bts Go.Proofs.Ytojbheiicmcnjaa.Fra Go.Maps
abbrev EC (e : E) : Obj := (.cells #[.int .u64 (e).hi, .int .u64 (e).lo, .int .i64 (e).obj, .int .u8 (e).rt, .int .u32 (e).ow, .int .u64 (e).ph, .int .u64 (e).pl, .int .i64 (e).ord] 35)
section
variable {L : List E} {next : Int} {g b n : Nat}
theorem ob0 {w : World} (h : FS w g b n L next) : w.cell? ⟨g, 0, none⟩ = some (.map (some b)) := blk_cell h.obj 0
theorem ob1 {w : World} (h : FS w g b n L next) : w.cell? ⟨g, 1, none⟩ = some (.int .i64 next) := blk_cell h.obj 1
set_option maxHeartbeats 1000000 in
theorem taken_calls (x y : Int) (w : World) (h : FS w g b n L next) (hx : U64 x) (hy : U64 y) :
    Calls Try.prog 19 #[.pointer (some ⟨g, 0, none⟩), H2 x y] w fun e w' => e = .returned (.bool (find L x y).isSome) ∧ Below w.heap.size w w' := by
  have hb := below_alloc (Below.refl w.heap.size w) (.cells #[.int .u64 x, .int .u64 y] 30)
  have hk := blk_new w (.cells #[.int .u64 x, .int .u64 y] 30)
  obtain ⟨W1, hW1⟩ : ∃ W1, w.alloc (.cells #[.int .u64 x, .int .u64 y] 30) = W1 := ⟨_, rfl⟩
  rw [hW1] at hb hk
  have hd : Below W1.heap.size W1 W1.drew := below_drew1 (Below.refl _ _)
  obtain ⟨Y, hY0⟩ : ∃ Y, W1.drew = Y := ⟨_, rfl⟩
  have hY : (w.alloc (.cells #[.int .u64 x, .int .u64 y] 30)).drew = Y := by rw [hW1]; exact hY0
  rw [hY0] at hd
  have HF := Lib.hid ((h.below hb).below hd)
  have HK := Lib.hid (blk_below hk hd)
  have HB := Lib.hid (hb.trans (hd.mono hb.size))
  obtain ⟨r, hr⟩ : ∃ r, find L x y = r := ⟨_, rfl⟩
  have hl := fun (W : World) (hW : FS W g b n L next) => (hW.look hx hy).1
  rw [hr] at hl ⊢
  have HL := Lib.hid hl
  obtain ⟨v, hv⟩ : ∃ v, r.getD e0 = v := ⟨_, rfl⟩
  obtain ⟨p, hp⟩ : ∃ p, r.isSome = p := ⟨_, rfl⟩
  rw [hv, hp] at hl
  have HL := Lib.hid hl
  rw [hp]
  clear hb hk hd hW1 hY0 h hl hv hp hr
  go_enter Try.func19, Try.ntmps19
  go_wp2
  refine start_ (n := 12) (S := fun w' => w'.cell? ⟨g, 0, none⟩ = some (.map (some b)) ∧ w'.cell? ⟨w.heap.size, 0, none⟩ = some (.int .u64 x) ∧ w'.cell? ⟨w.heap.size, 1, none⟩ = some (.int .u64 y) ∧ (Instr.lookup 62 (.map (some b)) (H2 x y) true).run Try.prog w' = .ok (.tuple #[v.v, .bool p]) w') (ds := []) #[false, false, false, false, false, false, false, false, false, false, false, false] (by kernel_rfl) rfl rfl ⟨(by rw [hY]; exact ob0 HF.out), (by rw [hY]; exact blk_cell HK.out 0), (by rw [hY]; exact blk_cell HK.out 1), (by rw [hY]; exact HL.out _ HF.out)⟩ (fun hHeld => ?_)
  refine pure_ (i := 0) (N := some 10) (v := ?_) (a' := ?_) #[true, false, false, false, false, false, false, false, false, false, false, false] rfl rfl (by kernel_rfl) (fun _ _ _ h => h) (Or.inl ⟨by rfl, ?_⟩) ?_ ?_
  rotate_left
  · intro w'
    go_simp
    with_reducible rfl
  rotate_left
  · simp only [Act.put, List.setIfInBounds_toArray, List.set_cons_zero, List.set_cons_succ]
    rfl
  refine pure_ (i := 1) (N := some 11) (v := ?_) (a' := ?_) #[true, true, false, false, false, false, false, false, false, false, false, false] rfl rfl (by kernel_rfl) (fun _ _ _ h => h) (Or.inl ⟨by rfl, ?_⟩) ?_ ?_
  rotate_left
  · intro w'
    go_simp
    with_reducible rfl
  rotate_left
  · simp only [Act.put, List.setIfInBounds_toArray, List.set_cons_zero, List.set_cons_succ]
    rfl
  refine pure_ (i := 2) (N := some 12) (v := ?_) (a' := ?_) #[true, true, true, false, false, false, false, false, false, false, false, false] rfl rfl (by kernel_rfl) (fun _ _ _ h => h) (Or.inl ⟨by rfl, ?_⟩) ?_ ?_
  rotate_left
  · intro w'
    go_simp
    with_reducible rfl
  rotate_left
  · simp only [Act.put, List.setIfInBounds_toArray, List.set_cons_zero, List.set_cons_succ]
    rfl
  refine take_ (i := 3) (N := some 13) (v := ?_) (a' := ?_) #[true, true, true, true, false, false, false, false, false, false, false, false] rfl rfl (by kernel_rfl) (fun _ _ _ h => h) (Or.inl ⟨by rfl, ?_⟩) hHeld ?_ ?_
  rotate_left
  · rintro w' ⟨s0, s1, s2, s3⟩
    go_simp
    with_reducible rfl
  rotate_left
  · simp only [Act.put, List.setIfInBounds_toArray, List.set_cons_zero, List.set_cons_succ]
    rfl
  refine take_ (i := 4) (N := some 14) (v := ?_) (a' := ?_) #[true, true, true, true, true, false, false, false, false, false, false, false] rfl rfl (by kernel_rfl) (fun _ _ _ h => h) (Or.inl ⟨by rfl, ?_⟩) hHeld ?_ ?_
  rotate_left
  · rintro w' ⟨s0, s1, s2, s3⟩
    go_simp
    with_reducible rfl
  rotate_left
  · simp only [Act.put, List.setIfInBounds_toArray, List.set_cons_zero, List.set_cons_succ]
    rfl
  refine take_ (i := 5) (N := some 15) (v := ?_) (a' := ?_) #[true, true, true, true, true, true, false, false, false, false, false, false] rfl rfl (by kernel_rfl) (fun _ _ _ h => h) (Or.inl ⟨by rfl, ?_⟩) hHeld ?_ ?_
  rotate_left
  · rintro w' ⟨s0, s1, s2, s3⟩
    go_simp
    with_reducible rfl
  rotate_left
  · simp only [Act.put, List.setIfInBounds_toArray, List.set_cons_zero, List.set_cons_succ]
    rfl
  refine pure_ (i := 6) (N := some 9) (v := ?_) (a' := ?_) #[true, true, true, true, true, true, true, false, false, false, false, false] rfl rfl (by kernel_rfl) (fun _ _ _ h => h) (Or.inl ⟨by rfl, ?_⟩) ?_ ?_
  rotate_left
  · intro w'
    go_simp
    with_reducible rfl
  rotate_left
  · simp only [Act.put, List.setIfInBounds_toArray, List.set_cons_zero, List.set_cons_succ]
    rfl
  refine pure_ (i := 7) (N := some 16) (v := ?_) (a' := ?_) #[true, true, true, true, true, true, true, true, false, false, false, false] rfl rfl (by kernel_rfl) (fun _ _ _ h => h) (Or.inl ⟨by rfl, ?_⟩) ?_ ?_
  rotate_left
  · intro w'
    go_simp
    with_reducible rfl
  rotate_left
  · simp only [Act.put, List.setIfInBounds_toArray, List.set_cons_zero, List.set_cons_succ]
    rfl
  refine pure_ (i := 8) (N := some 17) (v := ?_) (a' := ?_) #[true, true, true, true, true, true, true, true, true, false, false, false] rfl rfl (by kernel_rfl) (fun _ _ _ h => h) (Or.inl ⟨by rfl, ?_⟩) ?_ ?_
  rotate_left
  · intro w'
    go_simp
    with_reducible rfl
  rotate_left
  · simp only [Act.put, List.setIfInBounds_toArray, List.set_cons_zero, List.set_cons_succ]
    rfl
  refine one_ (i := 9) (N := some 5) #[true, true, true, true, true, true, true, true, true, true, false, false] rfl rfl (by kernel_rfl) (by decide) (fun K hK => ?_)
  refine value_ (w1 := ?_) (v := ?_) (by rfl) rfl ?_ ?_
  rotate_left 2
  · go_simp
    constructor
    · rfl
    · rfl
  have hnb := below_alloc (Below.refl Y.heap.size Y) (EC e0)
  have HNB := Lib.hid hnb
  clear hnb
  refine hK.out _ _ ⟨(ob0 (HF.out.below HNB.out)), (blk_cell (blk_below HK.out HNB.out) 0), (blk_cell (blk_below HK.out HNB.out) 1), (HL.out _ (HF.out.below HNB.out))⟩ (fun hHeld => ?_)
  clear hK K
  refine norm_ (a' := ?_) ?_ ?_
  rotate_left
  · show Act.put _ (some 5) _ = _
    simp only [Act.put, List.setIfInBounds_toArray, List.set_cons_zero, List.set_cons_succ]
    rfl
  refine one_ (i := 10) (N := none) #[true, true, true, true, true, true, true, true, true, true, true, false] rfl rfl (by kernel_rfl) (by decide) (fun K hK => ?_)
  refine skip_ (w1 := ?_) (by rfl) rfl ?_ ?_
  rotate_left
  · go_simp
    rfl
  have hnb2 := below_alloc (Below.refl Y.heap.size Y) (EC v)
  have HNB2 := Lib.hid hnb2
  clear hnb2
  refine hK.out _ _ ⟨(ob0 (HF.out.below HNB2.out)), (blk_cell (blk_below HK.out HNB2.out) 0), (blk_cell (blk_below HK.out HNB2.out) 1), (HL.out _ (HF.out.below HNB2.out))⟩ (fun hHeld => ?_)
  clear hK K
  refine pure_ (i := 11) (N := some 6) (v := ?_) (a' := ?_) #[true, true, true, true, true, true, true, true, true, true, true, true] rfl rfl (by kernel_rfl) (fun _ _ _ h => h) (Or.inl ⟨by rfl, ?_⟩) ?_ ?_
  rotate_left
  · intro w'
    go_simp
    with_reducible rfl
  rotate_left
  · simp only [Act.put, List.setIfInBounds_toArray, List.set_cons_zero, List.set_cons_succ]
    rfl
  refine done_ (by kernel_rfl) ?_

  go_wp2
  go_ret
  exact ⟨rfl, HB.out.trans (HNB2.out.mono HB.out.size)⟩
end
end Go.Proofs.Ytojbheiicmcnjaa.Fst
