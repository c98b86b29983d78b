/- forest: Root. -/
import Derived.Test.YtojbheiicmcnjaaFsH
namespace Go.Proofs.Ytojbheiicmcnjaa.Fst
open Go.RowKit Go Go.Proofs.YtojbheiicmcnjaaW.PrintWords Go.Proofs.YtojbheiicmcnjaaW.PrintMore Go.Proofs.YtojbheiicmcnjaaW.PrintLast Go.Proofs.Ytojbheiicmcnjaa.Bts Go.Proofs.Ytojbheiicmcnjaa.Fra Go.Maps
section
variable {L : List E} {next : Int} {g b n : Nat}
theorem own_fr {S : Nat → Prop} {w w' : World} {D : DM} (hm : w.ownsMap Try.prog 30 entElem b n D) (hf : Fr S w w') (hb : ¬ S b) : w'.ownsMap Try.prog 30 entElem b n D := by
  have hlt := hm.lt
  obtain ⟨es, c, hb', hrest⟩ := hm
  exact ⟨es, c, (hf.block b hlt hb).trans hb', hrest⟩
theorem taken_is (x y : Int) (p : Bool) (w : World) (h : FS w g b n L next) (hx : U64 x) (hy : U64 y) (hp : (find L x y).isSome = p) :
    Calls Try.prog 19 #[.pointer (some ⟨g, 0, none⟩), H2 x y] w fun e w' => e = .returned (.bool p) ∧ Below w.heap.size w w' := by
  rw [← hp]
  exact taken_calls x y w h hx hy
set_option maxHeartbeats 1000000 in
theorem root_zero (y ob rt ow ph pl od : Int) (w : World) (h : FS w g b n L next) (hy : U64 y) (hz : y = 0) :
    Calls Try.prog 8 #[.pointer (some ⟨g, 0, none⟩), .agg #[.int .u64 0, .int .u64 y, .int .i64 ob, .int .u8 rt, .int .u32 ow, .int .u64 ph, .int .u64 pl, .int .i64 od]] w fun e w' => e = .returned (.int .i64 1) ∧ Below w.heap.size w w' := by
  have hb := below_alloc (Below.refl w.heap.size w) (.cells #[.int .u64 0, .int .u64 y, .int .i64 ob, .int .u8 rt, .int .u32 ow, .int .u64 ph, .int .u64 pl, .int .i64 od] 35)
  have hk := blk_new w (.cells #[.int .u64 0, .int .u64 y, .int .i64 ob, .int .u8 rt, .int .u32 ow, .int .u64 ph, .int .u64 pl, .int .i64 od] 35)
  have HF := Lib.hid (h.below hb)
  have HK := Lib.hid hk
  have HB := Lib.hid hb
  have k0 := blk_cell hk 0
  have k1 := blk_cell hk 1
  have k3 := blk_cell hk 3
  have HX := Lib.hid (And.intro (show U64 0 from ⟨by omega, by omega⟩) hy)
  clear hb hk h hy
  subst hz
  go_enter Try.func8, Try.ntmps8
  go_wp2
  go_ret
  exact ⟨rfl, HB.out⟩
set_option maxHeartbeats 1000000 in
theorem root_taken (y ob rt ow ph pl od : Int) (w : World) (h : FS w g b n L next) (hy : U64 y) (hz : ¬ y = 0) (ht : (find L 0 y).isSome = true) :
    Calls Try.prog 8 #[.pointer (some ⟨g, 0, none⟩), .agg #[.int .u64 0, .int .u64 y, .int .i64 ob, .int .u8 rt, .int .u32 ow, .int .u64 ph, .int .u64 pl, .int .i64 od]] w fun e w' => e = .returned (.int .i64 1) ∧ Below w.heap.size w w' := by
  have hb := below_alloc (Below.refl w.heap.size w) (.cells #[.int .u64 0, .int .u64 y, .int .i64 ob, .int .u8 rt, .int .u32 ow, .int .u64 ph, .int .u64 pl, .int .i64 od] 35)
  have hk := blk_new w (.cells #[.int .u64 0, .int .u64 y, .int .i64 ob, .int .u8 rt, .int .u32 ow, .int .u64 ph, .int .u64 pl, .int .i64 od] 35)
  have HF := Lib.hid (h.below hb)
  have HK := Lib.hid hk
  have HB := Lib.hid hb
  have k0 := blk_cell hk 0
  have k1 := blk_cell hk 1
  have k3 := blk_cell hk 3
  have HX := Lib.hid (And.intro (show U64 0 from ⟨by omega, by omega⟩) hy)
  clear hb hk h hy
  have hz1 : (y == 0) = false := by simpa using hz
  have HT := Lib.hid ht
  clear ht
  go_enter Try.func8, Try.ntmps8
  go_wp2_with (go_at_call 19; go_loud (refine (taken_is 0 y _ _ HF.out HX.out.1 HX.out.2 HT.out).mono ?_; rintro e w2 ⟨rfl, hb2⟩; have HB2 := Lib.hid (HB.out.trans (hb2.mono HB.out.size)); have HF2 := Lib.hid (HF.out.below hb2); have hk2 := blk_below HK.out hb2; have HK2 := Lib.hid hk2; have m0 := blk_cell hk2 0; have m1 := blk_cell hk2 1; have m2 := blk_cell hk2 2; have m3 := blk_cell hk2 3; have m4 := blk_cell hk2 4; have m5 := blk_cell hk2 5; have m6 := blk_cell hk2 6; have m7 := blk_cell hk2 7; clear hb2 hk2 k0 k1 k3))
  go_ret
  exact ⟨rfl, HB2.out⟩
set_option maxHeartbeats 1000000 in
theorem root_rights (y ob rt ow ph pl od : Int) (w : World) (h : FS w g b n L next) (hy : U64 y) (hz : ¬ y = 0) (ht : (find L 0 y).isSome = false) (hr : rightU rt = false) :
    Calls Try.prog 8 #[.pointer (some ⟨g, 0, none⟩), .agg #[.int .u64 0, .int .u64 y, .int .i64 ob, .int .u8 rt, .int .u32 ow, .int .u64 ph, .int .u64 pl, .int .i64 od]] w fun e w' => e = .returned (.int .i64 1) ∧ Below w.heap.size w w' := by
  have hb := below_alloc (Below.refl w.heap.size w) (.cells #[.int .u64 0, .int .u64 y, .int .i64 ob, .int .u8 rt, .int .u32 ow, .int .u64 ph, .int .u64 pl, .int .i64 od] 35)
  have hk := blk_new w (.cells #[.int .u64 0, .int .u64 y, .int .i64 ob, .int .u8 rt, .int .u32 ow, .int .u64 ph, .int .u64 pl, .int .i64 od] 35)
  have HF := Lib.hid (h.below hb)
  have HK := Lib.hid hk
  have HB := Lib.hid hb
  have k0 := blk_cell hk 0
  have k1 := blk_cell hk 1
  have k3 := blk_cell hk 3
  have HX := Lib.hid (And.intro (show U64 0 from ⟨by omega, by omega⟩) hy)
  clear hb hk h hy
  have hz1 : (y == 0) = false := by simpa using hz
  have HT := Lib.hid ht
  have HRT := Lib.hid hr
  clear ht hr
  go_enter Try.func8, Try.ntmps8
  go_wp2_with (first
    | (go_at_call 26; go_loud (refine (right_is rt _ HRT.out _).mono ?_; rintro e w3 ⟨rfl, hw3⟩; subst hw3))
    | (go_at_call 19; go_loud (refine (taken_is 0 y _ _ HF.out HX.out.1 HX.out.2 HT.out).mono ?_; rintro e w2 ⟨rfl, hb2⟩; have HB2 := Lib.hid (HB.out.trans (hb2.mono HB.out.size)); have HF2 := Lib.hid (HF.out.below hb2); have hk2 := blk_below HK.out hb2; have HK2 := Lib.hid hk2; have m0 := blk_cell hk2 0; have m1 := blk_cell hk2 1; have m2 := blk_cell hk2 2; have m3 := blk_cell hk2 3; have m4 := blk_cell hk2 4; have m5 := blk_cell hk2 5; have m6 := blk_cell hk2 6; have m7 := blk_cell hk2 7; clear hb2 hk2 k0 k1 k3)))
  go_ret
  exact ⟨rfl, HB2.out⟩
set_option maxHeartbeats 4000000 in
theorem root_ok (y ob rt ow ph pl od : Int) (w : World) (h : FS w g b n L next) (hy : U64 y) (hz : ¬ y = 0) (ht : find L 0 y = none) (hr : rightU rt = true) (hnx : next ≤ 1000000) (hn : n ≤ 1000000) :
    Calls Try.prog 8 #[.pointer (some ⟨g, 0, none⟩), .agg #[.int .u64 0, .int .u64 y, .int .i64 ob, .int .u8 rt, .int .u32 ow, .int .u64 ph, .int .u64 pl, .int .i64 od]] w fun e w' => e = .returned (.int .i64 0) ∧ FS w' g b (n + 1) (L ++ [⟨0, y, ob, rt, ow, 0, 0, next⟩]) (next + 1) ∧ Fl g b w w' := by
  have hn0 := h.n0
  have hne := h.ne
  have hlt := h.lt
  have hb := below_alloc (Below.refl w.heap.size w) (.cells #[.int .u64 0, .int .u64 y, .int .i64 ob, .int .u8 rt, .int .u32 ow, .int .u64 ph, .int .u64 pl, .int .i64 od] 35)
  have hk := blk_new w (.cells #[.int .u64 0, .int .u64 y, .int .i64 ob, .int .u8 rt, .int .u32 ow, .int .u64 ph, .int .u64 pl, .int .i64 od] 35)
  have HF := Lib.hid (h.below hb)
  have HK := Lib.hid hk
  have HB := Lib.hid hb
  have k0 := blk_cell hk 0
  have k1 := blk_cell hk 1
  have k3 := blk_cell hk 3
  have HX := Lib.hid (And.intro (show U64 0 from ⟨by omega, by omega⟩) hy)
  clear hb hk h hy
  have hz1 : (y == 0) = false := by simpa using hz
  have HT := Lib.hid (show (find L 0 y).isSome = false by rw [ht]; rfl)
  have HFN := Lib.hid ht
  have HRT := Lib.hid hr
  have hwn : wrap64 (next + 1) = next + 1 := by unfold wrap64; omega
  have HNN := Lib.hid hn0
  clear ht hr
  go_enter Try.func8, Try.ntmps8
  go_wp2_with (first
    | (go_at_call 26; go_loud (refine (right_is rt _ HRT.out _).mono ?_; rintro e w3 ⟨rfl, hw3⟩; subst hw3))
    | (go_at_call 19; go_loud (refine (taken_is 0 y _ _ HF.out HX.out.1 HX.out.2 HT.out).mono ?_; rintro e w2 ⟨rfl, hb2⟩; have HB2 := Lib.hid (HB.out.trans (hb2.mono HB.out.size)); have HF2 := Lib.hid (HF.out.below hb2); have hk2 := blk_below HK.out hb2; have HK2 := Lib.hid hk2; have m0 := blk_cell hk2 0; have m1 := blk_cell hk2 1; have m2 := blk_cell hk2 2; have m3 := blk_cell hk2 3; have m4 := blk_cell hk2 4; have m5 := blk_cell hk2 5; have m6 := blk_cell hk2 6; have m7 := blk_cell hk2 7; clear hb2 hk2 k0 k1 k3)))
  have hd : Below w2.heap.size w2 w2.drew := below_drew1 (Below.refl _ _)
  obtain ⟨Y, hY⟩ : ∃ Y, w2.drew = Y := ⟨_, rfl⟩
  rw [hY] at hd
  have HFY := Lib.hid (HF2.out.below hd)
  have HKY := Lib.hid (blk_below HK2.out hd)
  have HBY := Lib.hid (HB2.out.trans (hd.mono HB2.out.size))
  have y5 := blk_cell HKY.out 5
  have y6 := blk_cell HKY.out 6
  have y7 := blk_cell HKY.out 7
  have q5 := blk_frozen HKY.out 5
  have q6 := blk_frozen HKY.out 6
  have q7 := blk_frozen HKY.out 7
  clear hd m0 m1 m2 m3 m4 m5 m6 m7
  have hs0 := HBY.out.size
  have hf1 : Fr (· = w.heap.size) Y ((Y.setCell ⟨w.heap.size, 5, none⟩ (.int .u64 0)).setCell ⟨w.heap.size, 6, none⟩ (.int .u64 0)) := Fr.put (S := fun k => k = w.heap.size) (Fr.put (S := fun k => k = w.heap.size) (Fr.refl (fun k => k = w.heap.size) Y) (p := ⟨w.heap.size, 5, none⟩) (.inl rfl) _) (p := ⟨w.heap.size, 6, none⟩) (.inl rfl) _
  have hf2 : Fr (· = w.heap.size) Y (((Y.setCell ⟨w.heap.size, 5, none⟩ (.int .u64 0)).setCell ⟨w.heap.size, 6, none⟩ (.int .u64 0)).setCell ⟨w.heap.size, 7, none⟩ (.int .i64 next)) := Fr.put (S := fun k => k = w.heap.size) hf1 (p := ⟨w.heap.size, 7, none⟩) (.inl rfl) _
  have hzb : (((Y.setCell ⟨w.heap.size, 5, none⟩ (.int .u64 0)).setCell ⟨w.heap.size, 6, none⟩ (.int .u64 0)).setCell ⟨w.heap.size, 7, none⟩ (.int .i64 next)).heap[w.heap.size]? = some (.cells #[.int .u64 0, .int .u64 y, .int .i64 ob, .int .u8 rt, .int .u32 ow, .int .u64 0, .int .u64 0, .int .i64 next] 35 (0, 0)) := blk_put (blk_put (blk_put HKY.out 5 (.int .u64 0) rfl) 6 (.int .u64 0) rfl) 7 (.int .i64 next) rfl
  have HF1 := Lib.hid hf1
  obtain ⟨Z, hZ⟩ : ∃ Z, (((Y.setCell ⟨w.heap.size, 5, none⟩ (.int .u64 0)).setCell ⟨w.heap.size, 6, none⟩ (.int .u64 0)).setCell ⟨w.heap.size, 7, none⟩ (.int .i64 next)) = Z := ⟨_, rfl⟩
  rw [hZ] at hf2 hzb
  have HZ := Lib.hid hZ
  have HFZ := Lib.hid (HFY.out.fr hf2 (fun e => by omega) (fun e => by omega))
  have HF2' := Lib.hid hf2
  have HZB := Lib.hid hzb
  clear hf1 hf2 hzb hZ
  refine start_ (n := 9) (S := fun w' => w'.cell? ⟨g, 1, none⟩ = some (.int .i64 next)) (ds := []) #[false, false, false, false, false, false, false, false, false] (by kernel_rfl) rfl rfl ((by rw [hY]; exact ob1 HFY.out)) (fun hHeld => ?_)
  refine pure_ (i := 0) (N := some 25) (v := ?_) (a' := ?_) #[true, false, false, false, false, false, false, false, false] rfl rfl (by kernel_rfl) (fun _ _ _ h => h) (Or.inl ⟨by rfl, ?_⟩) ?_ ?_
  rotate_left
  · intro w'
    go_simp
    with_reducible rfl
  rotate_left
  · simp only [Act.put, List.setIfInBounds_toArray, List.set_cons_zero, List.set_cons_succ]
    rfl
  refine pure_ (i := 1) (N := some 26) (v := ?_) (a' := ?_) #[true, true, false, false, false, false, false, false, false] rfl rfl (by kernel_rfl) (fun _ _ _ h => h) (Or.inl ⟨by rfl, ?_⟩) ?_ ?_
  rotate_left
  · intro w'
    go_simp
    with_reducible rfl
  rotate_left
  · simp only [Act.put, List.setIfInBounds_toArray, List.set_cons_zero, List.set_cons_succ]
    rfl
  refine pure_ (i := 2) (N := some 27) (v := ?_) (a' := ?_) #[true, true, true, false, false, false, false, false, false] rfl rfl (by kernel_rfl) (fun _ _ _ h => h) (Or.inl ⟨by rfl, ?_⟩) ?_ ?_
  rotate_left
  · intro w'
    go_simp
    with_reducible rfl
  rotate_left
  · simp only [Act.put, List.setIfInBounds_toArray, List.set_cons_zero, List.set_cons_succ]
    rfl
  refine pure_ (i := 3) (N := some 28) (v := ?_) (a' := ?_) #[true, true, true, true, false, false, false, false, false] rfl rfl (by kernel_rfl) (fun _ _ _ h => h) (Or.inl ⟨by rfl, ?_⟩) ?_ ?_
  rotate_left
  · intro w'
    go_simp
    with_reducible rfl
  rotate_left
  · simp only [Act.put, List.setIfInBounds_toArray, List.set_cons_zero, List.set_cons_succ]
    rfl
  refine pure_ (i := 5) (N := some 30) (v := ?_) (a' := ?_) #[true, true, true, true, false, true, false, false, false] rfl rfl (by kernel_rfl) (fun _ _ _ h => h) (Or.inl ⟨by rfl, ?_⟩) ?_ ?_
  rotate_left
  · intro w'
    go_simp
    with_reducible rfl
  rotate_left
  · simp only [Act.put, List.setIfInBounds_toArray, List.set_cons_zero, List.set_cons_succ]
    rfl
  refine take_ (i := 4) (N := some 29) (v := ?_) (a' := ?_) #[true, true, true, true, true, true, false, false, false] rfl rfl (by kernel_rfl) (fun _ _ _ h => h) (Or.inl ⟨by rfl, ?_⟩) hHeld ?_ ?_
  rotate_left
  · intro w' s0
    go_simp
    with_reducible rfl
  rotate_left
  · simp only [Act.put, List.setIfInBounds_toArray, List.set_cons_zero, List.set_cons_succ]
    rfl
  refine one_ (i := 6) (N := none) #[true, true, true, true, true, true, true, false, false] rfl rfl (by kernel_rfl) (by decide) (fun K hK => ?_)
  refine skip_ (w1 := ?_) (by rfl) rfl ?_ ?_
  rotate_left
  · go_simp
    rfl
  refine hK.out _ _ ((blk_cell (HF1.out.blk HFY.out.obj (fun e => by omega)) 1)) (fun hHeld => ?_)
  clear hK K
  refine pure_ (i := 7) (N := some 31) (v := ?_) (a' := ?_) #[true, true, true, true, true, true, true, true, false] rfl rfl (by kernel_rfl) (fun _ _ _ h => h) (Or.inl ⟨by rfl, ?_⟩) ?_ ?_
  rotate_left
  · intro w'
    go_simp
    with_reducible rfl
  rotate_left
  · simp only [Act.put, List.setIfInBounds_toArray, List.set_cons_zero, List.set_cons_succ]
    rfl
  refine one_ (i := 8) (N := none) #[true, true, true, true, true, true, true, true, true] rfl rfl (by kernel_rfl) (by decide) (fun K hK => ?_)
  refine skip_ (w1 := ?_) (by rfl) rfl ?_ ?_
  rotate_left
  · go_simp
    rfl
  refine hK.out _ _ ((by rw [HZ.out]; exact ob1 HFZ.out)) (fun hHeld => ?_)
  clear hK K
  refine done_ (by kernel_rfl) ?_

  rw [HZ.out]
  have o0 := ob0 HFZ.out
  have o1 := ob1 HFZ.out
  have f0 := blk_frozen HFZ.out.obj 0
  have f1 := blk_frozen HFZ.out.obj 1
  clear y5 y6 y7 q5 q6 q7
  obtain ⟨X, hX⟩ : ∃ X, (Z.setCell ⟨g, 1, none⟩ (.int .i64 (next + 1))).drew = X := ⟨_, rfl⟩
  have hfX : Fr (· = g) Z X := by rw [← hX]; exact (Fr.set g 1 _).more (below_drew1 (Below.refl _ _))
  have hoX : Ob X g b (next + 1) := by rw [← hX]; exact blk_drew (blk_put HFZ.out.obj 1 (.int .i64 (next + 1)) rfl)
  have hkX := hfX.blk HZB.out (fun e => by omega)
  obtain ⟨D, hm, hR⟩ := HFZ.out.map
  have hmX := own_fr hm hfX hne
  obtain ⟨w9, hrun, hm9, hg9⟩ := hmX.update law Try.underlying62 (Nat.lt_of_le_of_lt hn (by unfold maxLen; decide)) (kl_of HX.out.1.wf HX.out.2.wf) (entElem_v ⟨0, y, ob, rt, ow, 0, 0, next⟩)
  have HFX := Lib.hid hfX
  have HOX := Lib.hid hoX
  have HKX := Lib.hid hkX
  have HM9 := Lib.hid hm9
  have HG9 := Lib.hid (fr_of_grown hg9)
  have HIM := Lib.hid hm.isMap
  have HRR := Lib.hid hR
  clear hfX hoX hkX hm hR hmX hm9 hg9
  go_wp2
  refine start_ (n := 8) (S := fun w' => w'.cell? ⟨g, 0, none⟩ = some (.map (some b)) ∧ w'.cell? ⟨w.heap.size, 0, none⟩ = some (.int .u64 0) ∧ w'.cell? ⟨w.heap.size, 1, none⟩ = some (.int .u64 y) ∧ w'.cell? ⟨w.heap.size, 2, none⟩ = some (.int .i64 ob) ∧ w'.cell? ⟨w.heap.size, 3, none⟩ = some (.int .u8 rt) ∧ w'.cell? ⟨w.heap.size, 4, none⟩ = some (.int .u32 ow) ∧ w'.cell? ⟨w.heap.size, 5, none⟩ = some (.int .u64 0) ∧ w'.cell? ⟨w.heap.size, 6, none⟩ = some (.int .u64 0) ∧ w'.cell? ⟨w.heap.size, 7, none⟩ = some (.int .i64 next)) (ds := [7]) #[false, false, false, false, false, false, false, false] (by kernel_rfl) rfl rfl ⟨(by rw [hX]; exact blk_cell HOX.out 0), (by rw [hX]; exact blk_cell HKX.out 0), (by rw [hX]; exact blk_cell HKX.out 1), (by rw [hX]; exact blk_cell HKX.out 2), (by rw [hX]; exact blk_cell HKX.out 3), (by rw [hX]; exact blk_cell HKX.out 4), (by rw [hX]; exact blk_cell HKX.out 5), (by rw [hX]; exact blk_cell HKX.out 6), (by rw [hX]; exact blk_cell HKX.out 7)⟩ (fun hHeld => ?_)
  refine pure_ (i := 0) (N := some 39) (v := ?_) (a' := ?_) #[true, false, false, false, false, false, false, false] rfl rfl (by kernel_rfl) (fun _ _ _ h => h) (Or.inl ⟨by rfl, ?_⟩) ?_ ?_
  rotate_left
  · intro w'
    go_simp
    with_reducible rfl
  rotate_left
  · simp only [Act.put, List.setIfInBounds_toArray, List.set_cons_zero, List.set_cons_succ]
    rfl
  refine pure_ (i := 1) (N := some 40) (v := ?_) (a' := ?_) #[true, true, false, false, false, false, false, false] rfl rfl (by kernel_rfl) (fun _ _ _ h => h) (Or.inl ⟨by rfl, ?_⟩) ?_ ?_
  rotate_left
  · intro w'
    go_simp
    with_reducible rfl
  rotate_left
  · simp only [Act.put, List.setIfInBounds_toArray, List.set_cons_zero, List.set_cons_succ]
    rfl
  refine pure_ (i := 2) (N := some 41) (v := ?_) (a' := ?_) #[true, true, true, false, false, false, false, false] rfl rfl (by kernel_rfl) (fun _ _ _ h => h) (Or.inl ⟨by rfl, ?_⟩) ?_ ?_
  rotate_left
  · intro w'
    go_simp
    with_reducible rfl
  rotate_left
  · simp only [Act.put, List.setIfInBounds_toArray, List.set_cons_zero, List.set_cons_succ]
    rfl
  refine pure_ (i := 4) (N := some 43) (v := ?_) (a' := ?_) #[true, true, true, false, true, false, false, false] rfl rfl (by kernel_rfl) (fun _ _ _ h => h) (Or.inl ⟨by rfl, ?_⟩) ?_ ?_
  rotate_left
  · intro w'
    go_simp
    with_reducible rfl
  rotate_left
  · simp only [Act.put, List.setIfInBounds_toArray, List.set_cons_zero, List.set_cons_succ]
    rfl
  refine take_ (i := 3) (N := some 42) (v := ?_) (a' := ?_) #[true, true, true, true, true, false, false, false] rfl rfl (by kernel_rfl) (fun _ _ _ h => h) (Or.inl ⟨by rfl, ?_⟩) hHeld ?_ ?_
  rotate_left
  · rintro w' ⟨s0, s1, s2, s3, s4, s5, s6, s7, s8⟩
    go_simp
    with_reducible rfl
  rotate_left
  · simp only [Act.put, List.setIfInBounds_toArray, List.set_cons_zero, List.set_cons_succ]
    rfl
  refine take_ (i := 5) (N := some 44) (v := ?_) (a' := ?_) #[true, true, true, true, true, true, false, false] rfl rfl (by kernel_rfl) (fun _ _ _ h => h) (Or.inl ⟨by rfl, ?_⟩) hHeld ?_ ?_
  rotate_left
  · rintro w' ⟨s0, s1, s2, s3, s4, s5, s6, s7, s8⟩
    go_simp
    with_reducible rfl
  rotate_left
  · simp only [Act.put, List.setIfInBounds_toArray, List.set_cons_zero, List.set_cons_succ]
    rfl
  refine take_ (i := 6) (N := some 45) (v := ?_) (a' := ?_) #[true, true, true, true, true, true, true, false] rfl rfl (by kernel_rfl) (fun _ _ _ h => h) (Or.inl ⟨by rfl, ?_⟩) hHeld ?_ ?_
  rotate_left
  · rintro w' ⟨s0, s1, s2, s3, s4, s5, s6, s7, s8⟩
    go_simp
    with_reducible rfl
  rotate_left
  · simp only [Act.put, List.setIfInBounds_toArray, List.set_cons_zero, List.set_cons_succ]
    rfl
  refine last_ (i := 7) (N := none) #[true, true, true, true, true, true, true, true] rfl rfl (by kernel_rfl) (by decide) (fun K hK => ?_)
  refine skip_ (w1 := ?_) (by rfl) rfl ?_ ?_
  rotate_left
  · go_simp
    rfl
  refine hK.out _ _ ?_
  clear hK K
  refine done_ (by kernel_rfl) ?_

  go_wp2
  go_ret
  have hwf : E.wf ⟨0, y, ob, rt, ow, 0, 0, next⟩ := ⟨HX.out.1.1, HX.out.1.2, HX.out.2.1, HX.out.2.2, HX.out.1.1, HX.out.1.2, HX.out.1.1, HX.out.1.2⟩
  have hadd := HRR.out.add (e := ⟨0, y, ob, rt, ow, 0, 0, next⟩) HIM.out hwf HFN.out rfl HNN.out
  have hk : E.k ⟨0, y, ob, rt, ow, 0, 0, next⟩ = kl 0 y := rfl
  rw [hk] at hadd
  refine ⟨rfl, ⟨HG9.out.blk HOX.out (fun e => hne e.symm), ⟨_, HM9.out, hadd⟩, by have := HNN.out; omega⟩, ?_⟩
  refine Fr.then_ (S' := fun j => j = g ∨ j = b ∨ j = w.heap.size) (Fr.of_new HBY.out) ?_ (fun j hj => by omega)
  refine Fr.then_ (S' := fun j => j = g ∨ j = b) (HF2'.out.mono (fun j hj => .inl (.inr (.inr hj)))) ?_ (fun j hj => .inl (by omega))
  exact Fr.then_ (S' := (· = b)) (HFX.out.mono (fun j hj => .inl (.inl hj))) HG9.out (fun j hj => .inl (.inr hj))
end
end Go.Proofs.Ytojbheiicmcnjaa.Fst
