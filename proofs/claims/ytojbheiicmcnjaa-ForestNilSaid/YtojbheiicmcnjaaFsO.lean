/- forest: no forest; ForestNil. -/
import Derived.Test.YtojbheiicmcnjaaFsN
namespace Go.Proofs.Ytojbheiicmcnjaa.Fst
open Go.RowKit Go Go.Proofs.YtojbheiicmcnjaaW.PrintWords Go.Proofs.YtojbheiicmcnjaaW.PrintMore Go.Proofs.YtojbheiicmcnjaaW.PrintLast Go.Proofs.Ytojbheiicmcnjaa.Bts Go.Proofs.Ytojbheiicmcnjaa.Fra Go.Maps
theorem first_of {w : World} {g : Nat} {t : TypeId} {cs : Array Value} (h : w.heap[g]? = some (.cells cs t (0, 0))) : w.heap[g]? = some (.cells cs t (0, 0)) := h
open Go.Shelf in
theorem sort_nil (fv : Value) (w : World) : Calls Try.prog 27 #[.slice none 0 0, fv] w fun e w' => e = .returned (.tuple #[]) ∧ w' = w := AnyF.slices_SortFunc_none Try.sortE none 0 fv w
set_option maxHeartbeats 1000000 in
theorem taken_nil (x y : Int) (w : World) : Calls Try.prog 19 #[.pointer none, H2 x y] w fun e w' => e = .returned (.bool false) ∧ Below w.heap.size w w' := by
  go_enter Try.func19, Try.ntmps19
  go_wp2
  go_ret
  exact ⟨rfl, below_alloc (Below.refl _ _) _⟩
set_option maxHeartbeats 1000000 in
theorem find_nil (x y who : Int) (w : World) : Calls Try.prog 18 #[.pointer none, H2 x y, .int .u32 who] w fun e w' => e = .returned (.tuple #[.agg #[.int .u64 0, .int .u64 0, .int .i64 0, .int .u8 0, .int .u32 0, .int .u64 0, .int .u64 0, .int .i64 0], .int .i64 7]) ∧ Below w.heap.size w w' := by
  have hb := below_alloc (below_alloc (Below.refl w.heap.size w) (.cells #[.int .u64 x, .int .u64 y] 30)) (.cells #[.int .u64 0, .int .u64 0, .int .i64 0, .int .u8 0, .int .u32 0, .int .u64 0, .int .u64 0, .int .i64 0] 35)
  have ho := new1 w (.cells #[.int .u64 x, .int .u64 y] 30) (.cells #[.int .u64 0, .int .u64 0, .int .i64 0, .int .u8 0, .int .u32 0, .int .u64 0, .int .u64 0, .int .i64 0] 35)
  have HB := Lib.hid hb
  have HO := Lib.hid ho
  have o0 := blk_cell ho 0
  have o1 := blk_cell ho 1
  have o2 := blk_cell ho 2
  have o3 := blk_cell ho 3
  have o4 := blk_cell ho 4
  have o5 := blk_cell ho 5
  have o6 := blk_cell ho 6
  have o7 := blk_cell ho 7
  have z0 := blk_frozen ho 0
  have z1 := blk_frozen ho 1
  have z2 := blk_frozen ho 2
  have z3 := blk_frozen ho 3
  have z4 := blk_frozen ho 4
  have z5 := blk_frozen ho 5
  have z6 := blk_frozen ho 6
  have z7 := blk_frozen ho 7
  clear hb ho
  go_enter Try.func18, Try.ntmps18
  go_wp2
  refine bodyPost_ret (results_ct rfl _ _ (w.heap.size + 1) 35 #[.int .u64 0, .int .u64 0, .int .i64 0, .int .u8 0, .int .u32 0, .int .u64 0, .int .u64 0, .int .i64 0] (0, 0) _ rfl (first_of HO.out) Try.underlying35 rfl (by kernel_rfl)) rfl ?_
  exact ⟨rfl, HB.out⟩
set_option maxHeartbeats 1000000 in
theorem root_nil (x y ob rt ow ph pl od : Int) (w : World) : Calls Try.prog 8 #[.pointer none, .agg #[.int .u64 x, .int .u64 y, .int .i64 ob, .int .u8 rt, .int .u32 ow, .int .u64 ph, .int .u64 pl, .int .i64 od]] w fun e w' => e = .returned (.int .i64 1) ∧ Below w.heap.size w w' := by
  go_enter Try.func8, Try.ntmps8
  go_wp2
  go_ret
  exact ⟨rfl, below_alloc (Below.refl _ _) _⟩
set_option maxHeartbeats 1000000 in
theorem del_nil (x y who x2 y2 too want : Int) (w : World) : Calls Try.prog 12 #[.pointer none, H2 x y, .int .u32 who, H2 x2 y2, .int .u32 too, .int .u8 want] w fun e w' => e = .returned (.int .i64 7) ∧ Below w.heap.size w w' := by
  have hb := below_alloc (below_alloc (Below.refl w.heap.size w) (.cells #[.int .u64 x, .int .u64 y] 30)) (.cells #[.int .u64 x2, .int .u64 y2] 30)
  have hk := blk_alloc (blk_new w (.cells #[.int .u64 x, .int .u64 y] 30)) (.cells #[.int .u64 x2, .int .u64 y2] 30)
  have k0 := blk_cell hk 0
  have k1 := blk_cell hk 1
  have HB := Lib.hid hb
  clear hb hk
  go_enter Try.func12, Try.ntmps12
  go_wp2_with (go_at_call 18; go_loud (refine (find_nil x y who _).mono ?_; rintro e w2 ⟨rfl, hb2⟩; have HB2 := Lib.hid (HB.out.trans (hb2.mono HB.out.size)); clear hb2))
  go_ret
  exact ⟨rfl, below_alloc HB2.out _⟩
set_option maxHeartbeats 1000000 in
theorem list_nil (fv : Value) (w : World) : Calls Try.prog 10 #[.pointer none, fv] w fun e w' => e = .returned (.slice none 0 0) ∧ Below w.heap.size w w' := by
  go_enter Try.func10, Try.ntmps10
  go_wp2
  go_ret
  exact ⟨rfl, Below.refl _ _⟩
set_option maxHeartbeats 1000000 in
theorem revoke_nil (x y : Int) (w : World) : Calls Try.prog 17 #[.pointer none, H2 x y] w fun e w' => e = .returned (.slice none 0 0) ∧ Below w.heap.size w w' := by
  have hb := below_alloc (Below.refl w.heap.size w) (.cells #[.int .u64 x, .int .u64 y] 30)
  have hk := blk_new w (.cells #[.int .u64 x, .int .u64 y] 30)
  have k0 := blk_cell hk 0
  have k1 := blk_cell hk 1
  have HB := Lib.hid hb
  clear hb hk
  go_enter Try.func17, Try.ntmps17
  go_wp2_with (go_at_call 19; go_loud (refine (taken_nil x y _).mono ?_; rintro e w2 ⟨rfl, hb2⟩; have HB2 := Lib.hid (HB.out.trans (hb2.mono HB.out.size)); clear hb2))
  go_ret
  exact ⟨rfl, HB2.out⟩
set_option maxHeartbeats 1000000 in
theorem count_nil (x : Int) (w : World) : Calls Try.prog 16 #[.pointer none, .int .i64 x] w fun e w' => e = .returned (.int .i64 0) ∧ Below w.heap.size w w' := by
  have HB := Lib.hid (below_alloc (Below.refl w.heap.size w) (.cells #[.int .i64 x] 3))
  go_enter Try.func16, Try.ntmps16
  go_wp2_with (go_at_call 10; go_loud (refine (list_nil _ _).mono ?_; rintro e w2 ⟨rfl, hb2⟩; have HB2 := Lib.hid (HB.out.trans (hb2.mono HB.out.size)); clear hb2))
  go_ret
  exact ⟨rfl, HB2.out⟩
set_option maxHeartbeats 1000000 in
theorem held_nil (x : Int) (w : World) : Calls Try.prog 22 #[.pointer none, .int .u32 x] w fun e w' => e = .returned (.int .i64 0) ∧ Below w.heap.size w w' := by
  have HB := Lib.hid (below_alloc (Below.refl w.heap.size w) (.cells #[.int .u32 x] 33))
  go_enter Try.func22, Try.ntmps22
  go_wp2_with (go_at_call 10; go_loud (refine (list_nil _ _).mono ?_; rintro e w2 ⟨rfl, hb2⟩; have HB2 := Lib.hid (HB.out.trans (hb2.mono HB.out.size)); clear hb2))
  go_ret
  exact ⟨rfl, HB2.out⟩
set_option maxHeartbeats 1000000 in
theorem leave_nil (x : Int) (w : World) : Calls Try.prog 21 #[.pointer none, .int .u32 x] w fun e w' => e = .returned (.slice none 0 0) ∧ Below w.heap.size w w' := by
  have HB := Lib.hid (below_alloc (Below.refl w.heap.size w) (.cells #[.int .u32 x] 33))
  go_enter Try.func21, Try.ntmps21
  go_wp2_with (go_at_call 10; go_loud (refine (list_nil _ _).mono ?_; rintro e w2 ⟨rfl, hb2⟩; have HB2 := Lib.hid (HB.out.trans (hb2.mono HB.out.size)); clear hb2))
  go_loopg [5, 12] 0 (fun q v i wr => q = 0 ∧ v = .slice none 0 0 ∧ i = .int .i64 0 ∧ w2 = wr)
  case atStart => exact ⟨rfl, rfl, rfl, rfl⟩
  case round =>
    obtain ⟨_, rfl, rfl, hw⟩ := hrel
    subst hw
    go_wp2_with (go_at_call 27; go_loud (refine (sort_nil _ _).mono ?_; rintro e w3 ⟨rfl, hw3⟩; subst hw3))
    go_ret
    exact ⟨rfl, HB2.out⟩
set_option maxHeartbeats 4000000 in
set_option maxRecDepth 100000 in
theorem nil_walk (x0 : Int) (x1 : Int) (W : World) (p0 : (IntKind.i64.min ≤ x0 ∧ x0 ≤ IntKind.i64.max)) (p1 : (IntKind.u32.min ≤ x1 ∧ x1 ≤ IntKind.u32.max)) :
    Calls Try.prog 4 #[.int .i64 x0, .int .u32 x1] W fun e W' => e = .returned (.bool true) ∧ Below W.heap.size W W' := by
  clear p0 p1
  go_enter Try.func4, Try.ntmps4
  go_wp2_with (first
    | (go_at_call 22; go_loud (refine (held_nil _ _).mono ?_; rintro e w1 ⟨rfl, hb⟩; have HBn := Lib.hid (HB.out.trans (hb.mono HB.out.size)); clear HB hb; have HB := HBn; clear HBn))
    | (go_at_call 16; go_loud (refine (count_nil _ _).mono ?_; rintro e w1 ⟨rfl, hb⟩; have HBn := Lib.hid (HB.out.trans (hb.mono HB.out.size)); clear HB hb; have HB := HBn; clear HBn))
    | (go_at_call 21; go_loud (refine (leave_nil _ _).mono ?_; rintro e w1 ⟨rfl, hb⟩; have HBn := Lib.hid (HB.out.trans (hb.mono HB.out.size)); clear HB hb; have HB := HBn; clear HBn))
    | (go_at_call 17; go_loud (refine (revoke_nil _ _ _).mono ?_; rintro e w1 ⟨rfl, hb⟩; have HBn := Lib.hid (HB.out.trans (hb.mono HB.out.size)); clear HB hb; have HB := HBn; clear HBn))
    | (go_at_call 10; go_loud (refine (list_nil _ _).mono ?_; rintro e w1 ⟨rfl, hb⟩; have HBn := Lib.hid (HB.out.trans (hb.mono HB.out.size)); clear HB hb; have HB := HBn; clear HBn))
    | (go_at_call 12; go_loud (refine (del_nil _ _ _ _ _ _ _ _).mono ?_; rintro e w1 ⟨rfl, hb⟩; have HBn := Lib.hid (HB.out.trans (hb.mono HB.out.size)); clear HB hb; have HB := HBn; clear HBn))
    | (go_at_call 8; go_loud (refine (root_nil _ _ _ _ _ _ _ _ _).mono ?_; rintro e w1 ⟨rfl, hb⟩; have HBn := Lib.hid (HB.out.trans (hb.mono HB.out.size)); clear HB hb; have HB := HBn; clear HBn))
    | (go_at_call 19; go_loud (refine (taken_nil _ _ _).mono ?_; rintro e w1 ⟨rfl, hb⟩; have HBn := Lib.hid (HB.out.trans (hb.mono HB.out.size)); clear HB hb; have HB := HBn; clear HBn))
    | (go_at_call 18; go_loud (refine (find_nil _ _ _ _).mono ?_; rintro e w1 ⟨rfl, hb⟩; have HBn := Lib.hid (below_alloc (HB.out.trans (hb.mono HB.out.size)) (.cells #[.int .u64 0, .int .u64 0, .int .i64 0, .int .u8 0, .int .u32 0, .int .u64 0, .int .u64 0, .int .i64 0] 35)); clear HB hb; have HB := HBn; clear HBn))
    | (go_at_call 9; go_loud (refine (handle_any _ _).mono ?_; rintro e w1 ⟨rfl, hb⟩; have HBn := Lib.hid (HB.out.trans (hb.mono HB.out.size)); clear HB hb; have HB := HBn; clear HBn))
    | (go_at_call 6; go_loud (refine (lives_calls _).mono ?_; rintro e w1 ⟨rfl, hb⟩; have HB := Lib.hid hb; clear hb)))
  go_ret
  exact ⟨rfl, HB.out⟩
end Go.Proofs.Ytojbheiicmcnjaa.Fst
