/- arena: Edit. -/
import Derived.Test.YtnipbfhfaefieaaArnH
namespace Go.Proofs.Ytnipbfhfaefieaa.Arn
open Go.RowKit Go Go.Proofs.YtnipbfhfaefieaaW.PrintWords Go.Proofs.YtnipbfhfaefieaaW.PrintMore Go.Proofs.YtnipbfhfaefieaaW.PrintLast Go.Proofs.Ytnipbfhfaefieaa.Bts Go.Proofs.Ytnipbfhfaefieaa.Fra
theorem edit_nil (i o ow x y : Int) (v k : Value) (w : World) (hv : ∃ A n c, v = .slice A n c) (hk : ∃ A n c, k = .slice A n c) :
    Calls Try.prog 28 #[.pointer none, .int .i64 i, .int .u32 o, cellV ow x y v k] w fun e w' => e = .returned (.int .i64 4) ∧ Below w.heap.size w w' := by
  obtain ⟨A1, n1, c1, rfl⟩ := hv
  obtain ⟨A2, n2, c2, rfl⟩ := hk
  go_enter Try.func28, Try.ntmps28
  go_wp2_with (go_at_call 68; go_loud (refine (is_nil _ _).mono ?_; rintro e w1 ⟨rfl, hB⟩))
  go_ret
  exact ⟨rfl, below_step (below_alloc (Below.refl _ _) _) hB⟩
section
variable {base a gs cs : Nat} {vf : Value} {sl : List Slot} {fr : List Int} {live most : Int} {O : Nat → Prop}
theorem edit_none (i o ow x y : Int) (v k : Value) (w : World) (h : RawA w base a gs cs vf sl fr live most) (hs : sl.length ≤ 1000000000) (hi : isB sl i = false) (hv : ∃ A n c, v = .slice A n c) (hk : ∃ A n c, k = .slice A n c) :
    Calls Try.prog 28 #[.pointer (some ⟨a, 0, none⟩), .int .i64 i, .int .u32 o, cellV ow x y v k] w fun e w' => e = .returned (.int .i64 4) ∧ Below w.heap.size w w' := by
  obtain ⟨A1, n1, c1, rfl⟩ := hv
  obtain ⟨A2, n2, c2, rfl⟩ := hk
  have HI := Lib.hid (is_raw i (w.alloc (.cells #[.int .u32 ow, .int .u32 x, .int .u32 y, .slice A1 n1 c1, .slice A2 n2 c2] 43)) (Raw.below h (below_alloc (Below.refl _ _) _)) hs)
  rw [hi] at HI
  clear h hi
  go_enter Try.func28, Try.ntmps28
  go_wp2_with (go_at_call 68; go_loud (refine HI.out.mono ?_; rintro e w1 ⟨rfl, hB⟩))
  go_ret
  exact ⟨rfl, below_step (below_alloc (Below.refl _ _) _) hB⟩
set_option maxHeartbeats 2000000 in
theorem edit_state (i : Nat) (o ow x y : Int) (v k : Value) (s : Slot) (w : World) (h : RawA w base a gs cs vf sl fr live most) (hs : sl.length ≤ 1000000000) (hi : sl[i]? = some s) (hi0 : 0 < i) (hr : 0 < s.r) (hv : ∃ A n c, v = .slice A n c) (hk : ∃ A n c, k = .slice A n c)
    (hbad : o = 0 ∨ s.ow ≠ o ∨ 1 < s.r) :
    Calls Try.prog 28 #[.pointer (some ⟨a, 0, none⟩), .int .i64 i, .int .u32 o, cellV ow x y v k] w fun e w' => e = .returned (.int .i64 14) ∧ Below w.heap.size w w' := by
  obtain ⟨A1, n1, c1, rfl⟩ := hv
  obtain ⟨A2, n2, c2, rfl⟩ := hk
  have hil : i < sl.length := (List.getElem?_eq_some_iff.1 hi).1
  have HI := Lib.hid (is_raw (i : Int) (w.alloc (.cells #[.int .u32 ow, .int .u32 x, .int .u32 y, .slice A1 n1 c1, .slice A2 n2 c2] 43)) (Raw.below h (below_alloc (Below.refl _ _) _)) hs)
  rw [isB_at hi hi0 hr] at HI
  have HR := Lib.hid h
  have HIS := Lib.hid hi
  have hs' : (sl.length : Int) ≤ 1000000000 := by omega
  have hil' : (i : Int) < (sl.length : Int) := by omega
  clear h hi
  by_cases b0 : o = 0
  · subst b0
    go_enter Try.func28, Try.ntmps28
    go_wp2_with (go_at_call 68; go_loud (refine HI.out.mono ?_; rintro e w1 ⟨rfl, hB⟩))
    go_ret
    exact ⟨rfl, below_step (below_alloc (Below.refl _ _) _) hB⟩
  · have b0' : (o == 0) = false := by simpa using b0
    by_cases b1 : s.ow = o
    · have b1' : (s.ow != o) = false := by simpa using b1
      have b2 : 1 < s.r := by omega
      go_enter Try.func28, Try.ntmps28
      go_wp2_with (go_at_call 68; go_loud (refine HI.out.mono ?_; rintro e w1 ⟨rfl, hB⟩; have hb1 := below_step (below_alloc (Below.refl w.heap.size w) _) hB; have hr1 := Raw.below HR.out hb1; have p0 := blk_cell hr1.obj 0; obtain ⟨t0, t1, t2, t3, t4, t5, _⟩ := six hr1 i _ HIS.out; have HB := Lib.hid hb1; clear hr1 hb1 hB))
      go_ret
      exact ⟨rfl, HB.out⟩
    · have b1' : (s.ow != o) = true := by simpa using b1
      go_enter Try.func28, Try.ntmps28
      go_wp2_with (go_at_call 68; go_loud (refine HI.out.mono ?_; rintro e w1 ⟨rfl, hB⟩; have hb1 := below_step (below_alloc (Below.refl w.heap.size w) _) hB; have hr1 := Raw.below HR.out hb1; have p0 := blk_cell hr1.obj 0; obtain ⟨t0, t1, t2, t3, t4, t5, _⟩ := six hr1 i _ HIS.out; have HB := Lib.hid hb1; clear hr1 hb1 hB))
      go_ret
      exact ⟨rfl, HB.out⟩
set_option maxHeartbeats 2000000 in
theorem edit_arg (i : Nat) (o ow x y : Int) (v k : Value) (kids : List Int) (s : Slot) (w : World) (h : RawA w base a gs cs vf sl fr live most) (hs : sl.length ≤ 1000000000) (hi : sl[i]? = some s) (hi0 : 0 < i) (hr : s.r = 1) (hv : ∃ A n c, v = .slice A n c) (hk : RowIn (Kd.int .i64) w O k kids) (hl : kids.length ≤ 1000000000) (hb : badAt sl kids = true)
    (ho : o ≠ 0) (hso : s.ow = o) :
    Calls Try.prog 28 #[.pointer (some ⟨a, 0, none⟩), .int .i64 i, .int .u32 o, cellV ow x y v k] w fun e w' => e = .returned (.int .i64 1) ∧ Below w.heap.size w w' := by
  obtain ⟨A1, n1, c1, rfl⟩ := hv
  have HKR := Lib.hid hk
  obtain ⟨A, c, rfl, _⟩ := hk
  have hil : i < sl.length := (List.getElem?_eq_some_iff.1 hi).1
  have HI := Lib.hid (is_raw (i : Int) (w.alloc (.cells #[.int .u32 ow, .int .u32 x, .int .u32 y, .slice A1 n1 c1, .slice A kids.length c] 43)) (Raw.below h (below_alloc (Below.refl _ _) _)) hs)
  rw [isB_at hi hi0 (by omega)] at HI
  have HR := Lib.hid h
  have HIS := Lib.hid hi
  have HBB := Lib.hid hb
  have hs' : (sl.length : Int) ≤ 1000000000 := by omega
  have hil' : (i : Int) < (sl.length : Int) := by omega
  have b0' : (o == 0) = false := by simpa using ho
  have b1' : (s.ow != o) = false := by simpa using hso
  have b2 : ¬ 1 < s.r := by omega
  clear h hi hb
  go_enter Try.func28, Try.ntmps28
  go_wp2_with (first
    | (go_at_call 64; go_loud (refine (right_calls ow x y (.slice A1 n1 c1) (.slice A kids.length c) kids _ (Raw.below HR.out HB.out) hs (HKR.out.below HB.out) hl).mono ?_; rw [HBB.out]; rintro e w2 ⟨rfl, hB2⟩))
    | (go_at_call 68; go_loud (refine HI.out.mono ?_; rintro e w1 ⟨rfl, hB⟩; have hb1 := below_step (below_alloc (Below.refl w.heap.size w) (.cells #[.int .u32 ow, .int .u32 x, .int .u32 y, .slice A1 n1 c1, .slice A kids.length c] 43)) hB; have hr1 := Raw.below HR.out hb1; have p0 := blk_cell hr1.obj 0; obtain ⟨t0, t1, t2, t3, t4, t5, _⟩ := six hr1 i _ HIS.out; have hbx := blk_below (blk_new w (.cells #[.int .u32 ow, .int .u32 x, .int .u32 y, .slice A1 n1 c1, .slice A kids.length c] 43)) hB; have g0 := blk_cell hbx 0; have g1 := blk_cell hbx 1; have g2 := blk_cell hbx 2; have g3 := blk_cell hbx 3; have g4 := blk_cell hbx 4; have HB := Lib.hid hb1; clear hr1 hb1 hB hbx)))
  go_ret
  exact ⟨rfl, below_step HB.out hB2⟩
end
end Go.Proofs.Ytnipbfhfaefieaa.Arn
