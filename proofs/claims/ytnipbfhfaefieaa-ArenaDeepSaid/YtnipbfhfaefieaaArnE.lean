/- arena: whether a cell's others are there; Make of what can't be. -/
import Derived.Test.YtnipbfhfaefieaaArnD
namespace Go.Proofs.Ytnipbfhfaefieaa.Arn
open Go.RowKit Go Go.Proofs.YtnipbfhfaefieaaW.PrintWords Go.Proofs.YtnipbfhfaefieaaW.PrintMore Go.Proofs.YtnipbfhfaefieaaW.PrintLast Go.Proofs.Ytnipbfhfaefieaa.Bts Go.Proofs.Ytnipbfhfaefieaa.Fra
theorem right_nil (c : Value) (ow x y : Int) (v k : Value) (hc : c = cellV ow x y v k) (w : World) : Calls Try.prog 64 #[.pointer none, c] w fun e w' => e = .returned (.bool false) ∧ Below w.heap.size w w' := by
  subst hc
  go_enter Try.func64, Try.ntmps64
  go_wp2
  go_ret
  exact ⟨rfl, below_alloc (below_alloc (Below.refl _ _) _) _⟩
section
variable {base a gs cs : Nat} {vf : Value} {sl : List Slot} {fr : List Int} {live most : Int} {O : Nat → Prop}
set_option maxHeartbeats 1000000 in
theorem right_calls (ow x y : Int) (v k : Value) (kids : List Int) (w : World) (h : RawA w base a gs cs vf sl fr live most) (hs : sl.length ≤ 1000000000) (hk : RowIn (Kd.int .i64) w O k kids) (hl : kids.length ≤ 1000000000) :
    Calls Try.prog 64 #[.pointer (some ⟨a, 0, none⟩), cellV ow x y v k] w fun e w' => e = .returned (.bool (!badAt sl kids)) ∧ Below w.heap.size w w' := by
  obtain ⟨A, c, rfl, hlc, hn, hC, _⟩ := hk
  have HR := Lib.hid h
  have HC := Lib.hid hC
  clear h hC hn hlc
  go_enter Try.func64, Try.ntmps64
  go_wp2_with (go_at_call 91; go_loud (refine (contains_calls A c w.heap.size kids _ (Raw.below HR.out (by repeat (first | (with_reducible first | exact Below.refl w.heap.size w | apply below_alloc | apply pw_below_drewN | apply below_drew1) | exact Below.refl w.heap.size w))) hs (by exact blk_cell (blk_alloc (blk_new w _) _) 0) (Kd.C_below HC.out (by repeat (first | (with_reducible first | exact Below.refl w.heap.size w | apply below_alloc | apply pw_below_drewN | apply below_drew1) | exact Below.refl w.heap.size w))) hl).mono ?_; rintro e w1 ⟨rfl, hB⟩))
  go_ret
  exact ⟨rfl, below_step (below_alloc (below_alloc (Below.refl _ _) _) _) hB⟩
theorem make_arg (ow x y : Int) (v k : Value) (kids : List Int) (w : World) (h : RawA w base a gs cs vf sl fr live most) (hs : sl.length ≤ 1000000000) (hv : ∃ A n c, v = .slice A n c) (hk : RowIn (Kd.int .i64) w O k kids) (hl : kids.length ≤ 1000000000) (hb : badAt sl kids = true) :
    Calls Try.prog 21 #[.pointer (some ⟨a, 0, none⟩), cellV ow x y v k] w fun e w' => e = .returned (.tuple #[.int .i64 0, .int .i64 1]) ∧ Below w.heap.size w w' := by
  obtain ⟨A1, n1, c1, rfl⟩ := hv
  have HKR := Lib.hid hk
  obtain ⟨A, c, rfl, _⟩ := hk
  have HI := Lib.hid (right_calls ow x y (.slice A1 n1 c1) (.slice A kids.length c) kids (w.alloc (.cells #[.int .u32 ow, .int .u32 x, .int .u32 y, .slice A1 n1 c1, .slice A kids.length c] 43)) (Raw.below h (below_alloc (Below.refl _ _) _)) hs (HKR.out.below (below_alloc (Below.refl _ _) _)) hl)
  rw [hb] at HI
  clear h hb
  go_enter Try.func21, Try.ntmps21
  go_wp2_with (go_at_call 64; go_loud (refine HI.out.mono ?_; rintro e w1 ⟨rfl, hB⟩))
  go_ret2
  exact ⟨rfl, below_step (below_alloc (Below.refl _ _) _) hB⟩
theorem make_nil (ow x y : Int) (v k : Value) (w : World) (hv : ∃ A n c, v = .slice A n c) (hk : ∃ A n c, k = .slice A n c) :
    Calls Try.prog 21 #[.pointer none, cellV ow x y v k] w fun e w' => e = .returned (.tuple #[.int .i64 0, .int .i64 1]) ∧ Below w.heap.size w w' := by
  obtain ⟨A1, n1, c1, rfl⟩ := hv
  obtain ⟨A2, n2, c2, rfl⟩ := hk
  go_enter Try.func21, Try.ntmps21
  go_wp2_with (go_at_call 64; go_loud (refine (right_nil _ ow x y _ _ rfl _).mono ?_; rintro e w1 ⟨rfl, hB⟩))
  go_ret2
  exact ⟨rfl, below_step (below_alloc (Below.refl _ _) _) hB⟩
theorem make_full (ow x y : Int) (v k : Value) (kids : List Int) (w : World) (h : RawA w base a gs cs vf sl fr live most) (hs : sl.length ≤ 1000000000) (hv : ∃ A n c, v = .slice A n c) (hk : RowIn (Kd.int .i64) w O k kids) (hl : kids.length ≤ 1000000000) (hb : badAt sl kids = false) (hr : wrap64 (most - live) < 1) :
    Calls Try.prog 21 #[.pointer (some ⟨a, 0, none⟩), cellV ow x y v k] w fun e w' => e = .returned (.tuple #[.int .i64 0, .int .i64 5]) ∧ Below w.heap.size w w' := by
  obtain ⟨A1, n1, c1, rfl⟩ := hv
  have HKR := Lib.hid hk
  obtain ⟨A, c, rfl, _⟩ := hk
  have HR := Lib.hid h
  have HI := Lib.hid (right_calls ow x y (.slice A1 n1 c1) (.slice A kids.length c) kids (w.alloc (.cells #[.int .u32 ow, .int .u32 x, .int .u32 y, .slice A1 n1 c1, .slice A kids.length c] 43)) (Raw.below h (below_alloc (Below.refl _ _) _)) hs (HKR.out.below (below_alloc (Below.refl _ _) _)) hl)
  rw [hb] at HI
  clear h hb
  go_enter Try.func21, Try.ntmps21
  go_wp2_with (first
    | (go_at_call 25; go_loud (refine (room_calls _ (Raw.below HR.out HB.out)).mono ?_; rintro e w2 ⟨rfl, hB2⟩))
    | (go_at_call 64; go_loud (refine HI.out.mono ?_; rintro e w1 ⟨rfl, hB⟩; have HB := Lib.hid (below_step (below_alloc (Below.refl _ _) _) hB); clear hB)))
  go_ret2
  exact ⟨rfl, below_step HB.out hB2⟩
end
end Go.Proofs.Ytnipbfhfaefieaa.Arn
