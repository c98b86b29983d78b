/- ledger: New and Take, as contracts. -/
import Derived.Test.YtaoacibahdbdkaaLedH
import Derived.Deep.RegionHeld3
namespace Go.Proofs.Ytaoacibahdbdkaa.Led
open Go.RowKit Go Go.Proofs.YtaoacibahdbdkaaW.PrintWords Go.Proofs.YtaoacibahdbdkaaW.PrintMore Go.Proofs.YtaoacibahdbdkaaW.PrintLast Go.Proofs.Ytaoacibahdbdkaa.Bts Go.Proofs.Ytaoacibahdbdkaa.Fra Go.Maps
def rightB (x y z : Int) : Bool := decide (0 ≤ x) && decide (0 ≤ y) && decide (0 ≤ z)
def withinB (a b c x y z : Int) : Bool := decide (a ≤ x) && decide (b ≤ y) && decide (c ≤ z)
theorem right_is (v : Bool) (a b c : Int) (w : World) (h : rightB a b c = v) : Calls Try.prog 21 #[bill a b c] w fun e w' => e = .returned (.bool v) ∧ Below w.heap.size w w' := by
  subst h; exact right_calls a b c w
theorem within_is (v : Bool) (a b c x y z : Int) (w : World) (h : withinB a b c x y z = v) : Calls Try.prog 20 #[bill a b c, bill x y z] w fun e w' => e = .returned (.bool v) ∧ Below w.heap.size w w' := by
  subst h; exact within_calls a b c x y z w
abbrev topN : Int := 1099511627776
section
variable {B g b n : Nat} {most : Int × Int × Int} {keys : List Int} {D : DM} {blk : Int → Nat} {f : Int → Int × Int × Int}
set_option maxHeartbeats 1000000 in
set_option maxRecDepth 100000 in
theorem new_bad (a b c : Int) (w : World) (h : (rightB a b c && withinB a b c topN topN topN) = false) :
    Calls Try.prog 22 #[bill a b c] w fun e w' => e = .returned (.tuple #[.pointer none, .int .i64 1]) ∧ Below w.heap.size w w' := by
  cases hr : rightB a b c
  · have HR := Lib.hid hr
    clear h hr
    go_enter Try.func22, Try.ntmps22
    go_wp2_with (go_at_call 21; go_loud (refine (right_is false _ _ _ _ HR.out).mono ?_; rintro e w2 ⟨rfl, hB2⟩))
    go_ret2
    exact ⟨rfl, below_then (below_alloc (Below.refl _ _) _) (by simp) hB2⟩
  · rw [hr, Bool.true_and] at h
    have HR := Lib.hid hr
    have HW := Lib.hid h
    clear h hr
    go_enter Try.func22, Try.ntmps22
    go_wp2_with (first
      | (go_at_call 21; go_loud (refine (right_is true _ _ _ _ HR.out).mono ?_; rintro e w2 ⟨rfl, hB2⟩; have hr3 := blk_below (blk_new _ _) hB2; have r0 := blk_cell hr3 0; have r1 := blk_cell hr3 1; have r2 := blk_cell hr3 2; clear hr3; have HB2 := Lib.hid hB2; clear hB2))
      | (go_at_call 20; go_loud (refine (within_is false _ _ _ _ _ _ _ HW.out).mono ?_; rintro e w3 ⟨rfl, hB3⟩)))
    go_ret2
    exact ⟨rfl, below_then (below_then (below_alloc (Below.refl _ _) _) (by simp) HB2.out) (by have := HB2.out.size; simp at this; omega) hB3⟩
set_option maxHeartbeats 1000000 in
set_option maxRecDepth 100000 in
theorem new_calls (a b c : Int) (keys : List Int) (w : World) (hr : rightB a b c = true) (hw : withinB a b c topN topN topN = true) :
    Calls Try.prog 22 #[bill a b c] w fun e w' => ∃ g, e = .returned (.tuple #[.pointer (some ⟨g, 0, none⟩), .int .i64 0]) ∧ LX w.heap.size w' g 0 (a, b, c) keys (fun _ => (0, 0, 0)) ∧ w.heap.size ≤ g ∧ Below w.heap.size w w' := by
  have HR := Lib.hid hr
  have HW := Lib.hid hw
  clear hr hw
  have hmm := @run_makeMap Try.prog
  go_enter Try.func22, Try.ntmps22
  go_wp2_with (first
    | (go_at_call 21; go_loud (refine (right_is true _ _ _ _ HR.out).mono ?_; rintro e w2 ⟨rfl, hB2⟩; have hr3 := blk_below (blk_new _ _) hB2; have r0 := blk_cell hr3 0; have r1 := blk_cell hr3 1; have r2 := blk_cell hr3 2; have HR3 := Lib.hid hr3; clear hr3; have HB2 := Lib.hid hB2; clear hB2))
    | (go_at_call 20; go_loud (refine (within_is true _ _ _ _ _ _ _ HW.out).mono ?_; rintro e w3 ⟨rfl, hB3⟩; have hr4 := blk_below HR3.out hB3; have r0' := blk_cell hr4 0; have r1' := blk_cell hr4 1; have r2' := blk_cell hr4 2; clear hr4; have HB3 := Lib.hid hB3; clear hB3)))
  go_ret2
  have hB := below_then (below_then (below_alloc (Below.refl w.heap.size w) _) (by simp) HB2.out) (by have := HB2.out.size; simp at this; omega) HB3.out
  have hs := hB.size
  refine ⟨_, rfl, ⟨w3.heap.size, .map [], fun _ => 0, ?_, (World.ownsMap_made _ _ _ _).alloc _, fun k hk => ?_, fun k _ => rfl, fun k k' hk _ _ => ?_, by omega⟩, ?_, below_alloc (below_alloc hB _) _⟩
  · exact blk_new1 w3 _ _
  · cases hk
  · cases hk
  · first | omega | (simp; omega)
theorem hasA_calls (k : Int) (a : Nat) (w : World) (h : LA B w g n most keys f k a) (h0 : 0 ≤ k) (h1 : k ≤ 4294967295) :
    Calls Try.prog 26 #[.pointer (some ⟨g, 0, none⟩), .int .u32 k] w fun e w' => e = .returned (bill (f k).1 (f k).2.1 (f k).2.2) ∧ Below w.heap.size w w' := by
  obtain ⟨x, y, z, hx⟩ : ∃ x y z, f k = (x, y, z) := ⟨_, _, _, rfl⟩
  rw [hx]
  have hacc := h.acc
  rw [hx] at hacc
  have HAC := Lib.hid hacc
  have H := Lib.hid h
  clear h hx hacc
  go_enter Try.func26, Try.ntmps26
  go_wp2_with (first
    | (go_at_call 63; go_loud (refine (ofA_calls k a _ (H.out.below (below_alloc (Below.refl _ _) _)) h0 h1).mono ?_; rintro e w2 ⟨rfl, rfl⟩))
    | (go_at_call 65; go_loud (refine (bill_calls a _ _ _ _ (blk_alloc HAC.out _)).mono ?_; rintro e w3 ⟨rfl, hB3⟩; have HB3 := Lib.hid hB3; have hr3 := blk_below (blk_new _ _) hB3; have HR3 := Lib.hid hr3; have r0 : w3.cell? ⟨w.heap.size, 0, none⟩ = some (.int .i64 0) := blk_cell hr3 0; have r1 : w3.cell? ⟨w.heap.size, 1, none⟩ = some (.int .i64 0) := blk_cell hr3 1; have r2 : w3.cell? ⟨w.heap.size, 2, none⟩ = some (.int .i64 0) := blk_cell hr3 2; have f0 := blk_frozen hr3 0; have f1 := blk_frozen hr3 1; have f2 := blk_frozen hr3 2; clear hB3 hr3)))
  refine bodyPost_ret (results_cell_row rfl _ _ w.heap.size 23 #[.int .i64 x, .int .i64 y, .int .i64 z] (0, 0) _ rfl (ret3 HR3.out _ _ _) Try.underlying23 rfl (by kernel_rfl)) rfl ?_
  refine ⟨rfl, Fr.below (S := fun j => w.heap.size ≤ j) (Fr.then_ (Fr.of_below (below_then (below_alloc (Below.refl _ _) _) (by simp) HB3.out) (fun j h => .inl h)) (fr3 w3 w.heap.size _ _ _) (fun j e => .inl (by omega))) (fun j h => h) (Nat.le_refl _)⟩
end
end Go.Proofs.Ytaoacibahdbdkaa.Led
