/- slices.Clone of whole numbers: a new row that reads the same. -/
import Derived.Test.YtnipbfhfaefieaaProg
import Derived.Test.YtnipbfhfaefieaaWWords
import Derived.Test.YtnipbfhfaefieaaWLast
import Derived.Test.YtnipbfhfaefieaaWMore
import Derived.Test.YtnipbfhfaefieaaWKept
import Derived.WalkKit
import Derived.WalkSpells
import Derived.OwnWalk
import Derived.KernelRfl
import Derived.Lib.Hide
import Derived.Lib.SliceRun
namespace Go.Proofs.Ytnipbfhfaefieaa.ClI
open Go.RowKit Go Go.Proofs.YtnipbfhfaefieaaW.PrintWords Go.Proofs.YtnipbfhfaefieaaW.PrintMore

theorem infoInt : (Try.prog.info? 3).map (fun i => (i.zero, i.size, i.bytes)) = some (some (.int .i64 0), 1, 8) := by kernel_rfl
/-- A new row of no elements. -/
theorem R_empty (w : World) : (Kd.int .i64).R 3 (w.alloc (.cells #[] 3)) w.heap.size (fun _ => True) (.slice (some ⟨w.heap.size, 0, none⟩) 0 0) [] :=
  ⟨fun _ _ => trivial, [], ⟨rfl, .inr ⟨w.heap.size, 0, #[], rfl, Nat.le_refl _, heap_alloc_new w _, Nat.le_refl _, by unfold maxLen; omega, rfl, rfl⟩⟩, Reps.none _ _⟩
set_option maxHeartbeats 2000000 in
set_option maxRecDepth 100000 in
theorem clone_ints (A : Option Addr) (c : Nat) (xs : List Int) (w : World) (hC : (Kd.int .i64).C w A xs.length xs) (hl : xs.length * 8 ≤ 140737488355328) (hn : A = none → xs = [] ∧ c = 0) :
    Calls Try.prog 75 #[.slice A xs.length c] w fun e w' => ∃ v, e = .returned v ∧ (Kd.int .i64).R 3 w' w.heap.size (fun _ => True) v xs ∧ Below w.heap.size w w' := by
  have eq0 := fun (w : World) (a : Option Addr) (n c : Nat) => Lib.run_eql_slice_nil (P := Try.prog) w 27 3 a n c 0 0 Try.underlying27
  cases A with
  | none =>
    obtain ⟨rfl, rfl⟩ := hn rfl
    go_enter Try.func75, Try.ntmps75
    go_wp2
    go_ret
    exact ⟨_, rfl, Kd.R_nil _ _ _ _ _, Below.refl _ _⟩
  | some ad =>
    have HC := Lib.hid hC
    clear hC hn
    go_enter Try.func75, Try.ntmps75
    go_wp2_with (at_builtin; refine Kd.R_append_rows (Kd.int .i64) (Rr := (Kd.int .i64).K w) (w0 := w) w.heap.size rfl (.tmp 5) (.tmp 6) 27 3 (.int .i64 0) 8 rfl Try.underlying27 infoInt rfl (by decide) (by decide) (.slice (some ⟨w.heap.size, 0, none⟩) 0 0) [] xs (some ad) xs.length c (fun _ => True) (fun k => False) rfl rfl ?r1 ?r2 (fun _ _ h => h) (fun _ h => h.elim) (fun _ _ => trivial) ?r6 ?r7 ?r8 ?_)
    case r1 => exact R_empty w
    case r2 => exact Kd.C_below HC.out (below_alloc (Below.refl _ _) _)
    case r6 => exact below_alloc (Below.refl _ _) _
    case r7 => simp
    case r8 => simp; omega
    intro v1 w1 hR hB _ _
    go_wp2
    go_ret
    exact ⟨_, rfl, hR, hB⟩
end Go.Proofs.Ytnipbfhfaefieaa.ClI
