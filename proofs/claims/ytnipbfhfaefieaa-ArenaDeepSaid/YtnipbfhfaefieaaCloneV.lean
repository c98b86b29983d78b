/- slices.Clone of values: a new row that reads the same. -/
import Derived.Test.YtnipbfhfaefieaaProg
import Derived.Test.YtnipbfhfaefieaaWWords
import Derived.Test.YtnipbfhfaefieaaWLast
import Derived.Test.YtnipbfhfaefieaaWMore
import Derived.Test.YtnipbfhfaefieaaWKept
import Derived.Test.YtnipbfhfaefieaaArnM
import Derived.WalkKit
import Derived.WalkSpells
import Derived.OwnWalk
import Derived.KernelRfl
import Derived.Lib.Hide
import Derived.Lib.SliceRun
namespace Go.Proofs.Ytnipbfhfaefieaa.ClV
open Go.RowKit Go Go.Proofs.YtnipbfhfaefieaaW.PrintWords Go.Proofs.YtnipbfhfaefieaaW.PrintMore Go.Proofs.Ytnipbfhfaefieaa.Arn

theorem infoVal : (Try.prog.info? 66).map (fun i => (i.zero, i.size, i.bytes)) = some (some (.agg #[.int .u8 0, .int .i64 0, .string (⟨#[]⟩ : ByteArray)]), 3, 32) := by kernel_rfl
/-- A new row of no elements. -/
theorem R_empty (w : World) : kVal.R 66 (w.alloc (.cells #[] 66)) w.heap.size (fun _ => True) (.slice (some ⟨w.heap.size, 0, none⟩) 0 0) [] :=
  ⟨fun _ _ => trivial, [], ⟨rfl, .inr ⟨w.heap.size, 0, #[], rfl, Nat.le_refl _, heap_alloc_new w _, Nat.le_refl _, by unfold maxLen; omega, rfl, rfl⟩⟩, Reps.none _ _⟩
set_option maxHeartbeats 2000000 in
set_option maxRecDepth 100000 in
theorem clone_vals (A : Option Addr) (c : Nat) (xs : List (Int × Int × ByteArray)) (w : World) (hC : kVal.C w A xs.length xs) (hl : xs.length * 32 ≤ 140737488355328) (hn : A = none → xs = [] ∧ c = 0) :
    Calls Try.prog 47 #[.slice A xs.length c] w fun e w' => ∃ v, e = .returned v ∧ kVal.R 66 w' w.heap.size (fun _ => True) v xs ∧ Below w.heap.size w w' := by
  have eq0 := fun (w : World) (a : Option Addr) (n c : Nat) => Lib.run_eql_slice_nil (P := Try.prog) w 41 66 a n c 0 0 Try.underlying41
  cases A with
  | none =>
    obtain ⟨rfl, rfl⟩ := hn rfl
    go_enter Try.func47, Try.ntmps47
    go_wp2
    go_ret
    exact ⟨_, rfl, Kd.R_nil _ _ _ _ _, Below.refl _ _⟩
  | some ad =>
    have HC := Lib.hid hC
    clear hC hn
    go_enter Try.func47, Try.ntmps47
    go_wp2_with (at_builtin; refine Kd.R_append_rows kVal (Rr := kVal.K w) (w0 := w) w.heap.size rfl (.tmp 5) (.tmp 6) 41 66 (.agg #[.int .u8 0, .int .i64 0, .string (⟨#[]⟩ : ByteArray)]) 32 rfl Try.underlying41 infoVal rfl (by decide) (by decide) (.slice (some ⟨w.heap.size, 0, none⟩) 0 0) [] xs (some ad) xs.length c (fun _ => True) (fun k => False) rfl rfl ?r1 ?r2 (fun _ _ h => h) (fun _ h => h.elim) (fun _ _ => trivial) ?r6 ?r7 ?r8 ?_)
    case r1 => exact R_empty w
    case r2 => exact Kd.C_below HC.out (below_alloc (Below.refl _ _) _)
    case r6 => exact below_alloc (Below.refl _ _) _
    case r7 => simp
    case r8 => simp; omega
    intro v1 w1 hR hB _ _
    go_wp2
    go_ret
    exact ⟨_, rfl, hR, hB⟩
end Go.Proofs.Ytnipbfhfaefieaa.ClV
