/- The law LedgerActs: for every input it returns true, and each argument reads behind the call as it read before. No condition. -/
import Derived.Test.YtaoacibahdbdkaaRows
import Derived.Test.YtaoacibahdbdkaaOpen
import Derived.Test.YtaoacibahdbdkaaLedX
import Derived.WalkKit
import Derived.ProofKit
import Derived.OpenShut
import Derived.ShutString
import Derived.ChangeOld
import Derived.Below
import Derived.SizedLaws
namespace Go.Proofs.Ytaoacibahdbdkaa.ledgerActs
open Go.ChangeShapes Go.WideShapes Go.ChangeAt Go.RowKit Go.Proofs.YtaoacibahdbdkaaW.PrintWords
theorem own : ownKnob Try.prog.godebug = none := by kernel_rfl
theorem laidOut : laidOutB Try.prog = true := by kernel_rfl
set_option maxRecDepth 100000 in
theorem lifted (os : Os) (started : os.Started) (H : Type) (enc : TypeId × Value → H) :
    ReturnsInHanded {} Try.checked os 4 .any (Rows.ledgerActsSpec.pre6 enc Try.prog Try.f4 Rows.ledgerActsRow.domain false) (Rows.ledgerActsSpec.post enc Try.prog Try.f4 false true false false) := by
  refine returnsInHanded_of_change_sized (C := Try.checked) own started (by kernel_rfl) Try.func4
    (ChangeSpec.witness6 (enc := enc) (C := Try.checked) false ⟨#[], #[.agg #[.int .i64 0, .int .i64 0, .int .i64 0], .slice none 0 0], []⟩ 8 (by kernel_rfl) (by kernel_rfl) (by kernel_rfl) (by kernel_rfl)) ?_
  intro W base args ds gs before hval0 hW _ hsz0 _
  have hsz : (DataW.weightsEach Try.prog (Try.f4.params.toList ++ Rows.ledgerActsSpec.plain.varTypes Try.prog) (ds ++ gs)).all (· ≤ reachBytes) = true := hsz0
  have hval : ∀ (j : Nat) t v, Try.f4.params[j]? = some t → args[j]? = some v → Value.okWide Try.prog W .any base t v := hval0
  have hW' := hW
  obtain ⟨p, q, hA0, hV, rfl, _, _⟩ := hW
  have hA : DataW.TrodAll enc Try.prog W 0 (fun _ => true) true Try.f4.params.toList args.toList ds p := hA0
  rw [Try.params4] at hA hval hsz
  obtain ⟨v0, vs0, d0, ds0, q0, qq0, hargs, rfl, rfl, h0, r0⟩ := trodAll_cons hA
  obtain ⟨v1, vs1, d1, ds1, q1, qq1, rfl, rfl, rfl, h1, r1⟩ := trodAll_cons r0
  obtain ⟨rfl, rfl, rfl⟩ := trodAll_nil r1
  obtain rfl : args = #[v0, v1] := by cases args; simp_all
  obtain ⟨rfl, rfl⟩ := trodVars_none hV
  have k0 := h0
  have lt0 : ∀ x ∈ q0, x.block < W.heap.size := by obtain ⟨m, hm⟩ := k0; exact DataW.trod_lt m _ _ _ hm
  obtain ⟨⟨x0_0, x0_1, x0_2⟩, cs0, rfl, K0, ⟨p0_0, p0_1, p0_2⟩⟩ := Open.arg_agg (Open.opens_struct Try.underlying23 (by kernel_rfl) (Open.opensF_cons rfl (Open.opens_int Try.underlying3 (by kernel_rfl)) (Open.opensF_cons rfl (Open.opens_int Try.underlying3 (by kernel_rfl)) (Open.opensF_one rfl (Open.opens_int Try.underlying3 (by kernel_rfl)))))) (Open.weights_of hsz 0 rfl rfl) (Open.agg_struct Try.underlying23 (hval 0 23 v0 rfl rfl)) h0
  obtain ⟨_, _, e0, rfl, ⟨_, _, rfl, rfl, rfl⟩⟩ := K0
  obtain rfl : cs0 = #[.int .i64 x0_0, .int .i64 x0_1, .int .i64 x0_2] := Array.ext' e0
  have k1 := h1
  have lt1 : ∀ x ∈ q1, x.block < W.heap.size := by obtain ⟨m, hm⟩ := k1; exact DataW.trod_lt m _ _ _ hm
  obtain ⟨x1, A1, c1, rfl, l1, C1, p1⟩ := Open.arg_slice (Open.opens_slice Try.underlying32 (by kernel_rfl) (Open.opens_struct Try.underlying40 (by kernel_rfl) (Open.opensF_cons rfl (Open.opens_int Try.underlying5 (by kernel_rfl)) (Open.opensF_cons rfl (Open.opens_int Try.underlying38 (by kernel_rfl)) (Open.opensF_one rfl (Open.opens_struct Try.underlying23 (by kernel_rfl) (Open.opensF_cons rfl (Open.opens_int Try.underlying3 (by kernel_rfl)) (Open.opensF_cons rfl (Open.opens_int Try.underlying3 (by kernel_rfl)) (Open.opensF_one rfl (Open.opens_int Try.underlying3 (by kernel_rfl))))))))))) (Open.weights_of hsz 1 rfl rfl) (okWide_slice Try.underlying32 (hval 1 32 v1 rfl rfl)) h1
  clear hA0 hval0 hsz0 hsz
  refine (LedX.walk x0_0 x0_1 x0_2 A1 c1 x1 W p0_0 p0_1 p0_2 l1 C1 p1).mono fun e W' ⟨he, bel⟩ => ?_
  subst he
  exact ⟨_, rfl, _, _, _, [], _, [], hW', trodAll_mk1 (shut_bool Try.underlying4 _), (trodAll_cons_mk (Below.trod laidOut (by kernel_rfl) (of_decide_eq_true (by kernel_rfl)) k0 bel lt0) (trodAll_cons_mk (Below.trod laidOut (by kernel_rfl) (of_decide_eq_true (by kernel_rfl)) k1 bel lt1) trodAll_mk0)), rfl, bel.frame _, fun h => by cases h⟩
theorem over : Rows.ledgerActsRow.holds Try.pinned (OpenSpec.ofChange Rows.ledgerActsSpec) :=
  OpenClaim.holds_of_wide 4 Try.f4 rfl rfl rfl rfl rfl rfl rfl ⟨rfl, rfl, rfl, rfl, rfl⟩ rfl rfl rfl rfl rfl (by kernel_rfl) Try.func4 (by kernel_rfl)
    (of_decide_eq_true (by kernel_rfl)) (by unfold Func.isWrapper; first | (rw [if_pos (by decide +kernel)]; kernel_rfl) | (rw [if_neg (by decide +kernel)]; exact ⟨rfl, rfl⟩))
    (fun os started H enc _ => lifted os started H enc)
end Go.Proofs.Ytaoacibahdbdkaa.ledgerActs
namespace Go.Proofs.Ytaoacibahdbdkaa
/-- The row. -/
theorem ledgerActs_holds : Rows.LedgerActsSaid := ledgerActs.over
#print axioms ledgerActs_holds
end Go.Proofs.Ytaoacibahdbdkaa
