/- The law SliceJoins: for every input it returns true, and each argument reads behind the call as it read before. No condition. -/
import Derived.Test.YtnipbfhfaefieaaRows
import Derived.Test.YtnipbfhfaefieaaOpen
import Derived.Test.YtnipbfhfaefieaaUu
import Derived.WalkKit
import Derived.ProofKit
import Derived.OpenShut
import Derived.ShutString
import Derived.ChangeOld
import Derived.Below
import Derived.SizedLaws
namespace Go.Proofs.Ytnipbfhfaefieaa.sliceJoins
open Go.ChangeShapes Go.WideShapes Go.ChangeAt Go.RowKit Go.Proofs.YtnipbfhfaefieaaW.PrintWords
theorem own : ownKnob Try.prog.godebug = none := by kernel_rfl
theorem laidOut : laidOutB Try.prog = true := by kernel_rfl
set_option maxRecDepth 100000 in
theorem lifted (os : Os) (started : os.Started) (H : Type) (enc : TypeId × Value → H) :
    ReturnsInHanded {} Try.checked os 11 .any (Rows.sliceJoinsSpec.pre6 enc Try.prog Try.f11 Rows.sliceJoinsRow.domain false) (Rows.sliceJoinsSpec.post enc Try.prog Try.f11 false true false false) := by
  refine returnsInHanded_of_change_sized (C := Try.checked) own started (by kernel_rfl) Try.func11
    (ChangeSpec.witness6 (enc := enc) (C := Try.checked) false ⟨#[], #[.slice none 0 0, .slice none 0 0, .agg #[.int .i64 0, .int .i64 0]], []⟩ 8 (by kernel_rfl) (by kernel_rfl) (by kernel_rfl) (by kernel_rfl)) ?_
  intro W base args ds gs before hval0 hW _ hsz0 _
  have hsz : (DataW.weightsEach Try.prog (Try.f11.params.toList ++ Rows.sliceJoinsSpec.plain.varTypes Try.prog) (ds ++ gs)).all (· ≤ reachBytes) = true := hsz0
  have hval : ∀ (j : Nat) t v, Try.f11.params[j]? = some t → args[j]? = some v → Value.okWide Try.prog W .any base t v := hval0
  have hW' := hW
  obtain ⟨p, q, hA0, hV, rfl, _, _⟩ := hW
  have hA : DataW.TrodAll enc Try.prog W 0 (fun _ => true) true Try.f11.params.toList args.toList ds p := hA0
  rw [Try.params11] at hA hval hsz
  obtain ⟨v0, vs0, d0, ds0, q0, qq0, hargs, rfl, rfl, h0, r0⟩ := trodAll_cons hA
  obtain ⟨v1, vs1, d1, ds1, q1, qq1, rfl, rfl, rfl, h1, r1⟩ := trodAll_cons r0
  obtain ⟨v2, vs2, d2, ds2, q2, qq2, rfl, rfl, rfl, h2, r2⟩ := trodAll_cons r1
  obtain ⟨rfl, rfl, rfl⟩ := trodAll_nil r2
  obtain rfl : args = #[v0, v1, v2] := by cases args; simp_all
  obtain ⟨rfl, rfl⟩ := trodVars_none hV
  have k0 := h0
  have lt0 : ∀ x ∈ q0, x.block < W.heap.size := by obtain ⟨m, hm⟩ := k0; exact DataW.trod_lt m _ _ _ hm
  obtain ⟨x0, A0, c0, rfl, l0, C0, p0⟩ := Open.arg_slice (Open.opens_slice Try.underlying41 (by kernel_rfl) (Open.opens_struct Try.underlying66 (by kernel_rfl) (Open.opensF_cons rfl (Open.opens_int Try.underlying64 (by kernel_rfl)) (Open.opensF_cons rfl (Open.opens_int Try.underlying2 (by kernel_rfl)) (Open.opensF_one rfl (Open.opens_string Try.underlying9 (by kernel_rfl))))))) (Open.weights_of hsz 0 rfl rfl) (okWide_slice Try.underlying41 (hval 0 41 v0 rfl rfl)) h0
  have k1 := h1
  have lt1 : ∀ x ∈ q1, x.block < W.heap.size := by obtain ⟨m, hm⟩ := k1; exact DataW.trod_lt m _ _ _ hm
  obtain ⟨x1, A1, c1, rfl, l1, C1, p1⟩ := Open.arg_slice (Open.opens_slice Try.underlying41 (by kernel_rfl) (Open.opens_struct Try.underlying66 (by kernel_rfl) (Open.opensF_cons rfl (Open.opens_int Try.underlying64 (by kernel_rfl)) (Open.opensF_cons rfl (Open.opens_int Try.underlying2 (by kernel_rfl)) (Open.opensF_one rfl (Open.opens_string Try.underlying9 (by kernel_rfl))))))) (Open.weights_of hsz 1 rfl rfl) (okWide_slice Try.underlying41 (hval 1 41 v1 rfl rfl)) h1
  have k2 := h2
  have lt2 : ∀ x ∈ q2, x.block < W.heap.size := by obtain ⟨m, hm⟩ := k2; exact DataW.trod_lt m _ _ _ hm
  obtain ⟨⟨x2_0, x2_1⟩, cs2, rfl, K2, ⟨p2_0, p2_1⟩⟩ := Open.arg_agg (Open.opens_array2 Try.underlying55 (by kernel_rfl) (Open.opens_int Try.underlying3 (by kernel_rfl))) (Open.weights_of hsz 2 rfl rfl) (Open.agg_array Try.underlying55 (hval 2 55 v2 rfl rfl)) h2
  obtain ⟨_, _, e2, rfl, rfl⟩ := K2
  obtain rfl : cs2 = #[.int .i64 x2_0, .int .i64 x2_1] := Array.ext' e2
  clear hA0 hval0 hsz0 hsz
  refine (Sl.joins_walk A0 c0 x0 A1 c1 x1 x2_0 x2_1 W l0 C0 p0 l1 C1 p1 p2_0 p2_1).mono fun e W' ⟨he, bel⟩ => ?_
  subst he
  exact ⟨_, rfl, _, _, _, [], _, [], hW', trodAll_mk1 (shut_bool Try.underlying4 _), (trodAll_cons_mk (Below.trod laidOut (by kernel_rfl) (of_decide_eq_true (by kernel_rfl)) k0 bel lt0) (trodAll_cons_mk (Below.trod laidOut (by kernel_rfl) (of_decide_eq_true (by kernel_rfl)) k1 bel lt1) (trodAll_cons_mk (Below.trod laidOut (by kernel_rfl) (of_decide_eq_true (by kernel_rfl)) k2 bel lt2) trodAll_mk0))), rfl, bel.frame _, fun h => by cases h⟩
theorem over : Rows.sliceJoinsRow.holds Try.pinned (OpenSpec.ofChange Rows.sliceJoinsSpec) :=
  OpenClaim.holds_of_wide 11 Try.f11 rfl rfl rfl rfl rfl rfl rfl ⟨rfl, rfl, rfl, rfl, rfl⟩ rfl rfl rfl rfl rfl (by kernel_rfl) Try.func11 (by kernel_rfl)
    (of_decide_eq_true (by kernel_rfl)) (by unfold Func.isWrapper; first | (rw [if_pos (by decide +kernel)]; kernel_rfl) | (rw [if_neg (by decide +kernel)]; exact ⟨rfl, rfl⟩))
    (fun os started H enc _ => lifted os started H enc)
end Go.Proofs.Ytnipbfhfaefieaa.sliceJoins
namespace Go.Proofs.Ytnipbfhfaefieaa
/-- The row. -/
theorem sliceJoins_holds : Rows.SliceJoinsSaid := sliceJoins.over
#print axioms sliceJoins_holds
end Go.Proofs.Ytnipbfhfaefieaa
