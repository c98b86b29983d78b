/- The law RequestEncodes: for every input it returns true, and each argument reads behind the call as it read before. No condition. -/
import Derived.Test.YtaoacibahdbdkaaRows
import Derived.Test.YtaoacibahdbdkaaOpen
import Derived.Test.YtaoacibahdbdkaaOl
import Derived.WalkKit
import Derived.ProofKit
import Derived.OpenShut
import Derived.ShutString
import Derived.ChangeOld
import Derived.Below
import Derived.SizedLaws
namespace Go.Proofs.Ytaoacibahdbdkaa.requestEncodes
open Go.ChangeShapes Go.WideShapes Go.ChangeAt Go.RowKit Go.Proofs.YtaoacibahdbdkaaW.PrintWords
theorem own : ownKnob Try.prog.godebug = none := by kernel_rfl
theorem laidOut : laidOutB Try.prog = true := by kernel_rfl
set_option maxRecDepth 100000 in
theorem lifted (os : Os) (started : os.Started) (H : Type) (enc : TypeId × Value → H) :
    ReturnsInHanded {} Try.checked os 14 .any (Rows.requestEncodesSpec.pre6 enc Try.prog Try.f14 Rows.requestEncodesRow.domain false) (Rows.requestEncodesSpec.post enc Try.prog Try.f14 false true false false) := by
  refine returnsInHanded_of_change_sized (C := Try.checked) own started (by kernel_rfl) Try.func14
    (ChangeSpec.witness6 (enc := enc) (C := Try.checked) false ⟨#[], #[.agg #[.int .u8 0, .int .u64 0, .int .u64 0, .int .u8 0, .int .u8 0, .int .u8 0, .int .i64 0, .string ByteArray.empty, .int .u8 0, .int .i64 0, .string ByteArray.empty, .int .i64 0, .int .i64 0, .int .u32 0, .int .u8 0, .int .u64 0, .int .u64 0]], []⟩ 8 (by kernel_rfl) (by kernel_rfl) (by kernel_rfl) (by kernel_rfl)) ?_
  intro W base args ds gs before hval0 hW _ hsz0 _
  have hsz : (DataW.weightsEach Try.prog (Try.f14.params.toList ++ Rows.requestEncodesSpec.plain.varTypes Try.prog) (ds ++ gs)).all (· ≤ reachBytes) = true := hsz0
  have hval : ∀ (j : Nat) t v, Try.f14.params[j]? = some t → args[j]? = some v → Value.okWide Try.prog W .any base t v := hval0
  have hW' := hW
  obtain ⟨p, q, hA0, hV, rfl, _, _⟩ := hW
  have hA : DataW.TrodAll enc Try.prog W 0 (fun _ => true) true Try.f14.params.toList args.toList ds p := hA0
  rw [Try.params14] at hA hval hsz
  obtain ⟨v0, vs0, d0, ds0, q0, qq0, hargs, rfl, rfl, h0, r0⟩ := trodAll_cons hA
  obtain ⟨rfl, rfl, rfl⟩ := trodAll_nil r0
  obtain rfl : args = #[v0] := by cases args; simp_all
  obtain ⟨rfl, rfl⟩ := trodVars_none hV
  have k0 := h0
  have lt0 : ∀ x ∈ q0, x.block < W.heap.size := by obtain ⟨m, hm⟩ := k0; exact DataW.trod_lt m _ _ _ hm
  obtain ⟨⟨x0_0, ⟨x0_1_0, x0_1_1⟩, x0_2, ⟨x0_3_0, ⟨x0_3_1_0, x0_3_1_1, x0_3_1_2⟩, ⟨x0_3_2_0, x0_3_2_1, x0_3_2_2⟩, x0_3_3, x0_3_4⟩, x0_4, x0_5, ⟨x0_6_0, x0_6_1⟩⟩, cs0, rfl, K0, ⟨p0_0, ⟨p0_1_0, p0_1_1⟩, p0_2, ⟨p0_3_0, ⟨p0_3_1_0, p0_3_1_1, p0_3_1_2⟩, ⟨p0_3_2_0, p0_3_2_1, p0_3_2_2⟩, p0_3_3, p0_3_4⟩, p0_4, p0_5, ⟨p0_6_0, p0_6_1⟩⟩⟩ := Open.arg_agg (Open.opens_struct Try.underlying104 (by kernel_rfl) (Open.opensF_cons rfl (Open.opens_int Try.underlying97 (by kernel_rfl)) (Open.opensF_cons rfl (Open.opens_struct Try.underlying80 (by kernel_rfl) (Open.opensF_cons rfl (Open.opens_int Try.underlying46 (by kernel_rfl)) (Open.opensF_one rfl (Open.opens_int Try.underlying46 (by kernel_rfl))))) (Open.opensF_cons rfl (Open.opens_int Try.underlying98 (by kernel_rfl)) (Open.opensF_cons rfl (Open.opens_struct Try.underlying101 (by kernel_rfl) (Open.opensF_cons rfl (Open.opens_int Try.underlying99 (by kernel_rfl)) (Open.opensF_cons rfl (Open.opens_struct Try.underlying54 (by kernel_rfl) (Open.opensF_cons rfl (Open.opens_int Try.underlying52 (by kernel_rfl)) (Open.opensF_cons rfl (Open.opens_int Try.underlying2 (by kernel_rfl)) (Open.opensF_one rfl (Open.opens_string Try.underlying9 (by kernel_rfl)))))) (Open.opensF_cons rfl (Open.opens_struct Try.underlying54 (by kernel_rfl) (Open.opensF_cons rfl (Open.opens_int Try.underlying52 (by kernel_rfl)) (Open.opensF_cons rfl (Open.opens_int Try.underlying2 (by kernel_rfl)) (Open.opensF_one rfl (Open.opens_string Try.underlying9 (by kernel_rfl)))))) (Open.opensF_cons rfl (Open.opens_int Try.underlying3 (by kernel_rfl)) (Open.opensF_one rfl (Open.opens_int Try.underlying3 (by kernel_rfl)))))))) (Open.opensF_cons rfl (Open.opens_int Try.underlying38 (by kernel_rfl)) (Open.opensF_cons rfl (Open.opens_int Try.underlying102 (by kernel_rfl)) (Open.opensF_one rfl (Open.opens_struct Try.underlying80 (by kernel_rfl) (Open.opensF_cons rfl (Open.opens_int Try.underlying46 (by kernel_rfl)) (Open.opensF_one rfl (Open.opens_int Try.underlying46 (by kernel_rfl))))))))))))) (Open.weights_of hsz 0 rfl rfl) (Open.agg_struct Try.underlying104 (hval 0 104 v0 rfl rfl)) h0
  obtain ⟨_, _, e0, rfl, ⟨_, _, rfl, ⟨_, _, rfl, rfl, rfl⟩, ⟨_, _, rfl, rfl, ⟨_, _, rfl, ⟨_, _, rfl, rfl, ⟨_, _, rfl, ⟨_, _, rfl, rfl, ⟨_, _, rfl, rfl, rfl⟩⟩, ⟨_, _, rfl, ⟨_, _, rfl, rfl, ⟨_, _, rfl, rfl, rfl⟩⟩, ⟨_, _, rfl, rfl, rfl⟩⟩⟩⟩, ⟨_, _, rfl, rfl, ⟨_, _, rfl, rfl, ⟨_, _, rfl, rfl, rfl⟩⟩⟩⟩⟩⟩⟩ := K0
  obtain rfl : cs0 = #[.int .u8 x0_0, .int .u64 x0_1_0, .int .u64 x0_1_1, .int .u8 x0_2, .int .u8 x0_3_0, .int .u8 x0_3_1_0, .int .i64 x0_3_1_1, .string x0_3_1_2, .int .u8 x0_3_2_0, .int .i64 x0_3_2_1, .string x0_3_2_2, .int .i64 x0_3_3, .int .i64 x0_3_4, .int .u32 x0_4, .int .u8 x0_5, .int .u64 x0_6_0, .int .u64 x0_6_1] := Array.ext' e0
  clear hA0 hval0 hsz0 hsz
  refine (ReqN.walk x0_0 x0_1_0 x0_1_1 x0_2 x0_3_0 x0_3_1_0 x0_3_1_1 x0_3_1_2 x0_3_2_0 x0_3_2_1 x0_3_2_2 x0_3_3 x0_3_4 x0_4 x0_5 x0_6_0 x0_6_1 W p0_0 p0_1_0 p0_1_1 p0_2 p0_3_0 p0_3_1_0 p0_3_1_1 p0_3_1_2 p0_3_2_0 p0_3_2_1 p0_3_2_2 p0_3_3 p0_3_4 p0_4 p0_5 p0_6_0 p0_6_1).mono fun e W' ⟨he, bel⟩ => ?_
  subst he
  exact ⟨_, rfl, _, _, _, [], _, [], hW', trodAll_mk1 (shut_bool Try.underlying4 _), (trodAll_cons_mk (Below.trod laidOut (by kernel_rfl) (of_decide_eq_true (by kernel_rfl)) k0 bel lt0) trodAll_mk0), rfl, bel.frame _, fun h => by cases h⟩
theorem over : Rows.requestEncodesRow.holds Try.pinned (OpenSpec.ofChange Rows.requestEncodesSpec) :=
  OpenClaim.holds_of_wide 14 Try.f14 rfl rfl rfl rfl rfl rfl rfl ⟨rfl, rfl, rfl, rfl, rfl⟩ rfl rfl rfl rfl rfl (by kernel_rfl) Try.func14 (by kernel_rfl)
    (of_decide_eq_true (by kernel_rfl)) (by unfold Func.isWrapper; first | (rw [if_pos (by decide +kernel)]; kernel_rfl) | (rw [if_neg (by decide +kernel)]; exact ⟨rfl, rfl⟩))
    (fun os started H enc _ => lifted os started H enc)
end Go.Proofs.Ytaoacibahdbdkaa.requestEncodes
namespace Go.Proofs.Ytaoacibahdbdkaa
/-- The row. -/
theorem requestEncodes_holds : Rows.RequestEncodesSaid := requestEncodes.over
#print axioms requestEncodes_holds
end Go.Proofs.Ytaoacibahdbdkaa
