/- forest: handles as keys; entries. -/
import Derived.Test.YtojbheiicmcnjaaProg
import Derived.Test.YtojbheiicmcnjaaFrame
import Derived.WideKeyPair
import Derived.DeepKeys4
import Derived.Maps.RangeWalk
import Derived.Maps.OwnOps
import Derived.Maps.OwnSet
import Derived.WalkKit
import Derived.WalkSpells
import Derived.OwnWalk
import Derived.Lib.Hide
namespace Go.Proofs.Ytojbheiicmcnjaa.Fst
open Go.RowKit Go Go.Proofs.YtojbheiicmcnjaaW.PrintWords Go.Proofs.YtojbheiicmcnjaaW.PrintMore Go.Proofs.YtojbheiicmcnjaaW.PrintLast Go.Proofs.Ytojbheiicmcnjaa.Bts Go.Proofs.Ytojbheiicmcnjaa.Fra Go.Maps
theorem laidOut : laidOutB Try.prog = true := by kernel_rfl
theorem rowH : (30 : TypeId) < Try.prog.types.size := of_decide_eq_true (by kernel_rfl)
theorem wideH : (match Try.prog.underlying 30 with | some (.array _ _) | some (.struct _) => true | _ => false) = true := by rw [Try.underlying30]
theorem lawH : WideMaps.KeyLaw Try.prog 30 := deep_law_laid laidOut (m := 2) (by omega) rowH (by kernel_rfl) wideH
theorem law : Keyed Try.prog 30 := Keyed.of_law lawH
/-- A handle's key. -/
def kl (a b : Int) : Lit := .string (keyBytes [.int .u64 a, .int .u64 b])
theorem u64_wf {a : Int} (h0 : 0 ≤ a) (h1 : a ≤ 18446744073709551615) : (Lit.int .u64 a).wf = true := by unfold Lit.wf; simp only [decide_eq_true_eq, Bool.and_eq_true]; exact ⟨h0, h1⟩
theorem kl_of {a b : Int} (wa : (Lit.int .u64 a).wf = true) (wb : (Lit.int .u64 b).wf = true) : keyOf Try.prog 30 (.agg #[.int .u64 a, .int .u64 b]) = some (kl a b) := by
  have hu := Try.underlying30
  have hkt : Try.prog.keyTypeAt (Try.prog.types.size + 1) 30 = true := by kernel_rfl
  have hc : Try.prog.cellsOf 30 = 2 := by kernel_rfl
  have hc6 : Try.prog.cellsOf 28 = 1 := by kernel_rfl
  have hu6 := Try.underlying28
  obtain ⟨m, hm⟩ : ∃ m, Try.prog.types.size = m + 1 := ⟨Try.prog.types.size - 1, by kernel_rfl⟩
  unfold keyOf
  simp only [hu]
  rw [if_pos (by
    have h1 : Try.prog.keyType 30 = true := hkt
    simp [h1, Value.formed, hu, hc]), hm]
  unfold Program.keyLits
  simp only [hu, Value.cells]
  rw [if_pos (by rw [hc]; exact ⟨rfl, by simp⟩)]
  simp [Program.keyLits, hc6, hu6, wa, wb, kl]
end Go.Proofs.Ytojbheiicmcnjaa.Fst
