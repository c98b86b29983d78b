/- ledger: bills, as contracts. -/
import Derived.Test.YtaoacibahdbdkaaProg
import Derived.Test.YtaoacibahdbdkaaWLast
import Derived.WalkKit
import Derived.WalkSpells
import Derived.OwnWalk
import Derived.KernelRfl
import Derived.Lib.Hide
import Derived.Test.YtaoacibahdbdkaaFrame
import Derived.Deep.QuietTactic
import Derived.BigQuiet
import Derived.Deep.LoopGhost
import Derived.Laws.BitsAllLaws
import Derived.Outline
namespace Go.Proofs.Ytaoacibahdbdkaa.Led
open Go.RowKit Go Go.Proofs.YtaoacibahdbdkaaW.PrintWords Go.Proofs.YtaoacibahdbdkaaW.PrintMore Go.Proofs.YtaoacibahdbdkaaW.PrintLast Go.Proofs.Ytaoacibahdbdkaa.Bts Go.Proofs.Ytaoacibahdbdkaa.Fra
abbrev bill (a b c : Int) : Value := .agg #[.int .i64 a, .int .i64 b, .int .i64 c]
theorem right_calls (a b c : Int) (w : World) : Calls Try.prog 21 #[bill a b c] w fun e w' => e = .returned (.bool (decide (0 ≤ a) && decide (0 ≤ b) && decide (0 ≤ c))) ∧ Below w.heap.size w w' := by
  go_enter Try.func21, Try.ntmps21
  by_cases ha : 0 ≤ a <;> by_cases hb : 0 ≤ b <;> by_cases hc : 0 ≤ c
  all_goals (
    go_wp2
    go_ret
    refine ⟨?_, below_alloc (Below.refl _ _) _⟩
    simp [ha, hb, hc])
theorem within_calls (a b c x y z : Int) (w : World) : Calls Try.prog 20 #[bill a b c, bill x y z] w fun e w' => e = .returned (.bool (decide (a ≤ x) && decide (b ≤ y) && decide (c ≤ z))) ∧ Below w.heap.size w w' := by
  go_enter Try.func20, Try.ntmps20
  by_cases ha : a ≤ x <;> by_cases hb : b ≤ y <;> by_cases hc : c ≤ z
  all_goals (
    go_wp2
    go_ret
    refine ⟨?_, below_alloc (below_alloc (Below.refl _ _) _) _⟩
    simp [ha, hb, hc])
theorem blk_new1 (w : World) (o1 o2 : Obj) : ((w.alloc o1).alloc o2).heap[w.heap.size + 1]? = some o2 := by
  have h := blk_new (w.alloc o1) o2
  have e : (w.alloc o1).heap.size = w.heap.size + 1 := by simp
  rwa [e] at h
theorem blk_new2 (w : World) (o1 o2 o3 : Obj) : (((w.alloc o1).alloc o2).alloc o3).heap[w.heap.size + 2]? = some o3 := by
  have h := blk_new1 (w.alloc o1) o2 o3
  have e : (w.alloc o1).heap.size = w.heap.size + 1 := by simp
  rwa [e] at h
abbrev wi (a : Int) : Int := wrap64 a
theorem minus_calls (a b c x y z : Int) (w : World) : Calls Try.prog 19 #[bill a b c, bill x y z] w fun e w' => e = .returned (bill (wi (a - x)) (wi (b - y)) (wi (c - z))) ∧ Below w.heap.size w w' := by
  go_enter Try.func19, Try.ntmps19
  go_wp2
  refine bodyPost_ret (results_cell_row rfl _ _ (w.heap.size + 2) 23 #[.int .i64 (wi (a - x)), .int .i64 (wi (b - y)), .int .i64 (wi (c - z))] (0, 0) _ rfl (blk_new2 w _ _ _) Try.underlying23 rfl (by kernel_rfl)) rfl ?_
  exact ⟨rfl, below_alloc (below_alloc (below_alloc (Below.refl _ _) _) _) _⟩
theorem three_calls (a b c : Int) (w : World) : Calls Try.prog 17 #[bill a b c] w fun e w' => e = .returned (bill a b c) ∧ Below w.heap.size w w' := by
  go_enter Try.func17, Try.ntmps17
  go_wp2
  refine bodyPost_ret (results_cell_row rfl _ _ (w.heap.size + 1) 26 #[.int .i64 a, .int .i64 b, .int .i64 c] (0, 0) _ rfl (blk_new1 w _ _) Try.underlying26 rfl (by kernel_rfl)) rfl ?_
  exact ⟨rfl, below_alloc (below_alloc (Below.refl _ _) _) _⟩
abbrev kBill : Kd (Int × Int × Int) := Kd.pair (Kd.int .i64) (Kd.pair (Kd.int .i64) (Kd.int .i64))
theorem at_B {w : World} {A : Option Addr} {n : Nat} {l : List (Int × Int × Int)} (h : kBill.C w A n l) (i : Nat) (h1 : i < n) (x y z : Int) (hx : l.getD i (0, 0, 0) = (x, y, z)) :
    ∃ ad, A = some ad ∧ w.cell? (ad.add (i * 3)) = some (.int .i64 x) ∧ w.cell? ⟨(ad.add (i * 3)).block, (ad.add (i * 3)).off + 1, none⟩ = some (.int .i64 y) ∧ w.cell? ⟨(ad.add (i * 3)).block, (ad.add (i * 3)).off + 2, none⟩ = some (.int .i64 z) := by
  obtain ⟨ad, c, e, _, hK, hc⟩ := Kd.C_get h (0, 0, 0) (i : Int) (by omega) (by omega)
  rw [Int.toNat_natCast] at hK hc
  rw [hx] at hK
  obtain ⟨_, _, rfl, rfl, _, _, rfl, rfl, rfl⟩ := hK
  have hc : ∀ j u, [Value.int .i64 x, Value.int .i64 y, Value.int .i64 z][j]? = some u → w.cell? (ad.add (i * 3 + j)) = some u := hc
  exact ⟨ad, e, hc 0 _ rfl, by rw [← add_field _ _ 1 (by omega)]; exact hc 1 _ rfl, by rw [← add_field _ _ 2 (by omega)]; exact hc 2 _ rfl⟩
/-- Bills added to one. -/
def sumB (l : List (Int × Int × Int)) (a : Int × Int × Int) : Int × Int × Int := l.foldl (fun a x => (wi (a.1 + x.1), wi (a.2.1 + x.2.1), wi (a.2.2 + x.2.2))) a
theorem sumB_take (l : List (Int × Int × Int)) (j : Nat) (h : j < l.length) (a : Int × Int × Int) (x y z : Int) (hx : l.getD j (0, 0, 0) = (x, y, z)) :
    sumB (l.take (j + 1)) a = (wi ((sumB (l.take j) a).1 + x), wi ((sumB (l.take j) a).2.1 + y), wi ((sumB (l.take j) a).2.2 + z)) := by
  have e : l.getD j (0, 0, 0) = l[j] := by simp [List.getD, h]
  rw [← List.take_append_getElem h, ← e, hx, sumB, List.foldl_append]
  rfl
end Go.Proofs.Ytaoacibahdbdkaa.Led
