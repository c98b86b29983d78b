/- ledger: Plus, as a contract. -/
import Derived.Test.YtaoacibahdbdkaaLedB
namespace Go.Proofs.Ytaoacibahdbdkaa.Led
open Go.RowKit Go Go.Proofs.YtaoacibahdbdkaaW.PrintWords Go.Proofs.YtaoacibahdbdkaaW.PrintMore Go.Proofs.YtaoacibahdbdkaaW.PrintLast Go.Proofs.Ytaoacibahdbdkaa.Bts Go.Proofs.Ytaoacibahdbdkaa.Fra
set_option maxHeartbeats 1000000 in
theorem plus_calls (A : Option Addr) (c0 : Nat) (l : List (Int × Int × Int)) (a b c : Int) (w : World) (h : kBill.C w A l.length l) (hl : l.length ≤ 9223372036854775807) :
    Calls Try.prog 18 #[bill a b c, .slice A l.length c0] w fun e w' => e = .returned (bill (sumB l (a, b, c)).1 (sumB l (a, b, c)).2.1 (sumB l (a, b, c)).2.2) ∧ Below w.heap.size w w' := by
  have H := Lib.hid h
  clear h
  go_enter Try.func18, Try.ntmps18
  go_wp2
  go_loopw [9] (fun i wr => ∃ (j : Nat) (r s t : Int), j ≤ l.length ∧ i = .int .i64 j ∧ sumB (l.take j) (a, b, c) = (r, s, t) ∧ Below w.heap.size w wr ∧ wr.heap[w.heap.size]? = some (.cells #[.int .i64 r, .int .i64 s, .int .i64 t] 23 (0, 0)) ∧ wr.heap[w.heap.size + 1]? = some (.cells #[.int .i64 0, .int .i64 0, .int .i64 0] 23 (0, 0))) (fun i _ => l.length - (intOf i).toNat)
  case atStart => exact ⟨0, a, b, c, by omega, rfl, rfl, below_alloc (below_alloc (Below.refl _ _) _) _, blk_alloc (blk_new w _) _, blk_new1 w _ _⟩
  case round =>
    obtain ⟨j, r, s, t, hj, rfl, hs, hB, hV, hZ⟩ := hrel
    have HS := Lib.hid hs
    have HB := Lib.hid hB
    have HV := Lib.hid hV
    have HZ := Lib.hid hZ
    have v0 : wr.cell? ⟨w.heap.size, 0, none⟩ = some (.int .i64 r) := blk_cell hV 0
    have v1 : wr.cell? ⟨w.heap.size, 1, none⟩ = some (.int .i64 s) := blk_cell hV 1
    have v2 : wr.cell? ⟨w.heap.size, 2, none⟩ = some (.int .i64 t) := blk_cell hV 2
    have f0 := blk_frozen hV 0
    have f1 := blk_frozen hV 1
    have f2 := blk_frozen hV 2
    have y0 : wr.cell? ⟨w.heap.size + 1, 0, none⟩ = some (.int .i64 0) := blk_cell hZ 0
    have y1 : wr.cell? ⟨w.heap.size + 1, 1, none⟩ = some (.int .i64 0) := blk_cell hZ 1
    have y2 : wr.cell? ⟨w.heap.size + 1, 2, none⟩ = some (.int .i64 0) := blk_cell hZ 2
    have z0 := blk_frozen hZ 0
    have z1 := blk_frozen hZ 1
    have z2 := blk_frozen hZ 2
    have hlw : w.heap.size + 1 < wr.heap.size := blk_lt hZ
    have hlw0 : w.heap.size < wr.heap.size := blk_lt hV
    clear hs hB hV hZ
    by_cases hlt : j < l.length
    · obtain ⟨x, y, z, hx⟩ : ∃ x y z, l.getD j (0, 0, 0) = (x, y, z) := ⟨_, _, _, rfl⟩
      obtain ⟨ad, rfl, x0, x1, x2⟩ := at_B (Kd.C_below H.out HB.out) j hlt x y z hx
      have HT := Lib.hid (sumB_take l j hlt (a, b, c) x y z hx)
      clear hx
      go_wp2

      go_roundw
      case rel =>
        have hT := HT.out
        rw [HS.out] at hT
        refine ⟨j + 1, _, _, _, by omega, by simp, hT, below_alloc (Fr.below (S := fun k => w.heap.size ≤ k) ((((Fr.of_below HB.out (fun k h => .inl h)).put (.inl (Nat.le_refl _)) _).put (.inl (Nat.le_refl _)) _).put (.inl (Nat.le_refl _)) _) (fun k h => h) (Nat.le_refl _)) _, blk_alloc (ret3 HV.out _ _ _) _, blk_alloc (blk_far (blk_far (blk_far HZ.out (by simp) _) (by simp) _) (by simp) _) _⟩
      case measure => simp [intOf]; omega
    · obtain rfl : j = l.length := by omega
      have hs := HS.out
      rw [List.take_length] at hs
      have HS' := Lib.hid hs
      clear hs
      go_wp2
      refine bodyPost_ret (results_cell_row rfl _ _ (w.heap.size + 1) 23 #[.int .i64 r, .int .i64 s, .int .i64 t] (0, 0) _ rfl (ret3 HZ.out _ _ _) Try.underlying23 rfl (by kernel_rfl)) rfl ?_
      exact ⟨by rw [HS'.out], Fr.below (S := fun k => w.heap.size ≤ k) ((((Fr.of_below HB.out (fun k h => .inl h)).put (.inl (Nat.le_succ _)) _).put (.inl (Nat.le_succ _)) _).put (.inl (Nat.le_succ _)) _) (fun k h => h) (Nat.le_refl _)⟩
end Go.Proofs.Ytaoacibahdbdkaa.Led
