/- ledger: the law LedgerActs: a bill that may not be. -/
import Derived.Test.YtaoacibahdbdkaaLedR
import Derived.Test.YtaoacibahdbdkaaLedN
namespace Go.Proofs.Ytaoacibahdbdkaa.LedW
open Go.RowKit Go Go.Proofs.YtaoacibahdbdkaaW.PrintWords Go.Proofs.YtaoacibahdbdkaaW.PrintMore Go.Proofs.YtaoacibahdbdkaaW.PrintLast Go.Proofs.Ytaoacibahdbdkaa.Bts Go.Proofs.Ytaoacibahdbdkaa.Fra Go.Maps Go.Proofs.Ytaoacibahdbdkaa.Led
def okN (x : Int) : Bool := decide (0 ≤ x) && decide (x ≤ topN)
theorem good_iff (a b c : Int) : (rightB a b c && withinB a b c topN topN topN) = (okN a && okN b && okN c) := by
  unfold rightB withinB okN
  generalize decide (0 ≤ a) = a1
  generalize decide (0 ≤ b) = a2
  generalize decide (0 ≤ c) = a3
  generalize decide (a ≤ topN) = b1
  generalize decide (b ≤ topN) = b2
  generalize decide (c ≤ topN) = b3
  revert a1 a2 a3 b1 b2 b3
  decide
theorem okN_true {x : Int} (h : okN x = true) : 0 ≤ x ∧ x ≤ 1099511627776 := by
  unfold okN at h
  simp only [Bool.and_eq_true, decide_eq_true_eq] at h
  exact h
theorem okN_false {x : Int} (h : okN x = false) : x < 0 ∨ (0 ≤ x ∧ 1099511627776 < x) := by
  unfold okN topN at h
  simp only [Bool.and_eq_false_iff, decide_eq_false_iff_not] at h
  omega
set_option maxHeartbeats 1000000 in
set_option maxRecDepth 100000 in
theorem long_ (m1 m2 m3 : Int) (A : Option Addr) (n c : Nat) (w : World) (hn : n ≤ 140737488351232) (hl : 100 < n) :
    Calls Try.prog 4 #[bill m1 m2 m3, .slice A n c] w fun e w' => e = .returned (.bool true) ∧ Below w.heap.size w w' := by
  have hl' : (100 : Int) < (n : Int) := by omega
  go_enter Try.func4, Try.ntmps4
  go_wp2_with (first
    | (go_at_call 16; go_loud (have _t := HB.out; refine (lives_calls _).mono ?_; rintro e w2 ⟨rfl, hB2⟩; have HB2 := Lib.hid (below_step HB.out hB2); clear hB2))
    | (go_at_call 16; go_loud (refine (lives_calls _).mono ?_; rintro e w1 ⟨rfl, hB1⟩; have HB := Lib.hid (below_step (below_alloc (Below.refl w.heap.size w) _) hB1); clear hB1)))
  go_ret
  exact ⟨rfl, HB2.out⟩
set_option maxHeartbeats 2000000 in
set_option maxRecDepth 100000 in
theorem bad (m1 m2 m3 : Int) (A : Option Addr) (n c : Nat) (w : World) (hl : n ≤ 100) (hb : (okN m1 && okN m2 && okN m3) = false) :
    Calls Try.prog 4 #[bill m1 m2 m3, .slice A n c] w fun e w' => e = .returned (.bool true) ∧ Below w.heap.size w w' := by
  have hl' : (n : Int) ≤ 100 := by omega
  have HBAD := Lib.hid hb
  have HN := Lib.hid (show (rightB m1 m2 m3 && withinB m1 m2 m3 topN topN topN) = false by rw [good_iff]; exact hb)
  clear hb
  go_enter Try.func4, Try.ntmps4
  go_wp2_with (first
    | (go_at_call 17; go_loud (refine (three_calls _ _ _ _).mono ?_; rintro e w3 ⟨rfl, hB3⟩; have HB3 := Lib.hid (below_step HB2.out hB3); clear hB3))
    | (go_at_call 22; go_loud (refine (new_bad _ _ _ _ HN.out).mono ?_; rintro e w2 ⟨rfl, hB2⟩; have HB2 := Lib.hid (below_step HB.out hB2); have hp2 := blk_below HP.out hB2; have p0 := blk_cell hp2 0; have p1 := blk_cell hp2 1; have p2 := blk_cell hp2 2; clear hB2 hp2))
    | (go_at_call 16; go_loud (refine (lives_calls _).mono ?_; rintro e w1 ⟨rfl, hB1⟩; have HB := Lib.hid (below_step (below_alloc (Below.refl w.heap.size w) _) hB1); have HP := Lib.hid (blk_below (blk_new w _) hB1); have p0 := blk_cell HP.out 0; have p1 := blk_cell HP.out 1; have p2 := blk_cell HP.out 2; clear hB1)))
  go_loopw [47] (fun i wr => ∃ j : Nat, i = .int .i64 j ∧ j ≤ 3 ∧ Below w.heap.size w wr ∧ (0 < j → okN m1 = true) ∧ (1 < j → okN m2 = true) ∧ (2 < j → okN m3 = true)) (fun i _ => 3 - (intOf i).toNat)
  case atStart => exact ⟨0, rfl, by omega, below_alloc HB3.out _, by omega, by omega, by omega⟩
  case round =>
    obtain ⟨j, rfl, hj, hB, g1, g2, g3⟩ := hrel
    have HB := Lib.hid hB
    clear hB
    rcases (by omega : j = 0 ∨ j = 1 ∨ j = 2 ∨ j = 3) with rfl | rfl | rfl | rfl
    · have G1 := Lib.hid g1
      have G2 := Lib.hid g2
      have G3 := Lib.hid g3
      clear g1 g2 g3
      have ix : ∀ (xx yy zz : Int) (V : World), (Instr.index 26 (bill xx yy zz) (.int .i64 0)).run Try.prog V = .ok (.int .i64 xx) V := fun _ _ _ _ => by kernel_rfl
      cases hok : okN m1
      · rcases okN_false hok with h | ⟨h, h2⟩
        all_goals (
          clear hok
          go_wp2
          go_ret
          exact ⟨rfl, HB.out⟩)
      · obtain ⟨h, h2⟩ := okN_true hok
        have HOK := Lib.hid hok
        clear hok
        go_wp2
        go_roundw
        case rel => exact ⟨1, by simp, by omega, HB.out, fun _ => (by first | exact HOK.out | trivial), by omega, by omega⟩
        case measure => simp [intOf]
    · have G1 := Lib.hid g1
      have G2 := Lib.hid g2
      have G3 := Lib.hid g3
      clear g1 g2 g3
      have ix : ∀ (xx yy zz : Int) (V : World), (Instr.index 26 (bill xx yy zz) (.int .i64 1)).run Try.prog V = .ok (.int .i64 yy) V := fun _ _ _ _ => by kernel_rfl
      cases hok : okN m2
      · rcases okN_false hok with h | ⟨h, h2⟩
        all_goals (
          clear hok
          go_wp2
          go_ret
          exact ⟨rfl, HB.out⟩)
      · obtain ⟨h, h2⟩ := okN_true hok
        have HOK := Lib.hid hok
        clear hok
        go_wp2
        go_roundw
        case rel => exact ⟨2, by simp, by omega, HB.out, fun _ => G1.out (by omega), fun _ => (by first | exact HOK.out | trivial), by omega⟩
        case measure => simp [intOf]
    · have G1 := Lib.hid g1
      have G2 := Lib.hid g2
      have G3 := Lib.hid g3
      clear g1 g2 g3
      have ix : ∀ (xx yy zz : Int) (V : World), (Instr.index 26 (bill xx yy zz) (.int .i64 2)).run Try.prog V = .ok (.int .i64 zz) V := fun _ _ _ _ => by kernel_rfl
      cases hok : okN m3
      · rcases okN_false hok with h | ⟨h, h2⟩
        all_goals (
          clear hok
          go_wp2
          go_ret
          exact ⟨rfl, HB.out⟩)
      · obtain ⟨h, h2⟩ := okN_true hok
        have HOK := Lib.hid hok
        clear hok
        go_wp2
        go_roundw
        case rel => exact ⟨3, by simp, by omega, HB.out, fun _ => G1.out (by omega), fun _ => G2.out (by omega), fun _ => (by first | exact HOK.out | trivial)⟩
        case measure => simp [intOf]
    · have hb := HBAD.out
      rw [g1 (by omega), g2 (by omega), g3 (by omega)] at hb
      cases hb
end Go.Proofs.Ytaoacibahdbdkaa.LedW
