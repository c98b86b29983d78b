/- forest's law: the chapter's example. -/
import Derived.Test.YtojbheiicmcnjaaFsM
namespace Go.Proofs.Ytojbheiicmcnjaa.Fst
open Go.RowKit Go Go.Proofs.YtojbheiicmcnjaaW.PrintWords Go.Proofs.YtojbheiicmcnjaaW.PrintMore Go.Proofs.YtojbheiicmcnjaaW.PrintLast Go.Proofs.Ytojbheiicmcnjaa.Bts Go.Proofs.Ytojbheiicmcnjaa.Fra Go.Maps
theorem handle_any (n : Int) (w : World) : Calls Try.prog 9 #[.int .i64 n] w fun e w' => e = .returned (H2 0 (IntKind.u64.wrap n)) ∧ Below w.heap.size w w' := by
  have hk := blk_new w (.cells #[.int .u64 0, .int .u64 0] 30)
  have f0 := blk_frozen hk 0
  have f1 := blk_frozen hk 1
  clear hk
  go_enter Try.func9, Try.ntmps9
  go_wp2
  refine bodyPost_ret (results_cell_row rfl _ _ w.heap.size 30 #[.int .u64 0, .int .u64 (IntKind.u64.wrap n)] (0, 0) _ rfl (blk_new w _) Try.underlying30 rfl (by kernel_rfl)) rfl ?_
  exact ⟨rfl, below_alloc (Below.refl _ _) _⟩
theorem u64_id {n : Int} (h0 : 0 ≤ n) (h1 : n ≤ 1000000) : IntKind.u64.wrap n = n := by rw [IntKind.wrap_u64]; omega
theorem handle_is (n : Int) (w : World) (h0 : 0 ≤ n) (h1 : n ≤ 1000000) : Calls Try.prog 9 #[.int .i64 n] w fun e w' => e = .returned (H2 0 n) ∧ Below w.heap.size w w' := by
  have := handle_any n w
  rwa [u64_id h0 h1] at this
def ex1 : E := ⟨0, 1, 5, 31, 7, 0, 0, 0⟩
def ex2 : E := ⟨0, 2, 5, 1, 8, 0, 1, 1⟩
theorem U1 : U64 1 := ⟨by decide, by decide⟩
theorem U2 : U64 2 := ⟨by decide, by decide⟩
theorem ex_rest : ([ex1, ex2].filter fun e => !underU [ex1, ex2] 0 1 e.hi e.lo) = [] := by decide +kernel
theorem ex_all : ([ex1, ex2].filter fun e => underU [ex1, ex2] 0 1 e.hi e.lo) = [ex1, ex2] := by decide +kernel
theorem right31 : rightU 31 = true := by decide +kernel
theorem right1 : rightU 1 = true := by decide +kernel
theorem att_ex : att 31 1 = (1, 0) := by decide +kernel
theorem fnd_ex : fnd [ex1] 0 1 7 = (ex1, 0) := by decide +kernel
theorem find_ex : find [ex1] 0 2 = none := by decide +kernel
theorem find_ex2 : (find [ex1, ex2] 0 1).isSome = true := by decide +kernel
theorem root_ex {g b : Nat} (w : World) (h : FS w g b 0 [] 0) : Calls Try.prog 8 #[.pointer (some ⟨g, 0, none⟩), .agg #[.int .u64 0, .int .u64 1, .int .i64 5, .int .u8 31, .int .u32 7, .int .u64 0, .int .u64 0, .int .i64 0]] w fun e w' => e = .returned (.int .i64 0) ∧ FS w' g b 1 [ex1] 1 ∧ Fl g b w w' :=
  root_ok 1 5 31 7 0 0 0 w h U1 (by decide) rfl right31 (by decide) (by decide)
theorem del_ex {g b : Nat} (w : World) (h : FS w g b 1 [ex1] 1) : Calls Try.prog 12 #[.pointer (some ⟨g, 0, none⟩), H2 0 1, .int .u32 7, H2 0 2, .int .u32 8, .int .u8 1] w fun e w' => e = .returned (.int .i64 0) ∧ FS w' g b 3 [ex1, ex2] 2 ∧ Fl g b w w' :=
  del_ok 1 7 2 8 1 w h U1 U2 ex1 fnd_ex att_ex (by decide) find_ex right1 (by decide) (by decide)
theorem rev_ex {g b : Nat} (w : World) (h : FS w g b 3 [ex1, ex2] 2) : Calls Try.prog 17 #[.pointer (some ⟨g, 0, none⟩), H2 0 1] w fun e w' => ∃ q c, e = .returned (.slice (some ⟨q, 0, none⟩) 2 c) ∧ w'.cell? ⟨q, 9, none⟩ = some (.int .u64 2) ∧ w'.cell? ⟨q, 12, none⟩ = some (.int .u32 8) ∧ 2 ≤ c ∧ FS w' g b 3 [] 2 ∧ Fl g b w w' := by
  refine (revoke_ok 1 w h U1 find_ex2 (by decide) (by decide)).mono ?_
  intro e w' hp
  unfold RPost at hp
  obtain ⟨v, rfl, hE, hF, hf⟩ := hp
  rw [ex_all] at hE
  rw [ex_rest] at hF
  obtain ⟨q, c, cur, rfl, _, hh, hc, _, _, hcell⟩ := hE.open_ (by simp)
  exact ⟨q, c, rfl, (blk_cell hh 9).trans (hcell 1 ex2 rfl 1 (by decide)), (blk_cell hh 12).trans (hcell 1 ex2 rfl 4 (by decide)), hc, hF, hf⟩
theorem fl_below {g b : Nat} {w w' : World} {B : Nat} (h : Fl g b w w') (hg : B ≤ g) (hb : B ≤ b) (hB : B ≤ w.heap.size) : Below B w w' := Fr.below h (fun j hj => by rcases hj with rfl | rfl <;> assumption) hB
set_option maxHeartbeats 4000000 in
set_option maxRecDepth 100000 in
theorem lives_calls (W : World) : Calls Try.prog 6 #[] W fun e W' => e = .returned (.bool true) ∧ Below W.heap.size W W' := by
  go_enter Try.func6, Try.ntmps6
  go_wp2_with (first
    | (go_at_call 19; go_loud (refine (taken_is 0 2 false _ HF.out ⟨by decide, by decide⟩ U2 rfl).mono ?_; rintro e w1 ⟨rfl, hb⟩; have HFn := Lib.hid (HF.out.below hb); have HBn := Lib.hid (HB.out.trans (hb.mono HB.out.size)); clear HF HB hb; have HF := HFn; have HB := HBn; clear HFn HBn))
    | (go_at_call 17; go_loud (refine (rev_ex _ HF.out).mono ?_; rintro e w1 ⟨ad, c, rfl, x1, x4, hc2, hF, hf⟩; have HBn := Lib.hid (HB.out.trans (fl_below hf HGB.out.1 HGB.out.2 HB.out.size)); clear HF HB; have HF := Lib.hid hF; have HB := HBn; clear HBn hF hf))
    | (go_at_call 12; go_loud (refine (del_ex _ HF.out).mono ?_; rintro e w1 ⟨rfl, hF, hf⟩; have HBn := Lib.hid (HB.out.trans (fl_below hf HGB.out.1 HGB.out.2 HB.out.size)); clear HF HB; have HF := Lib.hid hF; have HB := HBn; clear HBn hF hf))
    | (go_at_call 8; go_loud (refine (root_ex _ HF.out).mono ?_; rintro e w1 ⟨rfl, hF, hf⟩; have HBn := Lib.hid (HB.out.trans (fl_below hf HGB.out.1 HGB.out.2 HB.out.size)); clear HF HB; have HF := Lib.hid hF; have HB := HBn; clear HBn hF hf))
    | (go_at_call 9; go_loud (refine (handle_is _ _ (by decide) (by decide)).mono ?_; rintro e w1 ⟨rfl, hb⟩; have HFn := Lib.hid (HF.out.below hb); have HBn := Lib.hid (HB.out.trans (hb.mono HB.out.size)); clear HF HB hb; have HF := HFn; have HB := HBn; clear HFn HBn))
    | (go_at_call 7; go_loud (refine (new_calls _).mono ?_; rintro e w1 ⟨g, b, rfl, hF, hg, hbb, hB⟩; have HF := Lib.hid hF; have HGB := Lib.hid (And.intro hg hbb); have HB := Lib.hid hB; clear hF hg hbb hB)))
  go_ret
  exact ⟨rfl, HB.out⟩
end Go.Proofs.Ytojbheiicmcnjaa.Fst
