/- arena: Live, Room, Refs, New, as contracts. -/
import Derived.Test.YtnipbfhfaefieaaArnA
import Derived.Laws.LoneSync
namespace Go.Proofs.Ytnipbfhfaefieaa.Arn
open Go.RowKit Go Go.Proofs.YtnipbfhfaefieaaW.PrintWords Go.Proofs.YtnipbfhfaefieaaW.PrintMore Go.Proofs.YtnipbfhfaefieaaW.PrintLast Go.Proofs.Ytnipbfhfaefieaa.Bts Go.Proofs.Ytnipbfhfaefieaa.Fra
theorem load_calls (p : Addr) (x : Int) (w : World) (hp : p.spot = none) (hc : w.cell? p = some (.int .i64 x)) : Calls Try.prog 67 #[.pointer (some p)] w fun e w' => e = .returned (.int .i64 x) ∧ w' = w := by
  obtain ⟨b, o, q⟩ := p
  obtain rfl : q = none := hp
  have hl := run_call_load (P := Try.prog) Try.func94 (by kernel_rfl) (by kernel_rfl) (by kernel_rfl) .i64 (by kernel_rfl) hc
  go_enter Try.func67, Try.ntmps67
  go_wp2
  go_ret
  exact ⟨rfl, rfl⟩
theorem add_calls (p : Addr) (x y : Int) (w : World) (hp : p.spot = none) (hc : w.cell? p = some (.int .i64 x)) (hz : w.frozen? p = false) : Calls Try.prog 66 #[.pointer (some p), .int .i64 y] w fun e w' => e = .returned (.int .i64 (wrap64 (x + y))) ∧ w' = w.setCell p (.int .i64 (wrap64 (x + y))) := by
  obtain ⟨b, o, q⟩ := p
  obtain rfl : q = none := hp
  have hl := run_call_add (P := Try.prog) Try.func93 (by kernel_rfl) (by kernel_rfl) (by kernel_rfl) .i64 (by kernel_rfl) (y := y) (s := wrap64 (x + y)) hc hz (by simp [go_sem, wrap64, IntKind.wrap_i64])
  go_enter Try.func66, Try.ntmps66
  go_wp2
  go_ret
  exact ⟨rfl, rfl⟩
theorem live_nil (w : World) : Calls Try.prog 22 #[.pointer none] w fun e w' => e = .returned (.int .i64 0) ∧ w' = w := by
  go_enter Try.func22, Try.ntmps22
  go_wp2
  go_ret
  exact ⟨rfl, rfl⟩
theorem room_nil (w : World) : Calls Try.prog 25 #[.pointer none] w fun e w' => e = .returned (.int .i64 0) ∧ w' = w := by
  go_enter Try.func25, Try.ntmps25
  go_wp2
  go_ret
  exact ⟨rfl, rfl⟩
section
variable {base a gs cs : Nat} {vf : Value} {sl : List Slot} {fr : List Int} {live most : Int}
theorem live_calls (w : World) (h : RawA w base a gs cs vf sl fr live most) : Calls Try.prog 22 #[.pointer (some ⟨a, 0, none⟩)] w fun e w' => e = .returned (.int .i64 live) ∧ w' = w := by
  have p2 := blk_cell h.obj 2
  have H := Lib.hid h
  clear h
  go_enter Try.func22, Try.ntmps22
  go_wp2_with (go_at_call 67; go_loud (refine (load_calls _ live _ rfl p2).mono ?_; rintro e w1 ⟨rfl, rfl⟩))
  go_ret
  exact ⟨rfl, rfl⟩
theorem room_calls (w : World) (h : RawA w base a gs cs vf sl fr live most) : Calls Try.prog 25 #[.pointer (some ⟨a, 0, none⟩)] w fun e w' => e = .returned (.int .i64 (wrap64 (most - live))) ∧ Below w.heap.size w w' := by
  have p3 := blk_cell h.obj 3
  have hl := fun n => live_calls (w.drewN n) (h.kept (Fr.of_new (S := fun _ => False) (pw_below_drewN (Below.refl _ _) n)) id id (fun _ _ => id))
  have H := Lib.hid h
  clear h
  go_enter Try.func25, Try.ntmps25
  go_wp2
  go_quiet (exact Calls.quiet_of_same (hl _))
  go_wp2
  go_ret
  exact ⟨rfl, pw_below_drewN (Below.refl _ _) _⟩
theorem refs_nil (i : Int) (w : World) : Calls Try.prog 26 #[.pointer none, .int .i64 i] w fun e w' => e = .returned (.int .i64 0) ∧ Below w.heap.size w w' := by
  go_enter Try.func26, Try.ntmps26
  go_wp2_with (go_at_call 68; go_loud (refine (is_nil _ _).mono ?_; rintro e w1 ⟨rfl, hB⟩))
  go_ret
  exact ⟨rfl, hB⟩
theorem keep_nil (i : Int) (w : World) : Calls Try.prog 27 #[.pointer none, .int .i64 i] w fun e w' => e = .returned (.int .i64 4) ∧ Below w.heap.size w w' := by
  go_enter Try.func27, Try.ntmps27
  go_wp2_with (go_at_call 68; go_loud (refine (is_nil _ _).mono ?_; rintro e w1 ⟨rfl, hB⟩))
  go_ret
  exact ⟨rfl, hB⟩
theorem drop_nil (i : Int) (w : World) : Calls Try.prog 23 #[.pointer none, .int .i64 i] w fun e w' => e = .returned (.int .i64 4) ∧ Below w.heap.size w w' := by
  go_enter Try.func23, Try.ntmps23
  go_wp2_with (go_at_call 68; go_loud (refine (is_nil _ _).mono ?_; rintro e w1 ⟨rfl, hB⟩))
  go_ret
  exact ⟨rfl, hB⟩
/-- Is a number a live cell's? -/
def isB (sl : List Slot) (i : Int) : Bool := decide (0 < i) && (decide (i < sl.length) && decide (0 < (sl.getD i.toNat nob).r))
theorem is_raw (i : Int) (w : World) (h : RawA w base a gs cs vf sl fr live most) (hs : sl.length ≤ 1000000000) : Calls Try.prog 68 #[.pointer (some ⟨a, 0, none⟩), .int .i64 i] w fun e w' => e = .returned (.bool (isB sl i)) ∧ Below w.heap.size w w' := is_calls i w h hs
theorem refs_none (i : Int) (w : World) (h : RawA w base a gs cs vf sl fr live most) (hs : sl.length ≤ 1000000000) (hi : isB sl i = false) :
    Calls Try.prog 26 #[.pointer (some ⟨a, 0, none⟩), .int .i64 i] w fun e w' => e = .returned (.int .i64 0) ∧ Below w.heap.size w w' := by
  have HI := Lib.hid (is_raw i w h hs)
  rw [hi] at HI
  clear h hi
  go_enter Try.func26, Try.ntmps26
  go_wp2_with (go_at_call 68; go_loud (refine HI.out.mono ?_; rintro e w1 ⟨rfl, hB⟩))
  go_ret
  exact ⟨rfl, hB⟩
theorem drop_none (i : Int) (w : World) (h : RawA w base a gs cs vf sl fr live most) (hs : sl.length ≤ 1000000000) (hi : isB sl i = false) :
    Calls Try.prog 23 #[.pointer (some ⟨a, 0, none⟩), .int .i64 i] w fun e w' => e = .returned (.int .i64 4) ∧ Below w.heap.size w w' := by
  have HI := Lib.hid (is_raw i w h hs)
  rw [hi] at HI
  clear h hi
  go_enter Try.func23, Try.ntmps23
  go_wp2_with (go_at_call 68; go_loud (refine HI.out.mono ?_; rintro e w1 ⟨rfl, hB⟩))
  go_ret
  exact ⟨rfl, hB⟩
theorem isB_at {k : Nat} {s : Slot} (hk : sl[k]? = some s) (h0 : 0 < k) (hr : 0 < s.r) : isB sl (k : Int) = true := by
  have hl : k < sl.length := (List.getElem?_eq_some_iff.1 hk).1
  have hg : sl.getD k nob = s := by simp [List.getD, hk]
  unfold isB
  rw [Int.toNat_natCast, hg, decide_eq_true (show 0 < (k : Int) by omega), decide_eq_true (show (k : Int) < sl.length by omega), decide_eq_true hr]
  rfl
theorem isB_inv {i : Int} (h : isB sl i = true) : ∃ (k : Nat) (s : Slot), i = k ∧ 0 < k ∧ sl[k]? = some s ∧ 0 < s.r := by
  unfold isB at h
  simp only [Bool.and_eq_true, decide_eq_true_eq] at h
  obtain ⟨h0, h1, h2⟩ := h
  have hl : i.toNat < sl.length := by omega
  refine ⟨i.toNat, sl[i.toNat], by omega, by omega, List.getElem?_eq_getElem hl, ?_⟩
  have : sl.getD i.toNat nob = sl[i.toNat] := by simp [List.getD, hl]
  rw [this] at h2
  exact h2
theorem refs_raw (k : Nat) (s : Slot) (w : World) (h : RawA w base a gs cs vf sl fr live most) (hs : sl.length ≤ 1000000000) (hk : sl[k]? = some s) (h0 : 0 < k) (hr : 0 < s.r) :
    Calls Try.prog 26 #[.pointer (some ⟨a, 0, none⟩), .int .i64 k] w fun e w' => e = .returned (.int .i64 s.r) ∧ Below w.heap.size w w' := by
  have hl : k < sl.length := (List.getElem?_eq_some_iff.1 hk).1
  have hi := is_raw (k : Int) w h hs
  rw [isB_at hk h0 hr] at hi
  have HI := Lib.hid hi
  have HR := Lib.hid h
  have HK := Lib.hid hk
  have hs' : (sl.length : Int) ≤ 1000000000 := by omega
  clear h hi hk
  go_enter Try.func26, Try.ntmps26
  go_wp2_with (go_at_call 68; go_loud (refine HI.out.mono ?_; rintro e w1 ⟨rfl, hB⟩; have hr1 := HR.out.kept (Fr.of_new (S := fun _ => False) hB) id id (fun _ _ => id); have p0 := blk_cell hr1.obj 0; have q5 : w1.cell? ⟨gs, k * 6 + 5, none⟩ = some (.int .i64 s.r) := hr1.cell k s HK.out 5 (by decide); have HR1 := Lib.hid hr1; have HB := Lib.hid hB; clear hr1 hB))
  go_ret
  exact ⟨rfl, HB.out⟩
end
theorem new_err (n : Int) (w : World) (h : ¬ (1 ≤ n ∧ n ≤ 1048576)) : Calls Try.prog 20 #[.int .i64 n] w fun e w' => e = .returned (.tuple #[.pointer none, .int .i64 1]) ∧ Below w.heap.size w w' := by
  by_cases h1 : n < 1
  · go_enter Try.func20, Try.ntmps20
    go_wp2
    go_ret2
    exact ⟨rfl, Below.refl _ _⟩
  · have h2 : 1048576 < n := by omega
    go_enter Try.func20, Try.ntmps20
    go_wp2
    go_ret2
    exact ⟨rfl, Below.refl _ _⟩
end Go.Proofs.Ytnipbfhfaefieaa.Arn
