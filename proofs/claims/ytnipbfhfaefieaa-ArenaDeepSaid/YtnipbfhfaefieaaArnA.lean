/- arena: is, Refs, Keep, Live, as contracts. -/
import Derived.Test.YtnipbfhfaefieaaArnW
import Derived.Test.YtnipbfhfaefieaaProg
import Derived.Test.YtnipbfhfaefieaaWLast
import Derived.Test.YtnipbfhfaefieaaWMore
import Derived.WalkKit
import Derived.WalkSpells
import Derived.OwnWalk
import Derived.KernelRfl
import Derived.BigQuiet
import Derived.Lib.Hide
import Derived.Lib.SliceRun
namespace Go.Proofs.Ytnipbfhfaefieaa.Arn
open Go.RowKit Go Go.Proofs.YtnipbfhfaefieaaW.PrintWords Go.Proofs.YtnipbfhfaefieaaW.PrintMore Go.Proofs.YtnipbfhfaefieaaW.PrintLast Go.Proofs.Ytnipbfhfaefieaa.Bts Go.Proofs.Ytnipbfhfaefieaa.Fra
abbrev RawA (W : World) (base a gs cs : Nat) (vf : Value) (sl : List Slot) (fr : List Int) (live most : Int) : Prop := Raw 112 115 3 W base a gs cs vf sl fr live most
theorem is_nil (i : Int) (w : World) : Calls Try.prog 68 #[.pointer none, .int .i64 i] w fun e w' => e = .returned (.bool false) ∧ Below w.heap.size w w' := by
  go_enter Try.func68, Try.ntmps68
  go_wp2
  go_ret
  exact ⟨rfl, Below.refl _ _⟩
set_option maxHeartbeats 2000000 in
theorem is_calls {base a gs cs : Nat} {vf : Value} {sl : List Slot} {fr : List Int} {live most : Int} (i : Int) (w : World) (h : RawA w base a gs cs vf sl fr live most) (hs : sl.length ≤ 1000000000) :
    Calls Try.prog 68 #[.pointer (some ⟨a, 0, none⟩), .int .i64 i] w fun e w' => e = .returned (.bool (decide (0 < i) && (decide (i < sl.length) && decide (0 < (sl.getD i.toNat nob).r)))) ∧ Below w.heap.size w w' := by
  have p0 := blk_cell h.obj 0
  have HR := Lib.hid h
  have hs' : (sl.length : Int) ≤ 1000000000 := by omega
  clear h
  by_cases h0 : 0 < i
  · by_cases h1 : i < sl.length
    · obtain ⟨k, rfl⟩ : ∃ k : Nat, i = k := ⟨i.toNat, by omega⟩
      have hk : k < sl.length := by omega
      obtain ⟨s, hsl⟩ : ∃ s, sl[k]? = some s := ⟨sl[k], List.getElem?_eq_getElem hk⟩
      have hc := HR.out.cell k s hsl 5 (by decide)
      replace hc : w.cell? ⟨gs, k * 6 + 5, none⟩ = some (.int .i64 s.r) := hc
      have hg : sl.getD k nob = s := by simp [List.getD, hsl]
      rw [Int.toNat_natCast, hg]
      clear hsl hg
      go_enter Try.func68, Try.ntmps68
      go_wp2
      go_ret
      exact ⟨by rw [decide_eq_true h0, decide_eq_true h1, Bool.true_and, Bool.true_and]; rfl, Below.refl _ _⟩
    · have e : (decide (0 < i) && (decide (i < (sl.length : Int)) && decide (0 < (sl.getD i.toNat nob).r))) = false := by simp [h1]
      rw [e]
      have b1 : decide (i < (sl.length : Int)) = false := by simpa using h1
      go_enter Try.func68, Try.ntmps68
      go_wp2
      go_ret
      exact ⟨rfl, Below.refl _ _⟩
  · have e : (decide (0 < i) && (decide (i < (sl.length : Int)) && decide (0 < (sl.getD i.toNat nob).r))) = false := by simp [h0]
    rw [e]
    go_enter Try.func68, Try.ntmps68
    go_wp2
    go_ret
    exact ⟨by simp [h0], Below.refl _ _⟩
theorem keep_none {base a gs cs : Nat} {vf : Value} {sl : List Slot} {fr : List Int} {live most : Int} (i : Int) (w : World) (h : RawA w base a gs cs vf sl fr live most) (hs : sl.length ≤ 1000000000) (hi : (decide (0 < i) && (decide (i < sl.length) && decide (0 < (sl.getD i.toNat nob).r))) = false) :
    Calls Try.prog 27 #[.pointer (some ⟨a, 0, none⟩), .int .i64 i] w fun e w' => e = .returned (.int .i64 4) ∧ Below w.heap.size w w' := by
  have HI := Lib.hid (is_calls i w h hs)
  rw [hi] at HI
  clear h hi
  go_enter Try.func27, Try.ntmps27
  go_wp2_with (go_at_call 68; go_loud (refine HI.out.mono ?_; rintro e w1 ⟨rfl, hB⟩))
  go_ret
  exact ⟨rfl, hB⟩
set_option maxHeartbeats 2000000 in
/-- A live cell is held once more. -/
theorem keep_raw {base a gs cs : Nat} {vf : Value} {sl : List Slot} {fr : List Int} {live most : Int} (k : Nat) (s : Slot) (w : World) (h : RawA w base a gs cs vf sl fr live most) (hs : sl.length ≤ 1000000000) (hk : sl[k]? = some s) (h0 : 0 < k) (hr : 0 < s.r) (hr2 : s.r < 9223372036854775807) :
    Calls Try.prog 27 #[.pointer (some ⟨a, 0, none⟩), .int .i64 k] w fun e w' => e = .returned (.int .i64 0) ∧ RawA w' base a gs cs vf (sl.set k {s with r := s.r + 1}) fr live most ∧ ∃ w1, Below w.heap.size w w1 ∧ w' = w1.setCell ⟨gs, k * 6 + 5, none⟩ (.int .i64 (s.r + 1)) := by
  have hl : k < sl.length := (List.getElem?_eq_some_iff.1 hk).1
  have hg : sl.getD k nob = s := by simp [List.getD, hk]
  have hi := is_calls (k : Int) w h hs
  rw [Int.toNat_natCast, hg, decide_eq_true (show 0 < (k : Int) by omega), decide_eq_true (show (k : Int) < sl.length by omega), decide_eq_true hr] at hi
  have HI := Lib.hid hi
  have HR := Lib.hid h
  have HK := Lib.hid hk
  have hs' : (sl.length : Int) ≤ 1000000000 := by omega
  clear h hi hk hg
  go_enter Try.func27, Try.ntmps27
  go_wp2_with (go_at_call 68; go_loud (refine HI.out.mono ?_; rintro e w1 ⟨rfl, hB⟩; have hr1 := HR.out.kept (Fr.of_new (S := fun _ => False) hB) id id (fun _ _ => id); have p0 := blk_cell hr1.obj 0; have q5 : w1.cell? ⟨gs, k * 6 + 5, none⟩ = some (.int .i64 s.r) := hr1.cell k s HK.out 5 (by decide); have z5 := hr1.frozen (k * 6 + 5); have HR1 := Lib.hid hr1; have HB := Lib.hid hB; clear hr1 hB))
  go_ret
  exact ⟨rfl, HR1.out.put k 5 _ s _ HK.out (by decide) rfl, _, HB.out, rfl⟩
end Go.Proofs.Ytnipbfhfaefieaa.Arn
