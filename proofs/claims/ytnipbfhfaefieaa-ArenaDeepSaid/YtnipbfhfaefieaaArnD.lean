/- arena: New; whether a cell's others are there. -/
import Derived.Test.YtnipbfhfaefieaaArnC
namespace Go.Proofs.Ytnipbfhfaefieaa.Arn
open Go.RowKit Go Go.Proofs.YtnipbfhfaefieaaW.PrintWords Go.Proofs.YtnipbfhfaefieaaW.PrintMore Go.Proofs.YtnipbfhfaefieaaW.PrintLast Go.Proofs.Ytnipbfhfaefieaa.Bts Go.Proofs.Ytnipbfhfaefieaa.Fra
theorem infoSlot : (Try.prog.info? 115).map (fun i => (i.zero, i.size, i.bytes)) = some (some (.agg #[.int .u32 0, .int .u32 0, .int .u32 0, .slice none 0 0, .slice none 0 0, .int .i64 0]), 6, 72) := by kernel_rfl
theorem flat_nob : flat [nob] = [.int .u32 0, .int .u32 0, .int .u32 0, .slice none 0 0, .slice none 0 0, .int .i64 0] := rfl
set_option maxHeartbeats 1000000 in
set_option maxRecDepth 100000 in
theorem new_ok (n : Int) (w : World) (h1 : 1 ≤ n) (h2 : n ≤ 1048576) : Calls Try.prog 20 #[.int .i64 n] w fun e w' => ∃ a gs, e = .returned (.tuple #[.pointer (some ⟨a, 0, none⟩), .int .i64 0]) ∧ RawA w' w.heap.size a gs 1 (.slice none 0 0) [nob] [] 0 n ∧ Below w.heap.size w w' := by
  obtain ⟨i0, hi, hi0, hi1, hi2⟩ := info_parts infoSlot
  go_enter Try.func20, Try.ntmps20
  go_wp2_with (at_make; go_loud (refine wpList_make_full _ rfl _ _ 105 rfl w.heap.size 115 i0 _ 6 Try.underlying105 hi hi0 hi1 .i64 .i64 1 1 1 rfl rfl rfl rfl (by omega) (by unfold maxLen; omega) (Nat.le_refl _) ?_; intro w1 hown hg; have hB := (Below.refl w.heap.size w).grown hg (Nat.le_refl _) (fun k hk => by cases hk); have HO := Lib.hid hown; have HB := Lib.hid hB; clear hown hg hB))
  go_ret2
  have hlt : w.heap.size < w1.heap.size := own_lt HO.out w.heap.size rfl
  refine ⟨w1.heap.size, w.heap.size, rfl, ⟨blk_new w1 _, ?_, World.ownsRow_nil _ _ _ _, ?_, ?_, ?_, ?_⟩, below_alloc HB.out _⟩
  · have e : (madeCells (Value.agg #[.int .u32 0, .int .u32 0, .int .u32 0, .slice none 0 0, .slice none 0 0, .int .i64 0]).cells (1 * 6)).toList = flat [nob] := by kernel_rfl
    have hO := HO.out
    rw [e] at hO
    exact own_fr (S := fun _ => False) hO (Fr.alloc _) (fun _ _ h => h)
  · omega
  · intro k hk; cases hk
  · exact HB.out.size
  · exact Nat.le_refl _
/-- The first of some numbers that is not 0, and no cell's. -/
def badAt (sl : List Slot) : List Int → Bool
  | [] => false
  | x :: l => (x != 0 && !isB sl x) || badAt sl l
theorem badAt_app (sl : List Slot) (l m : List Int) : badAt sl (l ++ m) = (badAt sl l || badAt sl m) := by
  induction l with
  | nil => rfl
  | cons x l ih => show (_ || badAt sl (l ++ m)) = ((_ || badAt sl l) || badAt sl m); rw [ih, Bool.or_assoc]
section
variable {base a gs cs : Nat} {vf : Value} {sl : List Slot} {fr : List Int} {live most : Int}
theorem bad_calls (b : Nat) (x : Int) (w : World) (h : RawA w base a gs cs vf sl fr live most) (hs : sl.length ≤ 1000000000) (hb : w.cell? ⟨b, 0, none⟩ = some (.pointer (some ⟨a, 0, none⟩))) :
    Calls Try.prog 92 #[.int .i64 x, .pointer (some ⟨b, 0, none⟩)] w fun e w' => e = .returned (.bool (x != 0 && !isB sl x)) ∧ Below w.heap.size w w' := by
  by_cases hx : x = 0
  · subst hx
    go_enter Try.func92, Try.ntmps92
    go_wp2
    go_ret
    exact ⟨rfl, Below.refl _ _⟩
  · have HI := Lib.hid (is_raw x w h hs)
    have hx' : (x == 0) = false := by simpa using hx
    go_enter Try.func92, Try.ntmps92
    go_wp2_with (go_at_call 68; go_loud (refine HI.out.mono ?_; rintro e w1 ⟨rfl, hB⟩))
    go_ret
    exact ⟨rfl, hB⟩
set_option maxHeartbeats 2000000 in
theorem index_calls (A : Option Addr) (c b : Nat) (l : List Int) (w : World) (h : RawA w base a gs cs vf sl fr live most) (hs : sl.length ≤ 1000000000) (hb : w.cell? ⟨b, 0, none⟩ = some (.pointer (some ⟨a, 0, none⟩)))
    (hC : (Kd.int .i64).C w A l.length l) (hl : l.length ≤ 1000000000) :
    Calls Try.prog 102 #[.slice A l.length c, .func (.func 92) #[] #[.pointer (some ⟨b, 0, none⟩)]] w fun e w' => ∃ i : Int, e = .returned (.int .i64 i) ∧ decide (0 ≤ i) = badAt sl l ∧ Below w.heap.size w w' := by
  have HR := Lib.hid h
  have HBC := Lib.hid hb
  have HC := Lib.hid hC
  have hli : (l.length : Int) ≤ 1000000000 := by omega
  clear h hb hC
  go_enter Try.func102, Try.ntmps102
  go_wp2
  go_loopw [8] (fun i wr => ∃ j : Nat, i = .int .i64 j ∧ j ≤ l.length ∧ badAt sl (l.take j) = false ∧ Below w.heap.size w wr) (fun i _ => l.length - (intOf i).toNat)
  case atStart => exact ⟨0, rfl, Nat.zero_le _, rfl, Below.refl _ _⟩
  case round =>
    obtain ⟨j, rfl, hj, hbad, hB⟩ := hrel
    have HB := Lib.hid hB
    have HBAD := Lib.hid hbad
    clear hB hbad
    by_cases hjl : j < l.length
    · obtain ⟨x, hx⟩ : ∃ x, rd l (j : Int) = x := ⟨_, rfl⟩
      obtain ⟨ad, rfl, hc⟩ := Kd.at_int (Kd.C_below HC.out HB.out) (j : Int) (by omega) (by omega)
      rw [hx] at hc
      rw [Int.toNat_natCast] at hc
      have HX := Lib.hid hx
      have hb1 := pw_cell_below HB.out HBC.out
      have HK := Lib.hid (bad_calls b x wr (Raw.below HR.out HB.out) hs hb1)
      have hjl' : (j : Int) < (l.length : Int) := by omega
      clear hb1 hx
      have htk : badAt sl (l.take (j + 1)) = (x != 0 && !isB sl x) := by
        rw [List.take_succ_eq_append_getElem hjl, badAt_app, HBAD.out, Bool.false_or]
        have : l[j] = x := by rw [← HX.out]; simp [rd, List.getD, hjl]
        rw [this]
        show (_ || false) = _
        rw [Bool.or_false]
      cases hv : (x != 0 && !isB sl x)
      · rw [hv] at HK htk
        have HT := Lib.hid htk
        clear htk hv
        go_wp2_with (go_at_call 92; go_loud (refine HK.out.mono ?_; rintro e w1 ⟨rfl, hB1⟩))
        go_roundw
        case rel => exact ⟨j + 1, by simp, by omega, HT.out, below_step HB.out hB1⟩
        case measure => simp [intOf]; omega
      · rw [hv] at HK htk
        have HT := Lib.hid htk
        clear htk hv
        go_wp2_with (go_at_call 92; go_loud (refine HK.out.mono ?_; rintro e w1 ⟨rfl, hB1⟩))
        go_ret
        refine ⟨_, rfl, ?_, below_step HB.out hB1⟩
        have e2 : badAt sl l = (badAt sl (l.take (j + 1)) || badAt sl (l.drop (j + 1))) := by rw [← badAt_app, List.take_append_drop]
        rw [e2, HT.out]
        simp
    · have hjl' : ¬ (j : Int) < (l.length : Int) := by omega
      go_wp2
      go_ret
      refine ⟨_, rfl, ?_, HB.out⟩
      have e1 : l.take j = l := List.take_of_length_le (by omega)
      rw [← e1, HBAD.out]
      rfl
theorem contains_calls (A : Option Addr) (c b : Nat) (l : List Int) (w : World) (h : RawA w base a gs cs vf sl fr live most) (hs : sl.length ≤ 1000000000) (hb : w.cell? ⟨b, 0, none⟩ = some (.pointer (some ⟨a, 0, none⟩)))
    (hC : (Kd.int .i64).C w A l.length l) (hl : l.length ≤ 1000000000) :
    Calls Try.prog 91 #[.slice A l.length c, .func (.func 92) #[] #[.pointer (some ⟨b, 0, none⟩)]] w fun e w' => e = .returned (.bool (badAt sl l)) ∧ Below w.heap.size w w' := by
  have HI := Lib.hid (index_calls A c b l w h hs hb hC hl)
  clear h hb hC
  go_enter Try.func91, Try.ntmps91
  go_wp2_with (go_at_call 102; go_loud (refine HI.out.mono ?_; rintro e w1 ⟨i, rfl, hi, hB⟩))
  go_ret
  rw [← hi]
  exact ⟨rfl, hB⟩
end
end Go.Proofs.Ytnipbfhfaefieaa.Arn
