/- arena: the law ArenaDeep, walked. -/
import Derived.Test.YtnipbfhfaefieaaArAr
namespace Go.Proofs.Ytnipbfhfaefieaa.ArDp
open Go.RowKit Go Go.Proofs.YtnipbfhfaefieaaW.PrintWords Go.Proofs.YtnipbfhfaefieaaW.PrintMore Go.Proofs.YtnipbfhfaefieaaW.PrintLast Go.Proofs.Ytnipbfhfaefieaa.Bts Go.Proofs.Ytnipbfhfaefieaa.Fra Go.Proofs.Ytnipbfhfaefieaa.ArnP Go.Proofs.Ytnipbfhfaefieaa.Arn Go.Proofs.Ytnipbfhfaefieaa.ArAr
/-- A chain of so many cells. -/
def chain (j : Nat) : List Cell := nobC :: (List.range j).map fun i : Nat => (⟨0, 0, 0, [], [(i : Int)], 1⟩ : Cell)
theorem chain_len (j : Nat) : (chain j).length = j + 1 := by simp [chain]
theorem chain_succ (j : Nat) : chain (j + 1) = chain j ++ [⟨0, 0, 0, [], [(j : Int)], 1⟩] := by simp [chain, List.range_succ]
theorem chain_at (j i : Nat) (h : i < j) : (chain j)[i + 1]? = some ⟨0, 0, 0, [], [(i : Int)], 1⟩ := by
  unfold chain
  rw [List.getElem?_cons_succ, List.getElem?_map, List.getElem?_range h]
  rfl
theorem kids1 (x : Nat) (h : 0 < x) : kidsOf [(x : Int)] = [x] := by
  have h9 : decide ((x : Int) ≠ 0) = true := by simp; omega
  unfold kidsOf
  rw [List.filter_cons, if_pos h9]
  rfl
def ex (j : Nat) : Nat → Nat := fun x => if x = j ∧ 0 < j then 1 else 0
theorem ex_step (j : Nat) : (fun x => if x = j + 1 then 1 else ex j x - (kidsOf [(j : Int)]).count x) = ex (j + 1) := by
  funext x
  show (if x = j + 1 then 1 else (if x = j ∧ 0 < j then 1 else 0) - (kidsOf [(j : Int)]).count x) = if x = j + 1 ∧ 0 < j + 1 then 1 else 0
  by_cases e : x = j + 1
  · rw [if_pos e, if_pos ⟨e, by omega⟩]
  · rw [if_neg e, if_neg (fun h : x = j + 1 ∧ 0 < j + 1 => e h.1)]
    by_cases e2 : x = j ∧ 0 < j
    · rw [if_pos e2]
      obtain ⟨rfl, h0⟩ := e2
      have : kidsOf [(x : Int)] = [x] := kids1 x (by omega)
      rw [this]
      simp
    · rw [if_neg e2]; omega
theorem ex_le (j : Nat) : ∀ x, 0 < x → (kidsOf [(j : Int)]).count x ≤ ex j x := by
  intro x hx
  show _ ≤ if x = j ∧ 0 < j then 1 else 0
  by_cases e : x = j
  · subst e
    rw [if_pos ⟨rfl, hx⟩]
    have : kidsOf [(x : Int)] = [x] := kids1 x (by omega)
    rw [this]
    simp
  · rw [if_neg (fun h : x = j ∧ 0 < j => e h.1)]
    have : x ∉ kidsOf [(j : Int)] := fun h => by
      obtain ⟨y, hy, _, h2⟩ := kidsOf_mem h
      obtain rfl : y = (j : Int) := by simpa using hy
      omega
    rw [List.count_eq_zero.2 this]
    exact Nat.le_refl _
theorem ex_drop (k : Nat) : (fun x => if x = k then ex k x - 1 else ex k x) = fun _ => 0 := by
  funext x
  unfold ex
  by_cases e : x = k
  · rw [if_pos e]; split <;> rfl
  · rw [if_neg e, if_neg (fun h => e h.1)]
theorem chain_bad (j : Nat) : badC (chain j) [(j : Int)] = false := by
  unfold badC
  by_cases e : j = 0
  · subst e; rfl
  · obtain ⟨i, rfl⟩ : ∃ i, j = i + 1 := ⟨j - 1, by omega⟩
    have := isC_at (chain_at (i + 1) i (by omega)) (by omega)
    simp only [List.any_cons, List.any_nil, Bool.or_false]
    rw [this]
    simp
theorem chain_kids {cl : List Cell} {k : Nat} (h : Arn.Left (chain k) cl) : ∀ (y : Nat) (c : Cell), cl[y]? = some c → 0 < c.r → ∀ x ∈ kidsOf c.kids, x < y := by
  intro y c hc hr x hx
  obtain ⟨d, h1, h2, _⟩ := h.at_ y c hc hr
  rw [h2] at hx
  replace hx : x ∈ kidsOf d.kids := hx
  have hy := (List.getElem?_eq_some_iff.1 h1).1
  rw [chain_len] at hy
  match y, h1 with
  | 0, h1 =>
    obtain rfl : nobC = d := by simpa [chain] using h1
    cases hx
  | i + 1, h1 =>
    rw [chain_at k i (by omega)] at h1
    cases h1
    obtain ⟨z, hz, _, rfl⟩ := kidsOf_mem hx
    obtain rfl : z = (i : Int) := by simpa using hz
    omega
/-- All is let go. -/
theorem chain_end {W : World} {O : Nat → Prop} {a k : Nat} {cl : List Cell} {fr : List Int} {live most : Int} (h : AR W O a cl fr live most (fun x => if x = k then ex k x - 1 else ex k x)) (hl : Arn.Left (chain k) cl) : live = 0 ∧ ∀ i, isC cl i = false := by
  rw [ex_drop] at h
  have h0 := none_live h.wf id (fun y c hc hr x hx => chain_kids hl y c hc hr x hx) cl.length (fun y hy => hy)
  refine ⟨h0, fun i => ?_⟩
  cases hq : isC cl i
  · rfl
  · obtain ⟨j, c, _, _, e3, e4⟩ := isC_inv hq
    have h1 := h.wf.lv
    have h2 : liveN cl ≠ 0 := by
      unfold liveN
      have : 0 < cl.countP fun c => decide (0 < c.r) := List.countP_pos_iff.2 ⟨c, List.mem_of_getElem? e3, by simpa using e4⟩
      omega
    omega
set_option maxHeartbeats 4000000 in
set_option maxRecDepth 100000 in
theorem walk (x0 : Int) (W : World) (p0 : (IntKind.i64.min ≤ x0 ∧ x0 ≤ IntKind.i64.max)) :
    Calls Try.prog 4 #[.int .i64 x0] W fun e W' => e = .returned (.bool true) ∧ Below W.heap.size W W' := by
  clear p0
  go_enter Try.func4, Try.ntmps4
  go_wp2_with (first
    | (go_at_call 20; go_loud (refine (new_AR 5000 _ (by decide) (by decide)).mono ?_; rintro e w2 ⟨a, O, rfl, h0, ho0, hb2⟩; have HO := Lib.hid (fun j hj => Nat.le_trans HB1.out.size (ho0 j hj)); have HA := Lib.hid h0; have HB2 := Lib.hid (below_step HB1.out hb2); clear h0 ho0 hb2))
    | (go_at_call 19; go_loud (refine (lives_calls _).mono ?_; rintro e w1 ⟨rfl, hb1⟩; have HB1 := Lib.hid hb1; clear hb1)))
  obtain ⟨k, hk, hk1, hk2⟩ : ∃ k : Nat, wrap64 (1 + wrap64 ((IntKind.u64.wrap x0).tmod 5000)) = k ∧ 1 ≤ k ∧ k ≤ 5000 := by
    have h1 : 0 ≤ IntKind.u64.wrap x0 := (by rw [IntKind.wrap_u64]; omega)
    have h2 : 0 ≤ (IntKind.u64.wrap x0).tmod 5000 := Int.tmod_nonneg _ h1
    have h3 : (IntKind.u64.wrap x0).tmod 5000 < 5000 := Int.tmod_lt_of_pos _ (by decide)
    obtain ⟨m, hm⟩ : ∃ m, (IntKind.u64.wrap x0).tmod 5000 = m := ⟨_, rfl⟩
    rw [hm] at h2 h3 ⊢
    refine ⟨(1 + m).toNat, ?_, by omega, by omega⟩
    unfold wrap64
    omega
  rw [hk]
  have hk2' : (k : Int) ≤ 5000 := by omega
  clear hk
  go_loopw [6, 21] (fun v x wr => ∃ (j : Nat) (Oj : Nat → Prop), v = .int .i64 (j : Int) ∧ x = .int .i64 (j : Int) ∧ j ≤ k ∧ AR wr Oj a (chain j) [] (j : Int) 5000 (ex j) ∧ (∀ i, Oj i → W.heap.size ≤ i) ∧ Below W.heap.size W wr) (fun _ x _ => k - (intOf x).toNat)
  case atStart =>
    refine ⟨0, O, rfl, rfl, Nat.zero_le _, ?_, HO.out, HB2.out⟩
    have : ex 0 = fun _ => 0 := by funext x; unfold ex; simp
    rw [this]
    exact HA.out
  case round =>
    obtain ⟨j, Oj, rfl, rfl, hj, hA, hO, hB⟩ := hrel
    have HA1 := Lib.hid hA
    have HO1 := Lib.hid hO
    have HBj := Lib.hid hB
    clear hA hO hB
    by_cases hjk : j < k
    · have hjk' : (j : Int) < (k : Int) := by omega
      go_wp2_with (go_at_call 21; go_loud (refine (make_AR0 (Q := fun i => wr.heap.size ≤ i) 0 0 0 (.slice none 0 0) (.slice (some ⟨wr.heap.size, 0, none⟩) 1 1) [] [(j : Int)] _ (HA1.out.below (by repeat (first | (with_reducible first | exact Below.refl _ _ | apply below_alloc | apply pw_below_drewN | apply below_drew1)))) (row_none _ _ _) (row_lit wr [(j : Int)] #[.int .i64 (j : Int)] rfl (by simp)) (fun i hi hi2 => by have := HA1.out.mem.ol i hi2; omega) (chain_bad j) (by omega) (by simp) (by simp) (ex_le j)).mono ?_; rintro e w3 ⟨O2, rfl, h3, ho3, hF3⟩; rw [chain_len] at h3 ⊢; rw [ex_step, ← chain_succ] at h3; have HA3 := Lib.hid h3; have HB3 := Lib.hid (bel_fr (below_step HBj.out (by repeat (first | (with_reducible first | exact Below.refl _ _ | apply below_alloc | apply pw_below_drewN | apply below_drew1)))) hF3 HO1.out); have HO3 := Lib.hid (bel_own (below_step HBj.out (by repeat (first | (with_reducible first | exact Below.refl _ _ | apply below_alloc | apply pw_below_drewN | apply below_drew1)))) HO1.out ho3); clear h3 ho3 hF3))
      go_roundw
      case rel => exact ⟨j + 1, O2, by simp, by simp, by omega, HA3.out, HO3.out, HB3.out⟩
      case measure => simp [intOf]; omega
    · obtain rfl : j = k := by omega
      have hjk' : ¬ (j : Int) < (j : Int) := by omega
      go_wp2_with (first
        | (go_at_call 23; go_loud (refine (dropn_AR j _ HA4.out (hdead j)).mono ?_; rintro e w5 ⟨rfl, hb5⟩))
        | (go_at_call 22; go_loud (refine (live_AR _ HA4.out).mono ?_; rintro e w5 ⟨rfl, rfl⟩))
        | (go_at_call 23; go_loud (refine (drop_AR j _ HA1.out (by omega) (by unfold ex; rw [if_pos ⟨rfl, by omega⟩]; decide)).mono ?_; rintro e w4 ⟨rfl, O4, cl4, fr4, live4, h4, hl4, ho4, hF4⟩; obtain ⟨hz4, hdead⟩ := chain_end h4 hl4; subst hz4; have HA4 := Lib.hid h4; have HB4 := Lib.hid (bel_fr HBj.out hF4 HO1.out); clear h4 hl4 ho4 hF4))
        | (go_at_call 22; go_loud (refine (live_AR _ HA1.out).mono ?_; rintro e w5 ⟨rfl, rfl⟩)))
      go_ret
      exact ⟨rfl, below_step HB4.out hb5⟩
end Go.Proofs.Ytnipbfhfaefieaa.ArDp
