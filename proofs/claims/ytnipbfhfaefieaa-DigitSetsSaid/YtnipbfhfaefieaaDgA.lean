/- digits: All, as an iterator. -/
import Derived.Shelf.Abstract
import Derived.OwnWalkIn
import Derived.TacticsInMore
import Derived.LoopNIn
import Derived.LoopIn
import Derived.Test.YtnipbfhfaefieaaDgL
namespace Go.Proofs.Ytnipbfhfaefieaa.Dig
open Go.RowKit Go Go.Shelf
attribute [local go_sem] Oper.semAt_some
/-- The digits below k of a set. -/
def digs (s k : Nat) : List Nat := (List.range k).filter s.testBit
theorem digs_yes {s k : Nat} (h : s.testBit k = true) : digs s (k + 1) = digs s k ++ [k] := by
  unfold digs
  rw [List.range_succ, List.filter_append, List.filter_cons_of_pos h]
  rfl
theorem digs_no {s k : Nat} (h : s.testBit k = false) : digs s (k + 1) = digs s k := by
  unfold digs
  rw [List.range_succ, List.filter_append, List.filter_cons_of_neg (by simp [h])]
  simp
theorem digs_part (s : Nat) {k m : Nat} (h : k ≤ m) : ∃ post, digs s m = digs s k ++ post := by
  induction h with
  | refl => exact ⟨[], by simp⟩
  | @step m _ ih =>
    obtain ⟨post, hp⟩ := ih
    cases hb : s.testBit m with
    | true => exact ⟨post ++ [m], by rw [digs_yes hb, hp, List.append_assoc]⟩
    | false => exact ⟨post, by rw [digs_no hb, hp]⟩
theorem digs_len (s : Nat) : ∀ k, (digs s k).length = cnt s k
  | 0 => rfl
  | k + 1 => by
    show _ = cnt s k + (if s.testBit k then 1 else 0)
    cases hb : s.testBit k with
    | true => rw [digs_yes hb, List.length_append, digs_len s k]; rfl
    | false => rw [digs_no hb, digs_len s k]; rfl
theorem mem_digs {s k i : Nat} : i ∈ digs s k ↔ i < k ∧ s.testBit i = true := by
  unfold digs
  rw [List.mem_filter, List.mem_range]
theorem isin_nat (s k : Nat) (h : k < 32) : isin s (k : Int) = s.testBit k := by
  unfold isin
  have h0 : (0 : Int) ≤ (k : Int) := by omega
  have h1 : (k : Int) < 32 := by omega
  rw [decide_eq_true h0, decide_eq_true h1]
  rfl
set_option maxHeartbeats 4000000 in
set_option maxRecDepth 100000 in
theorem all_gives (n s : Nat) (hs : s < 2 ^ 32) : Gives Fence.wide n Try.prog 17 #[.int .u32 (s : Int)] (fun k : Nat => #[.int .i64 (k : Int)]) (digs s 32) := by
  intro l J Jx W hJ hJx hY h0
  have HS := Lib.hid hs
  clear hs
  refine callsIn_of_wp Try.func17 rfl trivial ?_ rfl
  simp only [Try.ntmps17, List.size_toArray, List.length_cons, List.length_nil, Nat.reduceAdd, Nat.reduceSub, Array.replicate_succ, Array.replicate_zero, List.push_toArray, List.append_toArray, List.nil_append, List.cons_append]
  gi_wp2
  gi_loopw [5] (fun p wr => ∃ k : Nat, k ≤ 32 ∧ p = .int .i64 (k : Int) ∧ J (digs s k) wr  ) (fun p _ => (32 - intOf p).toNat)
  case atStart => exact ⟨0, by omega, rfl, h0⟩
  case round =>
    obtain ⟨k, hk, rfl, hj⟩ := hrel
    by_cases hk2 : k < 32
    · have hk3 : (k : Int) < 32 := by omega
      cases hb : s.testBit k with
      | true =>
        have hin : isin s (k : Int) = true := by rw [isin_nat s k hk2, hb]
        obtain ⟨post, hx⟩ := digs_part s (show k + 1 ≤ 32 from hk2)
        rw [digs_yes hb, List.append_assoc] at hx
        have HX := Lib.hid hx
        have hd := digs_yes hb
        have HD := Lib.hid hd
        clear hx hd
        gi_wp2_with (refine ⟨trivial, (fun h => (by cases h)), ?_⟩; refine (callsIn_wide.2 (has_calls s HS.out (k : Int) _)).mono ?_; rw [hin]; rintro e w1 ⟨rfl, hb1⟩; have hj1 := hJ _ _ _ none hj ⟨hb1.os, hb1.tape, hb1.output, hb1.size, fun i hi _ => hb1.block i hi⟩ (fun r e => by cases e); clear hb1; obtain ⟨fn, tmps, assign, body, hy, hR⟩ := hY _ k post w1 HX.out hj1)
        refine ⟨(fun h => (by cases h)), ?_⟩
        refine hR.mono ?_
        rintro e W3 (⟨rfl, hJ3⟩ | ⟨rfl, hJx3⟩)
        · gi_wp2
          go_roundw
          case rel => exact ⟨k + 1, hk2, by simp, by rw [HD.out]; exact hJ3⟩
          case measure => simp [intOf]; omega
        · gi_wp2
          refine bodyPost_ret (results_none rfl _ _ _) rfl ?_
          exact ⟨⟨_, rfl⟩, .inr ⟨_, hJx3⟩⟩
      | false =>
        have hin : isin s (k : Int) = false := by rw [isin_nat s k hk2, hb]
        have hd := digs_no hb
        have HD := Lib.hid hd
        clear hd
        gi_wp2_with (refine ⟨trivial, (fun h => (by cases h)), ?_⟩; refine (callsIn_wide.2 (has_calls s HS.out (k : Int) _)).mono ?_; rw [hin]; rintro e w1 ⟨rfl, hb1⟩; have hj1 := hJ _ _ _ none hj ⟨hb1.os, hb1.tape, hb1.output, hb1.size, fun i hi _ => hb1.block i hi⟩ (fun r e => by cases e); clear hb1)
        refine ⟨fun _ h => (by cases h), ?_⟩
        gi_wp2
        go_roundw
        case rel => exact ⟨k + 1, hk2, by simp, by rw [HD.out]; exact hj1⟩
        case measure => simp [intOf]; omega
    · obtain rfl : k = 32 := by omega
      have hk3 : ¬ ((32 : Nat) : Int) < 32 := by omega
      gi_wp2
      go_end0
      exact ⟨⟨_, rfl⟩, .inl hj⟩
end Go.Proofs.Ytnipbfhfaefieaa.Dig
