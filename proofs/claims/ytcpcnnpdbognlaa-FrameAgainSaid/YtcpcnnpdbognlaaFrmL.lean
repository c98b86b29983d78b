/- frame: the chapter's example, and the law FrameNil, walked. -/
import Derived.Test.YtcpcnnpdbognlaaFrmF
import Derived.Test.YtcpcnnpdbognlaaOpen
import Derived.Lib.ConvBytes
namespace Go.Proofs.Ytcpcnnpdbognlaa.Frm
open Go.RowKit Go Go.Proofs.YtcpcnnpdbognlaaW.PrintWords Go.Proofs.YtcpcnnpdbognlaaW.PrintMore Go.Proofs.YtcpcnnpdbognlaaW.PrintLast Go.Proofs.Ytcpcnnpdbognlaa.Bts Go.Proofs.Ytcpcnnpdbognlaa.Fra
/-- A new reader. -/
theorem Fd.new (w : World) : Fd (w.alloc (.cells #[.slice none 0 0, .int .i64 0] 40)) w.heap.size (.slice none 0 0) [] 0 :=
  ⟨blk_new _ _, ⟨rfl, .inl ⟨rfl, rfl⟩⟩, fun k hk => by cases hk⟩
theorem conv_C {w : World} {A : Option Addr} {c : Nat} {xs : List Int} (h : (Kd.int .u8).C w A xs.length xs) : (convert 36 9 (.slice A xs.length c)).run Try.prog w = .ok (.string (strOfNums xs)) w :=
  Kd.C_string (c := c) (src := 36) (dst := 9) (e := 5) Try.underlying36 Try.underlying5 Try.underlying9 h
/-- One of several rows. -/
theorem at_row {w : World} {A : Option Addr} {n : Nat} {l : List (List Int)} (h : kF.C w A n l) (i : Nat) (h1 : i < n) (x : List Int) (hx : l.getD i [] = x) :
    ∃ ad A2 c2, A = some ad ∧ w.cell? (ad.add i) = some (.slice A2 x.length c2) ∧ x.length ≤ c2 ∧ (Kd.int .u8).C w A2 x.length x := by
  obtain ⟨ad, c, e, _, hK, hc⟩ := Kd.C_get h [] (i : Int) (by omega) (by omega)
  rw [Int.toNat_natCast] at hK hc
  rw [hx] at hK
  obtain ⟨A2, c2, rfl, l2, C2⟩ := hK
  have hc : ∀ j u, [Value.slice A2 x.length c2][j]? = some u → w.cell? (ad.add (i * 1 + j)) = some u := hc
  have h0 := hc 0 _ rfl
  rw [Nat.mul_one, Nat.add_zero] at h0
  exact ⟨ad, A2, c2, e, h0, l2, C2⟩
theorem fr_lives : fr [2, 0, 7, 8, 1] = ([[7, 8]], [1], false) := by decide
theorem five_C (w : World) (q : Nat) (hq : q = w.heap.size) : (Kd.int .u8).C (w.alloc (.cells #[.int .u8 2, .int .u8 0, .int .u8 7, .int .u8 8, .int .u8 1] 5)) (some ⟨q, 0, none⟩) 5 [2, 0, 7, 8, 1] := by
  subst hq
  refine ⟨rfl, by omega, fun _ => ⟨_, rfl, fun j p hj => ⟨[.int .u8 p], rfl, rfl, fun i u hi => ?_⟩⟩⟩
  have hi0 : i = 0 := by
    have := (List.getElem?_eq_some_iff.1 hi).1
    simpa using this
  subst hi0
  cases hi
  rw [add_plain, blk_cell (blk_new w _)]
  have hj5 : j < 5 := (List.getElem?_eq_some_iff.1 hj).1
  match j, hj5 with
  | 0, _ => cases hj; rfl
  | 1, _ => cases hj; rfl
  | 2, _ => cases hj; rfl
  | 3, _ => cases hj; rfl
  | 4, _ => cases hj; rfl
set_option maxRecDepth 100000 in
set_option maxHeartbeats 1000000 in
theorem lives_calls (w : World) : Calls Try.prog 26 #[] w fun e w' => e = .returned (.bool true) ∧ Below w.heap.size w w' := by
  have HD := Lib.hid ((Fd.new w).below (below_alloc (Below.refl _ _) (.cells #[.int .u8 2, .int .u8 0, .int .u8 7, .int .u8 8, .int .u8 1] 5)))
  have HC := Lib.hid (five_C (w.alloc (.cells #[.slice none 0 0, .int .i64 0] 40)) (w.heap.size + 1) (by simp))
  go_enter Try.func26, Try.ntmps26
  go_wp2_with (first
    | (go_at_call 30; go_loud (refine (left_calls _ _ _ _ _ HD1.out).mono ?_; rintro e w2 ⟨rfl, rfl⟩))
    | (go_at_call 27; go_loud (refine (feed_calls w.heap.size _ [] [2, 0, 7, 8, 1] _ 5 _ HD.out HC.out (by simp) (by simp) (by unfold Bs; decide) [2, 0, 7, 8, 1] rfl).mono ?_; rintro e w1 ⟨v', vo, f, rfl, hf, hd, _, hr, hF⟩; rw [fr_lives] at hf hd hr; obtain rfl : f = 0 := hf; obtain ⟨Ao, co, rfl, lo, Co⟩ := Kd.R_reads hr; obtain ⟨ad, A2, c2, rfl, r0, l2, C2⟩ := at_row Co 0 (by simp) [7, 8] rfl; rw [Addr.add_zero'] at r0; have hcv : (convert 36 9 (.slice A2 2 c2)).run Try.prog w1 = .ok (.string ⟨#[7, 8]⟩) w1 := conv_C (c := c2) C2; have HD1 := Lib.hid hd; have HF1 := Lib.hid hF; clear hd hr hF Co C2)))
  go_ret
  refine ⟨rfl, ?_⟩
  have hb := below_alloc (below_alloc (Below.refl w.heap.size w) (.cells #[.slice none 0 0, .int .i64 0] 40)) (.cells #[.int .u8 2, .int .u8 0, .int .u8 7, .int .u8 8, .int .u8 1] 5)
  exact hb.trans (HF1.out.below (fun k hk => hk.elim (fun e => Nat.le_of_eq e.symm) (fun e => by cases e)) hb.size)
set_option maxHeartbeats 1000000 in
theorem nil_walk (A0 : Option Addr) (c0 : Nat) (x0 : List (Int)) (W : World) (l0 : x0.length ≤ c0) (C0 : Kd.C (Kd.int .u8) W A0 x0.length x0) (p0 : (x0.length ≤ maxLen ∧ x0.length * Try.prog.bytesOf 5 ≤ 140737488351232 ∧ ∀ x ∈ x0, (IntKind.u8.min ≤ x ∧ x ≤ IntKind.u8.max))) :
    Calls Try.prog 6 #[.slice A0 x0.length c0] W fun e W' => e = .returned (.bool true) ∧ Below W.heap.size W W' := by
  clear p0 C0
  by_cases h3 : x0.length ≤ 300
  · have h3i : ¬ (300 : Int) < (x0.length : Int) := by omega
    go_enter Try.func6, Try.ntmps6
    go_wp2_with (first
      | (go_at_call 26; refine (lives_calls _).mono ?_; rintro e w1 ⟨rfl, hB1⟩)
      | (go_at_call 27; refine (feed_nil _ _).mono ?_; rintro e w2 ⟨rfl, rfl⟩)
      | (go_at_call 30; refine (left_nil _).mono ?_; rintro e w2 ⟨rfl, rfl⟩))
    go_ret
    exact ⟨rfl, hB1⟩
  · have h3i : (300 : Int) < (x0.length : Int) := by omega
    go_enter Try.func6, Try.ntmps6
    go_wp2_with (first
      | (go_at_call 26; refine (lives_calls _).mono ?_; rintro e w2 ⟨rfl, hB2⟩; have HB2 := Lib.hid (below_step hB1 hB2))
      | (go_at_call 26; refine (lives_calls _).mono ?_; rintro e w1 ⟨rfl, hB1⟩))
    go_ret
    exact ⟨rfl, HB2.out⟩
end Go.Proofs.Ytcpcnnpdbognlaa.Frm
