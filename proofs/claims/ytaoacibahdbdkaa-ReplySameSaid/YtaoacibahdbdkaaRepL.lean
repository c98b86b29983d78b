/- reply: the chapter's example. -/
import Derived.Test.YtaoacibahdbdkaaRepS
import Derived.Test.YtaoacibahdbdkaaPackV
import Derived.Test.YtaoacibahdbdkaaPackP
namespace Go.Proofs.Ytaoacibahdbdkaa.Rep
open Go.RowKit Go Go.Proofs.Ytaoacibahdbdkaa.QReplySame Go.Proofs.YtaoacibahdbdkaaW.PrintWords Go.Proofs.YtaoacibahdbdkaaW.PrintLast Go.Proofs.YtaoacibahdbdkaaW.PrintMore Go.Proofs.Ytaoacibahdbdkaa.Fra Go.Proofs.Ytaoacibahdbdkaa.Pk Go.Proofs.Ytaoacibahdbdkaa.Bts Go.Proofs.Ytaoacibahdbdkaa.Pr
theorem encode_wrong (e h g : Int) (A : Option Addr) (c : Nat) (l : List S54) (w : World) (hC : Kd.C k54 w A l.length l) (hc : l.length ≤ c) (hl : l.length ≤ 100000) (hr : rightR e h g l = false) :
    Calls Try.prog 53 #[.agg #[.int .i64 e, .int .u64 h, .int .u64 g, .slice A l.length c]] w fun en w' => en = .returned (.tuple #[.slice none 0 0, .int .i64 1]) ∧ Below w.heap.size w w' := by
  have HC := Lib.hid hC
  have HR := Lib.hid hr
  clear hC hr
  go_enter Try.func53, Try.ntmps53
  go_wp2_with (go_at_call 61; go_loud (refine (reply_Reply_Right.calls 200000 e h g A c l false _ (Kd.C_below HC.out (below_alloc (Below.refl _ _) _)) hc (by rw [rright_f _ _ _ _ _ hl (by omega), HR.out])).mono ?_; rintro en w2 ⟨rfl, hB2⟩))
  go_ret2
  exact ⟨rfl, below_step (below_alloc (Below.refl _ _) _) hB2⟩
theorem own_one (W : World) (x : Int) {base : Nat} (hb : base ≤ W.heap.size) : (W.alloc (.cells #[.int .u8 x] 5)).ownsRow base 5 1 (.slice (some ⟨W.heap.size, 0, none⟩) 1 1) 1 [.int .u8 x] :=
  ⟨rfl, .inr ⟨_, 1, _, rfl, hb, blk_new _ _, by omega, by unfold maxLen; omega, rfl, rfl⟩⟩
set_option maxHeartbeats 1000000 in
set_option maxRecDepth 100000 in
theorem encode_error (e h g : Int) (A : Option Addr) (c : Nat) (l : List S54) (w : World) (hC : Kd.C k54 w A l.length l) (hc : l.length ≤ c) (hl : l.length ≤ 100000) (hr : rightR e h g l = true) (he : e ≠ 0) (he0 : 0 ≤ e) (he1 : e ≤ 14) :
    Calls Try.prog 53 #[.agg #[.int .i64 e, .int .u64 h, .int .u64 g, .slice A l.length c]] w fun en w' => ∃ v, en = .returned (.tuple #[v, .int .i64 0]) ∧ Made w w' v [e] := by
  have HC := Lib.hid hC
  have HR := Lib.hid hr
  have hne : (e == 0) = false := by simpa using he
  have hne' : (e != 0) = true := by simpa using he
  have he8 : e % 256 = e := by omega
  clear hC hr he
  go_enter Try.func53, Try.ntmps53
  go_wp2_with (go_at_call 61; go_loud (refine (reply_Reply_Right.calls 200000 e h g A c l true _ (Kd.C_below HC.out (below_alloc (Below.refl _ _) _)) hc (by rw [rright_f _ _ _ _ _ hl (by omega), HR.out])).mono ?_; rintro en w2 ⟨rfl, hB2⟩; have hp := blk_below (blk_new w _) hB2; have p0 := blk_cell hp 0; have hz2 : w.heap.size < w2.heap.size := blk_lt hp; have HB2 := Lib.hid hB2; clear hB2 hp))
  go_ret2
  exact ⟨_, rfl, own_one _ _ (by omega), below_alloc (below_step (below_alloc (Below.refl _ _) _) HB2.out) _⟩
theorem bcell {W w1 : World} (hb : Below W.heap.size W w1) : (∀ b o, b < W.heap.size → w1.cell? ⟨b, o, none⟩ = W.cell? ⟨b, o, none⟩) ∧ (∀ b o, b < W.heap.size → w1.frozen? ⟨b, o, none⟩ = W.frozen? ⟨b, o, none⟩) :=
  ⟨fun b o h => hb.cell (p := ⟨b, o, none⟩) h, fun b o h => hb.frozen (p := ⟨b, o, none⟩) h⟩
theorem told_calls (A : Option Addr) (n c : Nat) (w : World) : Calls Try.prog 80 #[.slice A n c] w fun e w' => e = .returned (.agg #[.int .i64 0, .int .u64 0, .int .u64 0, .slice A n c]) ∧ Below w.heap.size w w' := by
  go_enter Try.func80, Try.ntmps80
  go_wp2
  refine bodyPost_ret (results_cell_row rfl _ _ w.heap.size 82 #[.int .i64 0, .int .u64 0, .int .u64 0, .slice A n c] (0, 0) _ rfl (blk_new w _) Try.underlying82 rfl (by kernel_rfl)) rfl ?_
  exact ⟨rfl, below_alloc (Below.refl _ _) _⟩
theorem given_calls (w : World) : Calls Try.prog 82 #[.agg #[.int .u64 0, .int .u64 3]] w fun e w' => e = .returned (.agg #[.int .i64 0, .int .u64 0, .int .u64 3, .slice none 0 0]) ∧ Below w.heap.size w w' := by
  go_enter Try.func82, Try.ntmps82
  go_wp2
  refine bodyPost_ret (results_cell_row rfl _ _ (w.heap.size + 1) 82 #[.int .i64 0, .int .u64 0, .int .u64 3, .slice none 0 0] (0, 0) _ rfl (blk_new1 w _ _) Try.underlying82 rfl (by kernel_rfl)) rfl ?_
  exact ⟨rfl, below_alloc (below_alloc (Below.refl _ _) _) _⟩
theorem nil_C (w : World) : Kd.C k54 w none ([] : List S54).length [] := Kd.C_nil k54 w
set_option maxHeartbeats 2000000 in
set_option maxRecDepth 100000 in
theorem lives_calls (w : World) : Calls Try.prog 46 #[] w fun e w' => e = .returned (.bool true) ∧ Below w.heap.size w w' := by
  go_enter Try.func46, Try.ntmps46
  go_wp2_with (first
    | (go_at_call 79; go_loud (refine (reply_Wrong.calls 4 _ _ _ _ _ rfl).mono ?_; rintro e w1 ⟨v1, rfl, hR1, hB1⟩; obtain ⟨A1, c1, rfl, hc1, hC1⟩ := Kd.R_reads hR1; have HB1 := Lib.hid hB1; clear hB1))
    | (go_at_call 53; go_loud (refine (encode_error 4 0 0 A1 c1 [] _ hC1 hc1 (by simp) (by decide) (by decide) (by decide) (by decide)).mono ?_; rintro e w2 ⟨v2, rfl, hM2⟩; have HB2 := Lib.hid (below_step HB1.out hM2.2); have hcv : ∀ V, Below w2.heap.size w2 V → (convert 56 9 v2).run Try.prog V = .ok (.string ⟨#[4]⟩) V := fun V hV => byt_convE (hM2.byt.below hV) (by decide) (by decide +kernel); clear hM2)))
  have hS := Below.refl w2.heap.size w2
  have hf1 : ∀ (A : Option Addr) (n c : Nat) (V : World), (Instr.field 82 (.agg #[.int .i64 0, .int .u64 0, .int .u64 0, .slice A n c]) 2).run Try.prog V = .ok (.slice A n c) V := fun _ _ _ _ => by kernel_rfl
  have hf2 : ∀ (V : World), (Instr.field 82 (.agg #[.int .i64 0, .int .u64 0, .int .u64 3, .slice none 0 0]) 1).run Try.prog V = .ok (.agg #[.int .u64 0, .int .u64 3]) V := fun _ => by kernel_rfl
  have hf3 : ∀ (V : World), (Instr.field 80 (.agg #[.int .u64 0, .int .u64 3]) 1).run Try.prog V = .ok (.int .u64 3) V := fun _ => by kernel_rfl
  go_region_held3 (fun V => Below w2.heap.size w2 V) (repeat' (first | (with_reducible exact Below.refl _ _) | (with_reducible assumption) | (with_reducible refine Below.alloc ?_ ?_ _) | (with_reducible refine Below.drew ?_) | (with_reducible refine Below.setCell ?_ ?_ _) | (with_reducible refine pw_below_drewN ?_ _) | (refine below_step (W := ?_) ?_ ?_; rotate_left 2; (with_reducible assumption)) | go_size)) (first
    | (go_at_call 81; refine (value_Number.calls 1 _ _ _ _ rfl).mono ?_; rintro e w3 ⟨rfl, hB3⟩; obtain ⟨hc3, hf3⟩ := bcell hB3; have hz3 := hB3.size; (try simp only [World.size_alloc, World.size_drew, Nat.add_one_le_iff] at hz3); (try have hy3 := Nat.lt_of_succ_lt hz3); (try have hx3 := Nat.lt_of_lt_of_le (by assumption) hz3); (try have hx3 := Nat.lt_trans (by assumption) hz3))
    | (go_at_call 80; refine (told_calls _ _ _ _).mono ?_; rintro e w4 ⟨rfl, hB4⟩; obtain ⟨hc4, hf4⟩ := bcell hB4; have hz4 := hB4.size; (try simp only [World.size_alloc, World.size_drew, Nat.add_one_le_iff] at hz4); (try have hy4 := Nat.lt_of_succ_lt hz4); (try have hx4 := Nat.lt_of_lt_of_le (by assumption) hz4); (try have hx4 := Nat.lt_trans (by assumption) hz4))
    | (go_at_call 82; refine (given_calls _).mono ?_; rintro e w5 ⟨rfl, hB5⟩; obtain ⟨hc5, hf5⟩ := bcell hB5; have hz5 := hB5.size; (try simp only [World.size_alloc, World.size_drew, Nat.add_one_le_iff] at hz5); (try have hy5 := Nat.lt_of_succ_lt hz5); (try have hx5 := Nat.lt_of_lt_of_le (by assumption) hz5); (try have hx5 := Nat.lt_trans (by assumption) hz5)))
  all_goals (
    have hfin : Below w2.heap.size w2 w5 := by assumption
    have HF := Lib.hid (below_step HB2.out hfin)
    clear hfin
    go_wp2
    go_ret
    exact ⟨rfl, HF.out⟩)
end Go.Proofs.Ytaoacibahdbdkaa.Rep
