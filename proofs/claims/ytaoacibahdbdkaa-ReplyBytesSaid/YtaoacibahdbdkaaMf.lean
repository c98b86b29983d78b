/- Several texts of this claim, laid together: RepY, RepZ. -/
import Derived.Test.YtaoacibahdbdkaaMd
import Derived.Test.YtaoacibahdbdkaaMe
import Derived.Test.YtaoacibahdbdkaaOpen
/-! reply: what was written is read, and the reference's bytes, as a contract. -/
namespace Go.Proofs.Ytaoacibahdbdkaa.Rep
open Go.RowKit Go Go.Proofs.Ytaoacibahdbdkaa.QReplySame Go.Proofs.YtaoacibahdbdkaaW.PrintWords Go.Proofs.YtaoacibahdbdkaaW.PrintLast Go.Proofs.YtaoacibahdbdkaaW.PrintMore Go.Proofs.Ytaoacibahdbdkaa.Fra Go.Proofs.Ytaoacibahdbdkaa.Pk Go.Proofs.Ytaoacibahdbdkaa.Bts Go.Proofs.Ytaoacibahdbdkaa.Pr
/-- Numbers of sixty-four bits. -/
def In64 (l : List S54) : Prop := ∀ x ∈ l, -9223372036854775808 ≤ x.f1 ∧ x.f1 ≤ 9223372036854775807
theorem vals_app : ∀ (l : List S54) (zs : List Int), In64 l → l.all rightS = true → vals l.length (vbs l ++ zs) 0 = (l, zs, 0)
  | [], zs, _, _ => by simp [vals, vbs]
  | x :: l, zs, hi, ha => by
    rw [List.all_cons, Bool.and_eq_true] at ha
    have e : vbs (x :: l) ++ zs = valB x.f0 x.f1 x.f2 ++ (vbs l ++ zs) := by simp [vbs]
    have hr : QPackedPuts.easementref01_Right.f x.f0 x.f1 x.f2 = some true := by rw [refright, ha.1]
    have hv := valueP_app x.f0 x.f1 x.f2 (vbs l ++ zs) hr (hi x (List.mem_cons_self ..))
    have ih := vals_app l zs (fun y hy => hi y (List.mem_cons_of_mem _ hy)) ha.2
    rw [e, List.length_cons, vals_go]
    have hs : valS (valB x.f0 x.f1 x.f2 ++ (vbs l ++ zs)) 0 = x := by unfold valS; rw [hv]
    rw [hs, hv]
    dsimp only
    rw [ih]
theorem takeP_one (x : Int) (zs : List Int) : takeP (x :: zs) 0 1 = ([x], zs, 0) := takeP_app [x] zs 1 rfl
theorem numB_one (x : Int) : numB [x] = x := by simp [numB]
theorem repP_rep {e h g : Int} {l : List S54} (hi : In64 l) (hr : rightR e h g l = true) (hh0 : 0 ≤ h) (hh1 : h ≤ 18446744073709551615) (hg0 : 0 ≤ g) (hg1 : g ≤ 18446744073709551615) : repP (repB e h g l) = ((e, h, g, l), [], 0) := by
  unfold rightR at hr
  simp only [Bool.and_eq_true, decide_eq_true_eq, Bool.or_eq_true] at hr
  obtain ⟨⟨⟨⟨r1, r2⟩, r3⟩, r4⟩, r5⟩ := hr
  unfold repB
  by_cases he : e = 0
  · subst he
    rw [if_pos rfl]
    have e1 : headB h g l.length ++ vbs l = 0 :: (leB h 8 ++ (leB g 8 ++ (leB l.length 2 ++ (vbs l ++ [])))) := by simp [headB]
    rw [e1]
    unfold repP
    rw [takeP_one]
    dsimp only
    rw [if_pos ⟨numB_one 0, rfl⟩, takeP_app _ _ 8 (leB_length _ _)]
    dsimp only
    rw [takeP_app _ _ 8 (leB_length _ _)]
    dsimp only
    rw [takeP_app _ _ 2 (leB_length _ _)]
    dsimp only
    rw [numB_leB, numB_leB, numB_leB]
    have n1 : h % 256 ^ 8 = h := Int.emod_eq_of_lt hh0 (by omega)
    have n2 : g % 256 ^ 8 = g := Int.emod_eq_of_lt hg0 (by omega)
    have n3 : ((l.length : Nat) : Int) % 256 ^ 2 = l.length := Int.emod_eq_of_lt (by omega) (by omega)
    rw [n1, n2, n3, Int.toNat_natCast, vals_app l [] hi r3]
  · rw [if_neg he]
    obtain ⟨⟨q1, q2⟩, q3⟩ := r5.resolve_left he
    have q3' : l = [] := List.eq_nil_of_length_eq_zero q3
    subst q1 q2 q3'
    unfold repP
    rw [takeP_one]
    dsimp only
    rw [if_neg (fun hc => he (by rw [numB_one] at hc; exact hc.1)), numB_one]
/-- Bytes that are put behind one another. -/
structure ANS (w W : World) (h g : Int) (A : Option Addr) (n c : Nat) (v : Value) (xs : List Int) : Prop where
  row : Kd.R (Kd.int .u8) 5 W (w.heap.size + 1) (fun k => w.heap.size + 1 ≤ k) v xs
  box : RQ W w.heap.size 0 h g (.slice A n c)
  bel : Below w.heap.size w W
theorem ANS.below {w W W' : World} {h g : Int} {A : Option Addr} {n c : Nat} {v : Value} {xs : List Int} (H : ANS w W h g A n c v xs) (hb : Below W.heap.size W W') : ANS w W' h g A n c v xs :=
  ⟨Kd.R_below H.row hb, blk_below H.box hb, below_step H.bel hb⟩
theorem ANS.grown {w W W' : World} {h g : Int} {A : Option Addr} {n c : Nat} {v v' : Value} {xs ys : List Int} (H : ANS w W h g A n c v xs) (hr : Kd.R (Kd.int .u8) 5 W' (w.heap.size + 1) (fun k => w.heap.size + 1 ≤ k) v' ys) (hg' : W.grownBy W' v.ownBlock) : ANS w W' h g A n c v' ys :=
  ⟨hr, blk_grown H.box hg' (fun e => by have := H.row.1 _ e.symm; omega), fr_below (S := fun k => some k = v.ownBlock) H.bel ⟨hg'.os, hg'.tape, hg'.output, hg'.size, fun i hi hn => hg'.block i hi hn⟩ (fun k hk => by have := H.row.1 _ hk.symm; omega) (Nat.le_refl _)⟩
theorem ANS.made {w W : World} {h g : Int} {A : Option Addr} {n c : Nat} {v : Value} {xs : List Int} (H : ANS w W h g A n c v xs) : Made w W v xs := ⟨own_weaken (Kd.own_of_R H.row) (Nat.le_succ _), H.bel⟩
theorem ANS.lt {w W : World} {h g : Int} {A : Option Addr} {n c : Nat} {v : Value} {xs : List Int} (H : ANS w W h g A n c v xs) : w.heap.size + 1 ≤ W.heap.size := blk_lt H.box
theorem num_is (n : Int) (z : Nat) (w : World) (h0 : 0 ≤ n) (h1 : n ≤ 18446744073709551615) (hz : z ≤ 8) :
    Calls Try.prog 70 #[.int .u64 n, .int .i64 z] w fun e w' => ∃ A c, e = .returned (.slice A z c) ∧ Kd.C (Kd.int .u8) w' A z (leB n z) ∧ Below w.heap.size w w' := by
  refine (QPackedPuts.easementref02_Number.calls 10 n z _ _ (refNum n h0 h1 z hz)).mono ?_
  rintro e w' ⟨v, rfl, hR, hB⟩
  obtain ⟨A, c, rfl, hc, hC⟩ := Kd.R_reads hR
  rw [leB_length] at hC ⊢
  exact ⟨A, c, rfl, hC, hB⟩
theorem num8 (n : Int) (w : World) (h0 : 0 ≤ n) (h1 : n ≤ 18446744073709551615) :
    Calls Try.prog 70 #[.int .u64 n, .int .i64 8] w fun e w' => ∃ A c, e = .returned (.slice A 8 c) ∧ Kd.C (Kd.int .u8) w' A 8 (leB n 8) ∧ Below w.heap.size w w' := num_is n 8 w h0 h1 (by omega)
theorem num2 (n : Int) (w : World) (h0 : 0 ≤ n) (h1 : n ≤ 18446744073709551615) :
    Calls Try.prog 70 #[.int .u64 n, .int .i64 2] w fun e w' => ∃ A c, e = .returned (.slice A 2 c) ∧ Kd.C (Kd.int .u8) w' A 2 (leB n 2) ∧ Below w.heap.size w w' := num_is n 2 w h0 h1 (by omega)
theorem val_is (x : S54) (w : World) (h0 : 0 ≤ x.f0) (h1 : x.f0 ≤ 255) (hs : x.f2.size ≤ 4096) :
    Calls Try.prog 72 #[.agg #[.int .u8 x.f0, .int .i64 x.f1, .string x.f2]] w fun e w' => ∃ A c, e = .returned (.slice A (valB x.f0 x.f1 x.f2).length c) ∧ Kd.C (Kd.int .u8) w' A (valB x.f0 x.f1 x.f2).length (valB x.f0 x.f1 x.f2) ∧ Below w.heap.size w w' := by
  refine (QPackedPuts.easementref02_Value.calls 10 x.f0 x.f1 x.f2 _ _ (refValue x.f0 x.f1 x.f2 h0 h1 (by omega))).mono ?_
  rintro e w' ⟨v, rfl, hR, hB⟩
  obtain ⟨A, c, rfl, hc, hC⟩ := Kd.R_reads hR
  exact ⟨A, c, rfl, hC, hB⟩
theorem answer_error (e h g : Int) (v : Value) (w : World) (he : e ≠ 0) :
    Calls Try.prog 62 #[.agg #[.int .u8 e, .int .u64 h, .int .u64 g, v]] w fun en w' => ∃ v, en = .returned v ∧ Made w w' v [e] := by
  have b1 : (e == 0) = false := by simpa using he
  have b2 : (e != 0) = true := by simpa using he
  clear he
  go_enter Try.func62, Try.ntmps62
  go_wp2
  go_ret
  have h1 := own_one (w.alloc (.cells #[.int .u8 e, .int .u64 h, .int .u64 g, v] 86)) e (base := w.heap.size) (by rw [World.size_alloc]; omega)
  rw [World.size_alloc] at h1
  exact ⟨_, rfl, h1, below_alloc (below_alloc (Below.refl _ _) _) _⟩
theorem ans_start (w : World) (h g : Int) (A : Option Addr) (n c : Nat) : ANS w ((w.alloc (.cells #[.int .u8 0, .int .u64 h, .int .u64 g, .slice A n c] 86)).alloc (.cells #[.int .u8 0] 5)) h g A n c (.slice (some ⟨w.heap.size + 1, 0, none⟩) 1 1) [0] := by
  have h1 := own_one (w.alloc (.cells #[.int .u8 0, .int .u64 h, .int .u64 g, .slice A n c] 86)) 0 (base := w.heap.size + 1) (by simp)
  rw [World.size_alloc] at h1
  exact ⟨Kd.R_of_own h1 (fun k hk => by cases hk; exact Nat.le_refl _), blk_alloc (blk_new w _) _, below_alloc (below_alloc (Below.refl _ _) _) _⟩
set_option maxHeartbeats 4000000 in
set_option maxRecDepth 100000 in
theorem answer_ok (h g : Int) (A : Option Addr) (c : Nat) (l : List S54) (w : World) (hC : Kd.C k54 w A l.length l) (hl : l.length ≤ 128) (hs : l.all rightS = true) (hh0 : 0 ≤ h) (hh1 : h ≤ 18446744073709551615) (hg0 : 0 ≤ g) (hg1 : g ≤ 18446744073709551615) :
    Calls Try.prog 62 #[.agg #[.int .u8 0, .int .u64 h, .int .u64 g, .slice A l.length c]] w fun en w' => ∃ v, en = .returned v ∧ Made w w' v (headB h g l.length ++ vbs l) := by
  have HC := Lib.hid hC
  have HS := Lib.hid hs
  have H0 := Lib.hid (ans_start w h g A l.length c)
  clear hC hs
  go_enter Try.func62, Try.ntmps62
  go_wp2_with (first
    | (go_at_call 70; go_loud (have _t := H4.out; refine (num2 l.length _ (by omega) (by omega)).mono ?_; rintro en w5 ⟨A5, c5, rfl, hC5, hB5⟩; have H5 := Lib.hid (H4.out.below hB5); have HC5 := Lib.hid hC5; clear hC5 hB5))
    | (go_at_call 70; go_loud (have _t := H2.out; refine (num8 g _ hg0 hg1).mono ?_; rintro en w3 ⟨A3, c3, rfl, hC3, hB3⟩; have H3 := Lib.hid (H2.out.below hB3); have HC3 := Lib.hid hC3; clear hC3 hB3))
    | (go_at_call 70; go_loud (refine (num8 h _ hh0 hh1).mono ?_; rintro en w1 ⟨A1, c1, rfl, hC1, hB1⟩; have H1 := Lib.hid (H0.out.below hB1); have HC1 := Lib.hid hC1; clear hC1 hB1))
    | (at_builtin; go_loud (have _t := HC1.out; refine Kd.R_append_rows (Kd.int .u8) (Rr := (Kd.int .u8).K _) (w0 := _) (w.heap.size + 1) rfl (.tmp 12) (.tmp 16) 56 5 (.int .u8 0) 1 rfl Try.underlying56 Pk.infoByte rfl (by decide) (by decide) _ ([0]) (leB h 8) A1 8 c1 (fun k => w.heap.size + 1 ≤ k) (fun _ => False) rfl rfl H1.out.row HC1.out (fun _ _ h => h) (fun _ h => h.elim) (fun k hk => Nat.le_trans H1.out.lt hk) (Below.refl _ _) H1.out.lt (by simp [headB, leB_length]; try omega) ?_; intro v2 W2 hR2 _ hg2 _; have H2 := Lib.hid (H1.out.grown hR2 hg2); have p1 := blk_cell H2.out.box 1; have p2 := blk_cell H2.out.box 2; have p3 := blk_cell H2.out.box 3; obtain ⟨A2, c2, rfl⟩ := Kd.R_slice hR2; clear hR2 hg2))
    | (at_builtin; go_loud (have _t := HC3.out; refine Kd.R_append_rows (Kd.int .u8) (Rr := (Kd.int .u8).K _) (w0 := _) (w.heap.size + 1) rfl (.tmp 18) (.tmp 22) 56 5 (.int .u8 0) 1 rfl Try.underlying56 Pk.infoByte rfl (by decide) (by decide) _ ([0] ++ leB h 8) (leB g 8) A3 8 c3 (fun k => w.heap.size + 1 ≤ k) (fun _ => False) rfl rfl H3.out.row HC3.out (fun _ _ h => h) (fun _ h => h.elim) (fun k hk => Nat.le_trans H3.out.lt hk) (Below.refl _ _) H3.out.lt (by simp [headB, leB_length]; try omega) ?_; intro v4 W4 hR4 _ hg4 _; have H4 := Lib.hid (H3.out.grown hR4 hg4); have p1 := blk_cell H4.out.box 1; have p2 := blk_cell H4.out.box 2; have p3 := blk_cell H4.out.box 3; obtain ⟨A4, c4, rfl⟩ := Kd.R_slice hR4; clear hR4 hg4))
    | (at_builtin; go_loud (have _t := HC5.out; refine Kd.R_append_rows (Kd.int .u8) (Rr := (Kd.int .u8).K _) (w0 := _) (w.heap.size + 1) rfl (.tmp 24) (.tmp 29) 56 5 (.int .u8 0) 1 rfl Try.underlying56 Pk.infoByte rfl (by decide) (by decide) _ ([0] ++ leB h 8 ++ leB g 8) (leB l.length 2) A5 2 c5 (fun k => w.heap.size + 1 ≤ k) (fun _ => False) rfl rfl H5.out.row HC5.out (fun _ _ h => h) (fun _ h => h.elim) (fun k hk => Nat.le_trans H5.out.lt hk) (Below.refl _ _) H5.out.lt (by simp [headB, leB_length]; try omega) ?_; intro v6 W6 hR6 _ hg6 _; have H6 := Lib.hid (H5.out.grown hR6 hg6); have p1 := blk_cell H6.out.box 1; have p2 := blk_cell H6.out.box 2; have p3 := blk_cell H6.out.box 3; obtain ⟨A6, c6, rfl⟩ := Kd.R_slice hR6; clear hR6 hg6)))
  go_loopw [3, 4] (fun b i wr => ∃ (j : Nat) (A1 : Option Addr) (n1 c1 : Nat), j ≤ l.length ∧ b = .slice A1 n1 c1 ∧ i = .int .i64 j ∧ ANS w wr h g A l.length c (.slice A1 n1 c1) (headB h g l.length ++ vbs (l.take j))) (fun _ i _ => l.length - (intOf i).toNat)
  case atStart => exact ⟨0, A6, _, c6, by omega, rfl, rfl, by simpa [headB, vbs] using H6.out⟩
  case round =>
    obtain ⟨j, A7, n7, c7, hj, rfl, rfl, hH⟩ := hrel
    have HH := Lib.hid hH
    have q3 := blk_cell hH.box 3
    clear hH
    by_cases hlt : j < l.length
    · obtain ⟨x, hx⟩ : ∃ x, l.getD j z54 = x := ⟨_, rfl⟩
      obtain ⟨ad, rfl, a0, a1, a2⟩ := at_V (Kd.C_below HC.out HH.out.bel) j hlt x hx
      have hxs : rightS x = true := by
        have := List.all_eq_true.1 HS.out x (by rw [← hx]; simp [List.getD, hlt])
        exact this
      obtain ⟨hx0, hx1, hx2⟩ := rightS_small hxs
      have HT := Lib.hid (take_snoc l j hlt)
      have HXX := Lib.hid hx
      have HLN := Lib.hid (show (headB h g l.length ++ vbs (l.take j) ++ valB x.f0 x.f1 x.f2).length ≤ 35184372088832 by
        have h1 := vbs_len (l.take (j + 1)) (all_take HS.out (j + 1))
        rw [HT.out, vbs_snoc, HXX.out] at h1
        simp only [List.length_append, List.length_take, List.length_cons, List.length_nil] at h1
        simp only [List.length_append, headB_len]
        omega)
      clear hx hxs
      go_wp2_with (first
        | (go_at_call 72; go_loud (refine (val_is x _ hx0 (by omega) hx2).mono ?_; rintro en w8 ⟨A8, c8, rfl, hC8, hB8⟩; have H8 := Lib.hid (HH.out.below hB8); have HC8 := Lib.hid hC8; clear hC8 hB8))
        | (at_builtin; go_loud (have _t := HC8.out; refine Kd.R_append_rows (Kd.int .u8) (Rr := (Kd.int .u8).K _) (w0 := _) (w.heap.size + 1) rfl (.tmp 38) (.tmp 44) 56 5 (.int .u8 0) 1 rfl Try.underlying56 Pk.infoByte rfl (by decide) (by decide) _ (headB h g l.length ++ vbs (l.take j)) (valB x.f0 x.f1 x.f2) A8 (valB x.f0 x.f1 x.f2).length c8 (fun k => w.heap.size + 1 ≤ k) (fun _ => False) rfl rfl H8.out.row HC8.out (fun _ _ h => h) (fun _ h => h.elim) (fun k hk => Nat.le_trans H8.out.lt hk) (Below.refl _ _) H8.out.lt (by have := HLN.out; rw [List.length_append] at this; omega) ?_; intro v9 W9 hR9 _ hg9 _; have H9 := Lib.hid (H8.out.grown hR9 hg9); obtain ⟨A9, c9, rfl⟩ := Kd.R_slice hR9; clear hR9 hg9)))
      go_roundw
      case rel =>
        refine ⟨j + 1, A9, _, c9, by omega, rfl, by simp, ?_⟩
        rw [HT.out, HXX.out, vbs_snoc, ← List.append_assoc]
        have h9 := H9.out
        simp only [List.length_append, Nat.add_assoc] at h9 ⊢
        exact h9
      case measure => simp [intOf]; omega
    · obtain rfl : j = l.length := by omega
      go_wp2
      go_ret
      have h1 := HH.out.made
      rw [List.take_length] at h1
      exact ⟨_, rfl, h1⟩
end Go.Proofs.Ytaoacibahdbdkaa.Rep
/-! reply: the law ReplyBytes, walked. -/
namespace Go.Proofs.Ytaoacibahdbdkaa.RepZ
open Go.RowKit Go Go.Proofs.Ytaoacibahdbdkaa.QReplySame Go.Proofs.YtaoacibahdbdkaaW.PrintWords Go.Proofs.YtaoacibahdbdkaaW.PrintLast Go.Proofs.YtaoacibahdbdkaaW.PrintMore Go.Proofs.Ytaoacibahdbdkaa.Fra Go.Proofs.Ytaoacibahdbdkaa.Pk Go.Proofs.Ytaoacibahdbdkaa.Bts Go.Proofs.Ytaoacibahdbdkaa.Pr Go.Proofs.Ytaoacibahdbdkaa.Rep Go.Proofs.Ytaoacibahdbdkaa.RepX
theorem right_split {e h g : Int} {l : List S54} (hr : rightR e h g l = true) : 0 ≤ e ∧ e ≤ 14 ∧ l.all rightS = true ∧ l.length ≤ 128 := by
  unfold rightR at hr
  simp only [Bool.and_eq_true, decide_eq_true_eq] at hr
  obtain ⟨⟨⟨⟨r1, r2⟩, r3⟩, r4⟩, _⟩ := hr
  exact ⟨r1, r2, r3, r4⟩
theorem answer_any (e h g : Int) (A : Option Addr) (c : Nat) (l : List S54) (w : World) (hC : Kd.C k54 w A l.length l) (hr : rightR e h g l = true) (hh0 : 0 ≤ h) (hh1 : h ≤ 18446744073709551615) (hg0 : 0 ≤ g) (hg1 : g ≤ 18446744073709551615) :
    Calls Try.prog 62 #[.agg #[.int .u8 e, .int .u64 h, .int .u64 g, .slice A l.length c]] w fun en w' => ∃ v, en = .returned v ∧ Made w w' v (repB e h g l) := by
  obtain ⟨r1, r2, r3, r4⟩ := right_split hr
  unfold repB
  by_cases he : e = 0
  · rw [if_pos he]
    subst he
    exact answer_ok h g A c l w hC r4 r3 hh0 hh1 hg0 hg1
  · rw [if_neg he]
    exact answer_error e h g _ w he
theorem repB_len {e h g : Int} {l : List S54} (hr : rightR e h g l = true) : (repB e h g l).length ≤ 600000 := by
  obtain ⟨r1, r2, r3, r4⟩ := right_split hr
  have h1 := vbs_len l r3
  unfold repB
  split
  · rw [List.length_append, headB_len]; omega
  · simp
theorem bs_vbs : ∀ l : List S54, Bs (vbs l)
  | [] => fun x hx => by simp [vbs] at hx
  | x :: l => by
    have e : vbs (x :: l) = valB x.f0 x.f1 x.f2 ++ vbs l := by simp [vbs]
    rw [e]
    exact bs_app (bs_valB _ _ _) (bs_vbs l)
theorem bs_repB {e h g : Int} {l : List S54} (hr : rightR e h g l = true) : Bs (repB e h g l) := by
  obtain ⟨r1, r2, r3, r4⟩ := right_split hr
  unfold repB
  split
  · exact bs_app (bs_app (bs_app (bs_app (bs_one 0 (by omega) (by omega)) (bs_leB _ _)) (bs_leB _ _)) (bs_leB _ _)) (bs_vbs l)
  · exact bs_one e r1 (by omega)
theorem plain_at (e h g : Int) (A : Option Addr) (c : Nat) (l : List S54) (w : World) (he : e % 256 = e) (hC : Kd.C k54 w A l.length l) (hl : l.length ≤ 100000) :
    Calls Try.prog 48 #[.agg #[.int .i64 e, .int .u64 h, .int .u64 g, .slice A l.length c]] w fun en w' => ∃ v, en = .returned (.agg #[.int .u8 e, .int .u64 h, .int .u64 g, v]) ∧ RV w' v l ∧ Below w.heap.size w w' := by
  have := plain_calls e h g A c l w hC hl
  rw [he] at this
  exact this
theorem same_at (e h g : Int) (v0 v1 : Value) (l : List S54) (w : World) (r0 : RV w v0 l) (r1 : RV w v1 l) (hl : l.length ≤ 100000) :
    Calls Try.prog 47 #[.agg #[.int .u8 e, .int .u64 h, .int .u64 g, v0], .agg #[.int .u8 e, .int .u64 h, .int .u64 g, v1]] w fun en w' => en = .returned (.bool true) ∧ Below w.heap.size w w' := by
  have := same_calls e h g v0 l e h g v1 l w r0 r1 hl
  rw [show sameR e h g l e h g l = true by simp [sameR]] at this
  exact this
theorem Same_at (e h g : Int) (A c A' c' : _) (l : List S54) (w : World) (hC : Kd.C k54 w A l.length l) (hc : l.length ≤ c) (hC' : Kd.C k54 w A' l.length l) (hc' : l.length ≤ c') (hl : l.length ≤ 100000) :
    Calls Try.prog 49 #[.agg #[.int .i64 e, .int .u64 h, .int .u64 g, .slice A l.length c], .agg #[.int .i64 e, .int .u64 h, .int .u64 g, .slice A' l.length c']] w fun en w' => en = .returned (.bool true) ∧ Below w.heap.size w w' :=
  reply_Same.calls 200000 e h g A c l e h g A' c' l true w hC hc hC' hc' (by rw [same_f 200000 e h g l e h g l hl (by omega)]; simp [sameR])
theorem Right_at (e h g : Int) (A c : _) (l : List S54) (w : World) (b : Bool) (hr : rightR e h g l = b) (hC : Kd.C k54 w A l.length l) (hc : l.length ≤ c) (hl : l.length ≤ 100000) :
    Calls Try.prog 61 #[.agg #[.int .i64 e, .int .u64 h, .int .u64 g, .slice A l.length c]] w fun en w' => en = .returned (.bool b) ∧ Below w.heap.size w w' :=
  reply_Reply_Right.calls 200000 e h g A c l b w hC hc (by rw [rright_f 200000 e h g l hl (by omega), hr])
theorem parse_at (e h g : Int) (l : List S54) (v : Value) (w : World) (hv : Byt w v (repB e h g l)) (hr : rightR e h g l = true) (hi : In64 l) (hh0 : 0 ≤ h) (hh1 : h ≤ 18446744073709551615) (hg0 : 0 ≤ g) (hg1 : g ≤ 18446744073709551615) :
    Calls Try.prog 50 #[v] w fun en w' => ∃ A c, en = .returned (.tuple #[.agg #[.int .i64 e, .int .u64 h, .int .u64 g, .slice A l.length c], .int .i64 0]) ∧ l.length ≤ c ∧ Kd.C k54 w' A l.length l ∧ Below w.heap.size w w' := by
  have hp := parse_calls v _ w hv (Nat.le_trans (repB_len hr) (by omega)) (bs_repB hr)
  rw [repP_rep hi hr hh0 hh1 hg0 hg1] at hp
  refine hp.mono ?_
  rintro en w' ⟨hc | ⟨_, hc, _⟩ | ⟨_, _, v, rfl, A, c, rfl, hc, hC⟩, hB⟩
  · exact absurd (by simp [endP]) hc.1
  · dsimp only at hc; rw [hr] at hc; cases hc
  · exact ⟨A, c, rfl, hc, hC, hB⟩
set_option maxHeartbeats 1000000 in
set_option maxRecDepth 100000 in
theorem long_ (e h g : Int) (A : Option Addr) (n c : Nat) (w : World) (hn : n ≤ 140737488351232) (hl : 200 < n) :
    Calls Try.prog 15 #[.agg #[.int .i64 e, .int .u64 h, .int .u64 g, .slice A n c]] w fun e w' => e = .returned (.bool true) ∧ Below w.heap.size w w' := by
  have hl' : (200 : Int) < (n : Int) := by omega
  go_enter Try.func15, Try.ntmps15
  go_wp2_with (first
    | (go_at_call 46; go_loud (have _t := HB.out; refine (lives_calls _).mono ?_; rintro e w2 ⟨rfl, hB2⟩; have HB2 := Lib.hid (below_step HB.out hB2); clear hB2))
    | (go_at_call 46; go_loud (refine (lives_calls _).mono ?_; rintro e w1 ⟨rfl, hB1⟩; have HB := Lib.hid (below_step (below_alloc (Below.refl w.heap.size w) _) hB1); have hp := blk_below (blk_new w _) hB1; have p3 := blk_cell hp 3; clear hB1 hp)))
  go_ret
  exact ⟨rfl, HB2.out⟩
set_option maxHeartbeats 4000000 in
set_option maxRecDepth 100000 in
theorem wrong (e h g : Int) (A : Option Addr) (c : Nat) (l : List S54) (w : World) (hC : Kd.C k54 w A l.length l) (hc : l.length ≤ c) (hl : l.length ≤ 200) (hr : rightR e h g l = false) :
    Calls Try.prog 15 #[.agg #[.int .i64 e, .int .u64 h, .int .u64 g, .slice A l.length c]] w fun e w' => e = .returned (.bool true) ∧ Below w.heap.size w w' := by
  have hl' : (l.length : Int) ≤ 200 := by omega
  have hll : l.length ≤ 100000 := by omega
  have HC := Lib.hid hC
  have hX : rightR (e % 256) h g l = false ∨ (rightR (e % 256) h g l = true ∧ e < 0) ∨ (rightR (e % 256) h g l = true ∧ 0 ≤ e ∧ decide (e < 256) = false) := by
    cases hx : rightR (e % 256) h g l
    · exact .inl rfl
    · by_cases h0 : e < 0
      · exact .inr (.inl ⟨rfl, h0⟩)
      · by_cases h1 : 256 ≤ e
        · exact .inr (.inr ⟨rfl, by omega, decide_eq_false (by omega)⟩)
        · rw [Int.emod_eq_of_lt (by omega) (by omega), hr] at hx; cases hx
  have HR := Lib.hid hr
  have hm : 0 ≤ e % 256 := by omega
  clear hC hr
  have t1 := trivial
  have t2 := trivial
  rcases hX with hX | ⟨hX, t1⟩ | ⟨hX, t1, t2⟩
  all_goals (
    have HX := Lib.hid hX
    clear hX
    go_enter Try.func15, Try.ntmps15
    go_wp2_with (go_at_call 46; go_loud (refine (lives_calls _).mono ?_; rintro en w1 ⟨rfl, hB1⟩; have HB1 := Lib.hid (below_step (below_alloc (Below.refl w.heap.size w) _) hB1); have HP1 := Lib.hid (blk_below (blk_new w _) hB1); have p3 := blk_cell HP1.out 3; clear hB1))
    go_loopw [23] (fun i wr => ∃ (j : Nat), j ≤ l.length ∧ i = .int .i64 j ∧ Below w.heap.size w wr ∧ RP wr w.heap.size e h g (.slice A l.length c)) (fun i _ => l.length - (intOf i).toNat)
    case atStart => exact ⟨0, by omega, rfl, HB1.out, HP1.out⟩
    case round =>
      obtain ⟨j, hj, rfl, hB, hP⟩ := hrel
      have HB := Lib.hid hB
      have HP := Lib.hid hP
      clear hB hP
      by_cases hlt : j < l.length
      · obtain ⟨x, hx⟩ : ∃ x, l.getD j z54 = x := ⟨_, rfl⟩
        obtain ⟨ad, rfl, a0, a1, a2⟩ := at_V (Kd.C_below HC.out HB.out) j hlt x hx
        clear hx
        by_cases hs : 5000 < x.f2.size
        · have hs' : (5000 : Int) < (x.f2.size : Int) := by omega
          go_wp2
          go_ret
          exact ⟨rfl, below_alloc HB.out _⟩
        · have hs' : (x.f2.size : Int) ≤ 5000 := by omega
          go_wp2
          go_roundw
          case rel => exact ⟨j + 1, by omega, by simp, below_alloc HB.out _, blk_alloc HP.out _⟩
          case measure => simp [intOf]; omega
      · obtain rfl : j = l.length := by omega
        have p0 := blk_cell HP.out 0
        have p1 := blk_cell HP.out 1
        have p2 := blk_cell HP.out 2
        have p3 := blk_cell HP.out 3
        go_wp2_with (first
          | (go_at_call 61; go_loud (refine (Right_at e h g A c l _ false HR.out (Kd.C_below HC.out HB7.out) hc hll).mono ?_; rintro en w8 ⟨rfl, hB8⟩; have HB8 := Lib.hid (below_step HB7.out hB8); clear hB8))
          | (go_at_call 53; go_loud (refine (encode_wrong e h g A c l _ (Kd.C_below HC.out HB6.out) hc hll HR.out).mono ?_; rintro en w7 ⟨rfl, hB7⟩; have HB7 := Lib.hid (below_step HB6.out hB7); have HP7 := Lib.hid (blk_below HP6.out hB7); have p0 := blk_cell HP7.out 0; have p1 := blk_cell HP7.out 1; have p2 := blk_cell HP7.out 2; have p3 := blk_cell HP7.out 3; clear hB7))
          | (go_at_call 52; go_loud (refine (lright_calls (e % 256) h g A5 c5 l _ (Kd.C_below HC5.out (below_alloc (Below.refl _ _) _)) hc5 hll hm).mono ?_; rw [HX.out]; rintro en w6 ⟨rfl, hB6⟩; have HB6 := Lib.hid (below_step (below_alloc HB5.out _) hB6); have HP6 := Lib.hid (blk_below (blk_alloc HP5.out _) hB6); have p0 := blk_cell HP6.out 0; have p1 := blk_cell HP6.out 1; have p2 := blk_cell HP6.out 2; have p3 := blk_cell HP6.out 3; clear hB6))
          | (go_at_call 48; go_loud (refine (plain_calls e h g A c l _ (Kd.C_below HC.out HB.out) hll).mono ?_; rintro en w5 ⟨v5, rfl, ⟨A5, c5, rfl, hc5, hC5⟩, hB5⟩; have HB5 := Lib.hid (below_step HB.out hB5); have HP5 := Lib.hid (blk_below HP.out hB5); have HC5 := Lib.hid hC5; clear hB5 hC5)))
        go_ret
        exact ⟨rfl, HB8.out⟩)
set_option maxHeartbeats 4000000 in
set_option maxRecDepth 100000 in
theorem good (e h g : Int) (A : Option Addr) (c : Nat) (l : List S54) (w : World) (hC : Kd.C k54 w A l.length l) (hc : l.length ≤ c) (hl : l.length ≤ 200) (hi : In64 l) (hr : rightR e h g l = true) (hh0 : 0 ≤ h) (hh1 : h ≤ 18446744073709551615) (hg0 : 0 ≤ g) (hg1 : g ≤ 18446744073709551615) :
    Calls Try.prog 15 #[.agg #[.int .i64 e, .int .u64 h, .int .u64 g, .slice A l.length c]] w fun e w' => e = .returned (.bool true) ∧ Below w.heap.size w w' := by
  have hl' : (l.length : Int) ≤ 200 := by omega
  have hll : l.length ≤ 100000 := by omega
  have HC := Lib.hid hC
  obtain ⟨e0, e1, _, _⟩ := right_split hr
  have he : e % 256 = e := by omega
  have he256 : e < 256 := by omega
  have hlen := repB_len hr
  obtain ⟨Z, hZ⟩ : ∃ Z, repB e h g l = Z := ⟨_, rfl⟩
  have HPA := fun (v : Value) (V : World) (hv : Byt V v (repB e h g l)) => parse_at e h g l v V hv hr hi hh0 hh1 hg0 hg1
  have HAN := fun (A : Option Addr) (c : Nat) (V : World) (hC : Kd.C k54 V A l.length l) => answer_any e h g A c l V hC hr hh0 hh1 hg0 hg1
  have HEN := fun (V : World) (hC : Kd.C k54 V A l.length l) => encode_any e h g A c l V hC hc hr hh0 hg0
  rw [hZ] at HPA HAN HEN hlen
  have HPA := Lib.hid HPA
  have HAN := Lib.hid HAN
  have HEN := Lib.hid HEN
  have HR := Lib.hid hr
  have HE := Lib.hid he
  clear hC hr he hZ hi
  go_enter Try.func15, Try.ntmps15
  go_wp2_with (go_at_call 46; go_loud (refine (lives_calls _).mono ?_; rintro en w1 ⟨rfl, hB1⟩; have HB1 := Lib.hid (below_step (below_alloc (Below.refl w.heap.size w) _) hB1); have HP1 := Lib.hid (blk_below (blk_new w _) hB1); have p3 := blk_cell HP1.out 3; clear hB1))
  go_loopw [23] (fun i wr => ∃ (j : Nat), j ≤ l.length ∧ i = .int .i64 j ∧ Below w.heap.size w wr ∧ RP wr w.heap.size e h g (.slice A l.length c)) (fun i _ => l.length - (intOf i).toNat)
  case atStart => exact ⟨0, by omega, rfl, HB1.out, HP1.out⟩
  case round =>
    obtain ⟨j, hj, rfl, hB, hP⟩ := hrel
    have HB := Lib.hid hB
    have HP := Lib.hid hP
    clear hB hP
    by_cases hlt : j < l.length
    · obtain ⟨x, hx⟩ : ∃ x, l.getD j z54 = x := ⟨_, rfl⟩
      obtain ⟨ad, rfl, a0, a1, a2⟩ := at_V (Kd.C_below HC.out HB.out) j hlt x hx
      clear hx
      by_cases hs : 5000 < x.f2.size
      · have hs' : (5000 : Int) < (x.f2.size : Int) := by omega
        go_wp2
        go_ret
        exact ⟨rfl, below_alloc HB.out _⟩
      · have hs' : (x.f2.size : Int) ≤ 5000 := by omega
        go_wp2
        go_roundw
        case rel => exact ⟨j + 1, by omega, by simp, below_alloc HB.out _, blk_alloc HP.out _⟩
        case measure => simp [intOf]; omega
    · obtain rfl : j = l.length := by omega
      have p0 := blk_cell HP.out 0
      have p1 := blk_cell HP.out 1
      have p2 := blk_cell HP.out 2
      have p3 := blk_cell HP.out 3
      go_wp2_with (first
        | (go_at_call 50; go_loud (refine (HPA.out _ _ BY8.out).mono ?_; rintro en w9 ⟨A9, c9, rfl, hc9, hC9, hB9⟩; have HB9 := Lib.hid hB9; have HC9 := Lib.hid hC9; clear hB9 hC9))
        | (go_at_call 61; go_loud (refine (Right_at e h g A c l _ true HR.out (Kd.C_below HC.out HB7.out) hc hll).mono ?_; rintro en w8 ⟨rfl, hB8⟩; have HB8 := Lib.hid (below_step HB7.out hB8); have HP8 := Lib.hid (blk_below HP7.out hB8); have HQ8 := Lib.hid (blk_below HQ7.out hB8); have HC8 := Lib.hid (Kd.C_below HC7.out hB8); have BY8 := Lib.hid (HM7.out.byt.below hB8); clear hB8))
        | (go_at_call 53; go_loud (refine (HEN.out _ (Kd.C_below HC.out HB6.out)).mono ?_; rintro en w7 ⟨v7, rfl, hM7⟩; have HM7 := Lib.hid hM7; have HB7 := Lib.hid (below_step HB6.out hM7.2); have HP7 := Lib.hid (blk_below HP6.out hM7.2); have HQ7 := Lib.hid (blk_below HQ6.out hM7.2); have HC7 := Lib.hid (Kd.C_below HC6.out hM7.2); have p0 := blk_cell HP7.out 0; have p1 := blk_cell HP7.out 1; have p2 := blk_cell HP7.out 2; have p3 := blk_cell HP7.out 3; clear hM7))
        | (go_at_call 52; go_loud (refine (lright_calls e h g A5 c5 l _ (Kd.C_below HC5.out (below_alloc (Below.refl _ _) _)) hc5 hll e0).mono ?_; rw [HR.out]; rintro en w6 ⟨rfl, hB6⟩; have HB6 := Lib.hid (below_step (below_alloc HB5.out _) hB6); have HP6 := Lib.hid (blk_below (blk_alloc HP5.out _) hB6); have HQ6 := Lib.hid (blk_below (blk_new w5 _) hB6); have HC6 := Lib.hid (Kd.C_below (Kd.C_below HC5.out (below_alloc (Below.refl _ _) _)) hB6); have p0 := blk_cell HP6.out 0; have p1 := blk_cell HP6.out 1; have p2 := blk_cell HP6.out 2; have p3 := blk_cell HP6.out 3; clear hB6))
        | (go_at_call 48; go_loud (refine (plain_at e h g A c l _ HE.out (Kd.C_below HC.out HB.out) hll).mono ?_; rintro en w5 ⟨v5, rfl, ⟨A5, c5, rfl, hc5, hC5⟩, hB5⟩; have HB5 := Lib.hid (below_step HB.out hB5); have HP5 := Lib.hid (blk_below HP.out hB5); have HC5 := Lib.hid hC5; clear hB5 hC5)))
      obtain ⟨W9, hW9⟩ : ∃ W9, (w9.alloc (.cells #[.int .i64 e, .int .u64 h, .int .u64 g, .slice A9 l.length c9] 82)) = W9 := ⟨_, rfl⟩
      have hB8 : Below w8.heap.size w8 W9 := by rw [← hW9]; exact below_alloc HB9.out _
      have HPS := Lib.hid (show RP W9 w9.heap.size e h g (.slice A9 l.length c9) by rw [← hW9]; exact blk_new w9 _)
      have HC9' := Lib.hid (show Kd.C k54 W9 A9 l.length l by rw [← hW9]; exact Kd.C_below HC9.out (below_alloc (Below.refl _ _) _))
      have HB := Lib.hid (below_step HB8.out hB8)
      have HP9 := Lib.hid (blk_below HP8.out hB8)
      have HQ9 := Lib.hid (blk_below HQ8.out hB8)
      have HC5' := Lib.hid (Kd.C_below HC8.out hB8)
      have BY9 := Lib.hid (BY8.out.below hB8)
      rw [hW9]
      clear hW9 hB8 p0 p1 p2 p3
      have hS := Below.refl W9.heap.size W9
      have hS1 := below_drew1 hS
      have KC := Lib.hid (show ∀ V, Below W9.heap.size W9 V → (convert 56 9 v7).run Try.prog V = .ok (.string (strOfNums Z)) V from fun V hV => byt_conv (BY9.out.below hV) (by omega))
      have KP := Lib.hid (show ∀ V, Below W9.heap.size W9 V → RP V w.heap.size e h g (.slice A l.length c) from fun V hV => blk_below HP9.out hV)
      have KQ := Lib.hid (show ∀ V, Below W9.heap.size W9 V → RQ V w5.heap.size e h g (.slice A5 l.length c5) from fun V hV => blk_below HQ9.out hV)
      have KS := Lib.hid (show ∀ V, Below W9.heap.size W9 V → RP V w9.heap.size e h g (.slice A9 l.length c9) from fun V hV => blk_below HPS.out hV)
      have K0 := Lib.hid (show ∀ V, Below W9.heap.size W9 V → Kd.C k54 V A l.length l from fun V hV => Kd.C_below HC.out (below_step HB.out hV))
      have K5 := Lib.hid (show ∀ V, Below W9.heap.size W9 V → Kd.C k54 V A5 l.length l from fun V hV => Kd.C_below HC5'.out hV)
      have K9 := Lib.hid (show ∀ V, Below W9.heap.size W9 V → Kd.C k54 V A9 l.length l from fun V hV => Kd.C_below HC9'.out hV)
      refine start_ (n := 22) (S := fun w' => (convert 56 9 v7).run Try.prog w' = .ok (.string (strOfNums Z)) w' ∧ w'.cell? ⟨w.heap.size, 0, none⟩ = some (.int .i64 e) ∧ w'.cell? ⟨w.heap.size, 1, none⟩ = some (.int .u64 h) ∧ w'.cell? ⟨w.heap.size, 2, none⟩ = some (.int .u64 g) ∧ w'.cell? ⟨w.heap.size, 3, none⟩ = some (.slice A l.length c) ∧ w'.cell? ⟨w5.heap.size, 0, none⟩ = some (.int .u8 e) ∧ w'.cell? ⟨w5.heap.size, 1, none⟩ = some (.int .u64 h) ∧ w'.cell? ⟨w5.heap.size, 2, none⟩ = some (.int .u64 g) ∧ w'.cell? ⟨w5.heap.size, 3, none⟩ = some (.slice A5 l.length c5) ∧ w'.cell? ⟨w9.heap.size, 0, none⟩ = some (.int .i64 e) ∧ w'.cell? ⟨w9.heap.size, 1, none⟩ = some (.int .u64 h) ∧ w'.cell? ⟨w9.heap.size, 2, none⟩ = some (.int .u64 g) ∧ w'.cell? ⟨w9.heap.size, 3, none⟩ = some (.slice A9 l.length c9)) (ds := []) #[false, false, false, false, false, false, false, false, false, false, false, false, false, false, false, false, false, false, false, false, false, false] (by kernel_rfl) rfl rfl ⟨(KC.out _ hS1), (blk_cell (KP.out _ hS1) 0), (blk_cell (KP.out _ hS1) 1), (blk_cell (KP.out _ hS1) 2), (blk_cell (KP.out _ hS1) 3), (blk_cell (KQ.out _ hS1) 0), (blk_cell (KQ.out _ hS1) 1), (blk_cell (KQ.out _ hS1) 2), (blk_cell (KQ.out _ hS1) 3), (blk_cell (KS.out _ hS1) 0), (blk_cell (KS.out _ hS1) 1), (blk_cell (KS.out _ hS1) 2), (blk_cell (KS.out _ hS1) 3)⟩ (fun hHeld => ?_)
      refine pure_ (i := 0) (N := some 75) (v := ?_) (a' := ?_) #[true, false, false, false, false, false, false, false, false, false, false, false, false, false, false, false, false, false, false, false, false, false] rfl rfl (by kernel_rfl) (fun _ _ _ h => h) (Or.inl ⟨by rfl, ?_⟩) ?_ ?_
      rotate_left
      · intro w'
        go_simp
        with_reducible rfl
      rotate_left
      · simp only [Act.put, List.setIfInBounds_toArray, List.set_cons_zero, List.set_cons_succ, i64_w, i32_w]
        rfl
      refine take_ (i := 1) (N := some 76) (v := ?_) (a' := ?_) #[true, true, false, false, false, false, false, false, false, false, false, false, false, false, false, false, false, false, false, false, false, false] rfl rfl (by kernel_rfl) (fun _ _ _ h => h) (Or.inl ⟨by rfl, ?_⟩) hHeld ?_ ?_
      rotate_left
      · rintro w' ⟨s0, s1, s2, s3, s4, s5, s6, s7, s8, s9, s10, s11, s12⟩
        go_simp
        with_reducible rfl
      rotate_left
      · simp only [Act.put, List.setIfInBounds_toArray, List.set_cons_zero, List.set_cons_succ, i64_w, i32_w]
        rfl
      refine take_ (i := 2) (N := some 77) (v := ?_) (a' := ?_) #[true, true, true, false, false, false, false, false, false, false, false, false, false, false, false, false, false, false, false, false, false, false] rfl rfl (by kernel_rfl) (fun _ _ _ h => h) (Or.inl ⟨by rfl, ?_⟩) hHeld ?_ ?_
      rotate_left
      · rintro w' ⟨s0, s1, s2, s3, s4, s5, s6, s7, s8, s9, s10, s11, s12⟩
        go_simp
        with_reducible rfl
      rotate_left
      · simp only [Act.put, List.setIfInBounds_toArray, List.set_cons_zero, List.set_cons_succ, i64_w, i32_w]
        rfl
      refine one_ (i := 3) (N := some 78) #[true, true, true, true, false, false, false, false, false, false, false, false, false, false, false, false, false, false, false, false, false, false] rfl rfl (by kernel_rfl) (by decide) (fun K hK => ?_)
      refine goes_ Try.func62 (by kernel_rfl) rfl #[.agg #[.int .u8 e, .int .u64 h, .int .u64 g, .slice A5 l.length c5]] (by rfl) rfl rfl (by simp only [List.map_toArray, List.map_cons, List.map_nil]; rfl) ?_
      with_reducible refine (HAN.out A5 c5 _ (K5.out _ hS1)).mono ?_
      rintro e10 w10 ⟨v10, rfl, hM10⟩
      refine ⟨_, rfl, ?_⟩
      have hS2 := below_step hS1 hM10.2
      have hcv10 := byt_conv hM10.byt (by omega)
      refine hK.out _ _ ⟨(KC.out _ hS2), (blk_cell (KP.out _ hS2) 0), (blk_cell (KP.out _ hS2) 1), (blk_cell (KP.out _ hS2) 2), (blk_cell (KP.out _ hS2) 3), (blk_cell (KQ.out _ hS2) 0), (blk_cell (KQ.out _ hS2) 1), (blk_cell (KQ.out _ hS2) 2), (blk_cell (KQ.out _ hS2) 3), (blk_cell (KS.out _ hS2) 0), (blk_cell (KS.out _ hS2) 1), (blk_cell (KS.out _ hS2) 2), (blk_cell (KS.out _ hS2) 3)⟩ (fun hHeld => ?_)
      clear hK K
      refine norm_ (a' := ?_) ?_ ?_
      rotate_left
      · show Act.put _ (some 78) _ = _
        simp only [Act.put, List.setIfInBounds_toArray, List.set_cons_zero, List.set_cons_succ, i64_w, i32_w]
        rfl
      refine one_ (i := 4) (N := some 79) #[true, true, true, true, true, false, false, false, false, false, false, false, false, false, false, false, false, false, false, false, false, false] rfl rfl (by kernel_rfl) (by decide) (fun K hK => ?_)
      refine value_ (w1 := ?_) (v := ?_) (by rfl) rfl ?_ ?_
      rotate_left 2
      · go_simp
        constructor
        · rfl
        · rfl
      refine hK.out _ _ ⟨(KC.out _ hS2), (blk_cell (KP.out _ hS2) 0), (blk_cell (KP.out _ hS2) 1), (blk_cell (KP.out _ hS2) 2), (blk_cell (KP.out _ hS2) 3), (blk_cell (KQ.out _ hS2) 0), (blk_cell (KQ.out _ hS2) 1), (blk_cell (KQ.out _ hS2) 2), (blk_cell (KQ.out _ hS2) 3), (blk_cell (KS.out _ hS2) 0), (blk_cell (KS.out _ hS2) 1), (blk_cell (KS.out _ hS2) 2), (blk_cell (KS.out _ hS2) 3)⟩ (fun hHeld => ?_)
      clear hK K
      refine norm_ (a' := ?_) ?_ ?_
      rotate_left
      · show Act.put _ (some 79) _ = _
        simp only [Act.put, List.setIfInBounds_toArray, List.set_cons_zero, List.set_cons_succ, i64_w, i32_w]
        rfl
      refine pure_ (i := 5) (N := some 80) (v := ?_) (a' := ?_) #[true, true, true, true, true, true, false, false, false, false, false, false, false, false, false, false, false, false, false, false, false, false] rfl rfl (by kernel_rfl) (fun _ _ _ h => h) (Or.inl ⟨by rfl, ?_⟩) ?_ ?_
      rotate_left
      · intro w'
        go_simp
        with_reducible rfl
      rotate_left
      · simp only [Act.put, List.setIfInBounds_toArray, List.set_cons_zero, List.set_cons_succ, i64_w, i32_w]
        rfl
      refine pure_ (i := 6) (N := some 81) (v := ?_) (a' := ?_) #[true, true, true, true, true, true, true, false, false, false, false, false, false, false, false, false, false, false, false, false, false, false] rfl rfl (by kernel_rfl) (fun _ _ _ h => h) (Or.inl ⟨by rfl, ?_⟩) ?_ ?_
      rotate_left
      · intro w'
        go_simp
        with_reducible rfl
      rotate_left
      · simp only [Act.put, List.setIfInBounds_toArray, List.set_cons_zero, List.set_cons_succ, i64_w, i32_w]
        rfl
      refine pure_ (i := 7) (N := some 82) (v := ?_) (a' := ?_) #[true, true, true, true, true, true, true, true, false, false, false, false, false, false, false, false, false, false, false, false, false, false] rfl rfl (by kernel_rfl) (fun _ _ _ h => h) (Or.inl ⟨by rfl, ?_⟩) ?_ ?_
      rotate_left
      · intro w'
        go_simp
        with_reducible rfl
      rotate_left
      · simp only [Act.put, List.setIfInBounds_toArray, List.set_cons_zero, List.set_cons_succ, i64_w, i32_w]
        rfl
      refine pure_ (i := 8) (N := some 83) (v := ?_) (a' := ?_) #[true, true, true, true, true, true, true, true, true, false, false, false, false, false, false, false, false, false, false, false, false, false] rfl rfl (by kernel_rfl) (fun _ _ _ h => h) (Or.inl ⟨by rfl, ?_⟩) ?_ ?_
      rotate_left
      · intro w'
        go_simp
        with_reducible rfl
      rotate_left
      · simp only [Act.put, List.setIfInBounds_toArray, List.set_cons_zero, List.set_cons_succ, i64_w, i32_w]
        rfl
      refine pure_ (i := 9) (N := some 84) (v := ?_) (a' := ?_) #[true, true, true, true, true, true, true, true, true, true, false, false, false, false, false, false, false, false, false, false, false, false] rfl rfl (by kernel_rfl) (fun _ _ _ h => h) (Or.inl ⟨by rfl, ?_⟩) ?_ ?_
      rotate_left
      · intro w'
        go_simp
        with_reducible rfl
      rotate_left
      · simp only [Act.put, List.setIfInBounds_toArray, List.set_cons_zero, List.set_cons_succ, i64_w, i32_w]
        rfl
      refine pure_ (i := 10) (N := some 85) (v := ?_) (a' := ?_) #[true, true, true, true, true, true, true, true, true, true, true, false, false, false, false, false, false, false, false, false, false, false] rfl rfl (by kernel_rfl) (fun _ _ _ h => h) (Or.inl ⟨by rfl, ?_⟩) ?_ ?_
      rotate_left
      · intro w'
        go_simp
        with_reducible rfl
      rotate_left
      · simp only [Act.put, List.setIfInBounds_toArray, List.set_cons_zero, List.set_cons_succ, i64_w, i32_w]
        rfl
      refine take_ (i := 11) (N := some 86) (v := ?_) (a' := ?_) #[true, true, true, true, true, true, true, true, true, true, true, true, false, false, false, false, false, false, false, false, false, false] rfl rfl (by kernel_rfl) (fun _ _ _ h => h) (Or.inl ⟨by rfl, ?_⟩) hHeld ?_ ?_
      rotate_left
      · rintro w' ⟨s0, s1, s2, s3, s4, s5, s6, s7, s8, s9, s10, s11, s12⟩
        go_simp
        with_reducible rfl
      rotate_left
      · simp only [Act.put, List.setIfInBounds_toArray, List.set_cons_zero, List.set_cons_succ, i64_w, i32_w]
        rfl
      refine take_ (i := 12) (N := some 87) (v := ?_) (a' := ?_) #[true, true, true, true, true, true, true, true, true, true, true, true, true, false, false, false, false, false, false, false, false, false] rfl rfl (by kernel_rfl) (fun _ _ _ h => h) (Or.inl ⟨by rfl, ?_⟩) hHeld ?_ ?_
      rotate_left
      · rintro w' ⟨s0, s1, s2, s3, s4, s5, s6, s7, s8, s9, s10, s11, s12⟩
        go_simp
        with_reducible rfl
      rotate_left
      · simp only [Act.put, List.setIfInBounds_toArray, List.set_cons_zero, List.set_cons_succ, i64_w, i32_w]
        rfl
      refine one_ (i := 13) (N := some 88) #[true, true, true, true, true, true, true, true, true, true, true, true, true, true, false, false, false, false, false, false, false, false] rfl rfl (by kernel_rfl) (by decide) (fun K hK => ?_)
      refine goes_ Try.func49 (by kernel_rfl) rfl #[.agg #[.int .i64 e, .int .u64 h, .int .u64 g, .slice A l.length c], .agg #[.int .i64 e, .int .u64 h, .int .u64 g, .slice A9 l.length c9]] (by rfl) rfl rfl (by simp only [List.map_toArray, List.map_cons, List.map_nil]; rfl) ?_
      with_reducible refine (Same_at e h g A c A9 c9 l _ (K0.out _ hS2) hc (K9.out _ hS2) hc9 hll).mono ?_
      rintro e11 w11 ⟨rfl, hB11⟩
      refine ⟨_, rfl, ?_⟩
      have hS3 := below_step hS2 hB11
      refine hK.out _ _ ⟨(KC.out _ hS3), (blk_cell (KP.out _ hS3) 0), (blk_cell (KP.out _ hS3) 1), (blk_cell (KP.out _ hS3) 2), (blk_cell (KP.out _ hS3) 3), (blk_cell (KQ.out _ hS3) 0), (blk_cell (KQ.out _ hS3) 1), (blk_cell (KQ.out _ hS3) 2), (blk_cell (KQ.out _ hS3) 3), (blk_cell (KS.out _ hS3) 0), (blk_cell (KS.out _ hS3) 1), (blk_cell (KS.out _ hS3) 2), (blk_cell (KS.out _ hS3) 3)⟩ (fun hHeld => ?_)
      clear hK K
      refine norm_ (a' := ?_) ?_ ?_
      rotate_left
      · show Act.put _ (some 88) _ = _
        simp only [Act.put, List.setIfInBounds_toArray, List.set_cons_zero, List.set_cons_succ, i64_w, i32_w]
        rfl
      refine pure_ (i := 14) (N := some 89) (v := ?_) (a' := ?_) #[true, true, true, true, true, true, true, true, true, true, true, true, true, true, true, false, false, false, false, false, false, false] rfl rfl (by kernel_rfl) (fun _ _ _ h => h) (Or.inl ⟨by rfl, ?_⟩) ?_ ?_
      rotate_left
      · intro w'
        go_simp
        with_reducible rfl
      rotate_left
      · simp only [Act.put, List.setIfInBounds_toArray, List.set_cons_zero, List.set_cons_succ, i64_w, i32_w]
        rfl
      refine pure_ (i := 15) (N := some 90) (v := ?_) (a' := ?_) #[true, true, true, true, true, true, true, true, true, true, true, true, true, true, true, true, false, false, false, false, false, false] rfl rfl (by kernel_rfl) (fun _ _ _ h => h) (Or.inl ⟨by rfl, ?_⟩) ?_ ?_
      rotate_left
      · intro w'
        go_simp
        with_reducible rfl
      rotate_left
      · simp only [Act.put, List.setIfInBounds_toArray, List.set_cons_zero, List.set_cons_succ, i64_w, i32_w]
        rfl
      refine take_ (i := 16) (N := some 91) (v := ?_) (a' := ?_) #[true, true, true, true, true, true, true, true, true, true, true, true, true, true, true, true, true, false, false, false, false, false] rfl rfl (by kernel_rfl) (fun _ _ _ h => h) (Or.inl ⟨by rfl, ?_⟩) hHeld ?_ ?_
      rotate_left
      · rintro w' ⟨s0, s1, s2, s3, s4, s5, s6, s7, s8, s9, s10, s11, s12⟩
        go_simp
        with_reducible rfl
      rotate_left
      · simp only [Act.put, List.setIfInBounds_toArray, List.set_cons_zero, List.set_cons_succ, i64_w, i32_w]
        rfl
      refine take_ (i := 18) (N := some 93) (v := ?_) (a' := ?_) #[true, true, true, true, true, true, true, true, true, true, true, true, true, true, true, true, true, false, true, false, false, false] rfl rfl (by kernel_rfl) (fun _ _ _ h => h) (Or.inl ⟨by rfl, ?_⟩) hHeld ?_ ?_
      rotate_left
      · rintro w' ⟨s0, s1, s2, s3, s4, s5, s6, s7, s8, s9, s10, s11, s12⟩
        go_simp
        with_reducible rfl
      rotate_left
      · simp only [Act.put, List.setIfInBounds_toArray, List.set_cons_zero, List.set_cons_succ, i64_w, i32_w]
        rfl
      refine one_ (i := 17) (N := some 92) #[true, true, true, true, true, true, true, true, true, true, true, true, true, true, true, true, true, true, true, false, false, false] rfl rfl (by kernel_rfl) (by decide) (fun K hK => ?_)
      refine goes_ Try.func48 (by kernel_rfl) rfl #[.agg #[.int .i64 e, .int .u64 h, .int .u64 g, .slice A9 l.length c9]] (by rfl) rfl rfl (by simp only [List.map_toArray, List.map_cons, List.map_nil]; rfl) ?_
      with_reducible refine (plain_at e h g A9 c9 l _ HE.out (K9.out _ hS3) hll).mono ?_
      rintro e12 w12 ⟨v12, rfl, hv12, hB12⟩
      refine ⟨_, rfl, ?_⟩
      have hS4 := below_step hS3 hB12
      refine hK.out _ _ ⟨(KC.out _ hS4), (blk_cell (KP.out _ hS4) 0), (blk_cell (KP.out _ hS4) 1), (blk_cell (KP.out _ hS4) 2), (blk_cell (KP.out _ hS4) 3), (blk_cell (KQ.out _ hS4) 0), (blk_cell (KQ.out _ hS4) 1), (blk_cell (KQ.out _ hS4) 2), (blk_cell (KQ.out _ hS4) 3), (blk_cell (KS.out _ hS4) 0), (blk_cell (KS.out _ hS4) 1), (blk_cell (KS.out _ hS4) 2), (blk_cell (KS.out _ hS4) 3)⟩ (fun hHeld => ?_)
      clear hK K
      refine norm_ (a' := ?_) ?_ ?_
      rotate_left
      · show Act.put _ (some 92) _ = _
        simp only [Act.put, List.setIfInBounds_toArray, List.set_cons_zero, List.set_cons_succ, i64_w, i32_w]
        rfl
      refine one_ (i := 19) (N := some 94) #[true, true, true, true, true, true, true, true, true, true, true, true, true, true, true, true, true, true, true, true, false, false] rfl rfl (by kernel_rfl) (by decide) (fun K hK => ?_)
      refine goes_ Try.func47 (by kernel_rfl) rfl #[.agg #[.int .u8 e, .int .u64 h, .int .u64 g, v12], .agg #[.int .u8 e, .int .u64 h, .int .u64 g, .slice A5 l.length c5]] (by rfl) rfl rfl (by simp only [List.map_toArray, List.map_cons, List.map_nil]; rfl) ?_
      with_reducible refine (same_at e h g _ _ l _ hv12 (rv_mk hc5 (K5.out _ hS4)) hll).mono ?_
      rintro e13 w13 ⟨rfl, hB13⟩
      refine ⟨_, rfl, ?_⟩
      have hS5 := below_step hS4 hB13
      refine hK.out _ _ ⟨(KC.out _ hS5), (blk_cell (KP.out _ hS5) 0), (blk_cell (KP.out _ hS5) 1), (blk_cell (KP.out _ hS5) 2), (blk_cell (KP.out _ hS5) 3), (blk_cell (KQ.out _ hS5) 0), (blk_cell (KQ.out _ hS5) 1), (blk_cell (KQ.out _ hS5) 2), (blk_cell (KQ.out _ hS5) 3), (blk_cell (KS.out _ hS5) 0), (blk_cell (KS.out _ hS5) 1), (blk_cell (KS.out _ hS5) 2), (blk_cell (KS.out _ hS5) 3)⟩ (fun hHeld => ?_)
      clear hK K
      refine norm_ (a' := ?_) ?_ ?_
      rotate_left
      · show Act.put _ (some 94) _ = _
        simp only [Act.put, List.setIfInBounds_toArray, List.set_cons_zero, List.set_cons_succ, i64_w, i32_w]
        rfl
      refine pure_ (i := 20) (N := some 95) (v := ?_) (a' := ?_) #[true, true, true, true, true, true, true, true, true, true, true, true, true, true, true, true, true, true, true, true, true, false] rfl rfl (by kernel_rfl) (fun _ _ _ h => h) (Or.inl ⟨by rfl, ?_⟩) ?_ ?_
      rotate_left
      · intro w'
        go_simp
        with_reducible rfl
      rotate_left
      · simp only [Act.put, List.setIfInBounds_toArray, List.set_cons_zero, List.set_cons_succ, i64_w, i32_w]
        rfl
      refine pure_ (i := 21) (N := some 2) (v := ?_) (a' := ?_) #[true, true, true, true, true, true, true, true, true, true, true, true, true, true, true, true, true, true, true, true, true, true] rfl rfl (by kernel_rfl) (fun _ _ _ h => h) (Or.inl ⟨by rfl, ?_⟩) ?_ ?_
      rotate_left
      · intro w'
        go_simp
        with_reducible rfl
      rotate_left
      · simp only [Act.put, List.setIfInBounds_toArray, List.set_cons_zero, List.set_cons_succ, i64_w, i32_w]
        rfl
      refine done_ (by kernel_rfl) ?_

      have HF := Lib.hid (below_step HB.out hS5)
      go_wp2
      go_ret
      exact ⟨rfl, HF.out⟩
def mk (x : Int × Int × ByteArray) : S54 := ⟨x.1, x.2.1, x.2.2⟩
theorem walk (x0_0 : Int) (x0_1_0 : Int) (x0_1_1 : Int) (A0_2 : Option Addr) (c0_2 : Nat) (x0_2 : List ((Int) × (Int) × (ByteArray))) (W : World) (p0_0 : (IntKind.i64.min ≤ x0_0 ∧ x0_0 ≤ IntKind.i64.max)) (p0_1_0 : (IntKind.u64.min ≤ x0_1_0 ∧ x0_1_0 ≤ IntKind.u64.max)) (p0_1_1 : (IntKind.u64.min ≤ x0_1_1 ∧ x0_1_1 ≤ IntKind.u64.max)) (l0_2 : x0_2.length ≤ c0_2) (C0_2 : Kd.C (Kd.pair (Kd.int .u8) (Kd.pair (Kd.int .i64) Kd.string)) W A0_2 x0_2.length x0_2) (p0_2 : (x0_2.length ≤ maxLen ∧ x0_2.length * Try.prog.bytesOf 54 ≤ 140737488351232 ∧ ∀ x : Int × Int × ByteArray, x ∈ x0_2 → ((IntKind.u8.min ≤ x.1 ∧ x.1 ≤ IntKind.u8.max) ∧ ((IntKind.i64.min ≤ x.2.1 ∧ x.2.1 ≤ IntKind.i64.max) ∧ (x.2.2.size ≤ 140737488351232))))) :
    Calls Try.prog 15 #[.agg #[.int .i64 x0_0, .int .u64 x0_1_0, .int .u64 x0_1_1, .slice A0_2 x0_2.length c0_2]] W fun e W' => e = .returned (.bool true) ∧ Below W.heap.size W W' := by
  have hb0 := p0_2.2.1
  rw [show Try.prog.bytesOf 54 = 32 by kernel_rfl] at hb0
  by_cases hl : 200 < x0_2.length
  · exact long_ x0_0 x0_1_0 x0_1_1 A0_2 x0_2.length c0_2 W (by omega) hl
  · have h0 : (x0_2.map mk).length = x0_2.length := List.length_map _
    have k0 : Kd.C k54 W A0_2 (x0_2.map mk).length (x0_2.map mk) := by rw [h0]; exact Open.C_iso (fun x : S54 => (x.f0, x.f1, x.f2)) mk (fun _ => rfl) C0_2
    have hi : In64 (x0_2.map mk) := fun y hy => by
      obtain ⟨x, hx, rfl⟩ := List.mem_map.1 hy
      exact (p0_2.2.2 x hx).2.1
    have q1 : 0 ≤ x0_1_0 ∧ x0_1_0 ≤ 18446744073709551615 := p0_1_0
    have q2 : 0 ≤ x0_1_1 ∧ x0_1_1 ≤ 18446744073709551615 := p0_1_1
    cases hr : rightR x0_0 x0_1_0 x0_1_1 (x0_2.map mk)
    · have := wrong x0_0 x0_1_0 x0_1_1 A0_2 c0_2 (x0_2.map mk) W k0 (by omega) (by omega) hr
      rw [h0] at this
      exact this
    · have := good x0_0 x0_1_0 x0_1_1 A0_2 c0_2 (x0_2.map mk) W k0 (by omega) (by omega) hi hr q1.1 q1.2 q2.1 q2.2
      rw [h0] at this
      exact this
end Go.Proofs.Ytaoacibahdbdkaa.RepZ
