/- Several texts of this claim, laid together: RepX. -/
import Derived.Test.YtaoacibahdbdkaaMd
import Derived.Test.YtaoacibahdbdkaaOpen
/-! reply: the law ReplyParses, walked. -/
namespace Go.Proofs.Ytaoacibahdbdkaa.RepX
open Go.RowKit Go Go.Proofs.Ytaoacibahdbdkaa.QReplySame Go.Proofs.YtaoacibahdbdkaaW.PrintWords Go.Proofs.YtaoacibahdbdkaaW.PrintLast Go.Proofs.YtaoacibahdbdkaaW.PrintMore Go.Proofs.Ytaoacibahdbdkaa.Fra Go.Proofs.Ytaoacibahdbdkaa.Pk Go.Proofs.Ytaoacibahdbdkaa.Bts Go.Proofs.Ytaoacibahdbdkaa.Pr Go.Proofs.Ytaoacibahdbdkaa.Rep
abbrev Z82 : Value := .agg #[.int .i64 0, .int .u64 0, .int .u64 0, .slice none 0 0]
abbrev Z86 : Value := .agg #[.int .u8 0, .int .u64 0, .int .u64 0, .slice none 0 0]
theorem repP_len {xs : List Int} (hb : Bs xs) : (repP xs).1.2.2.2.length ≤ 65535 := by
  unfold repP
  obtain ⟨b1, r1, f1, ht⟩ : ∃ b1 r1 f1, takeP xs 0 1 = (b1, r1, f1) := ⟨_, _, _, rfl⟩
  rw [ht]
  dsimp only
  split
  · obtain ⟨b2, r2, f2, ht2⟩ : ∃ b2 r2 f2, takeP r1 f1 8 = (b2, r2, f2) := ⟨_, _, _, rfl⟩
    rw [ht2]
    dsimp only
    obtain ⟨b3, r3, f3, ht3⟩ : ∃ b3 r3 f3, takeP r2 f2 8 = (b3, r3, f3) := ⟨_, _, _, rfl⟩
    rw [ht3]
    dsimp only
    obtain ⟨b4, r4, f4, ht4⟩ : ∃ b4 r4 f4, takeP r3 f3 2 = (b4, r4, f4) := ⟨_, _, _, rfl⟩
    rw [ht4]
    dsimp only
    have q1 := takeP_bs1 ht hb
    have q2 := takeP_bs1 ht2 q1.2.1
    have q3 := takeP_bs1 ht3 q2.2.1
    have q4 := takeP_bs1 ht4 q3.2.1
    have hn := numB_small q4.1 q4.2.2.1 (by omega)
    have h2 : numB b4 < 65536 := hn.2
    have := vals_len (numB b4).toNat r4 f4
    omega
  · simp
theorem rv_nil (w : World) : RV w (.slice none 0 0) [] := ⟨none, 0, rfl, Nat.le_refl _, Kd.C_nil k54 w⟩
theorem plain0 (w : World) : Calls Try.prog 48 #[Z82] w fun en w' => ∃ v, en = .returned (.agg #[.int .u8 0, .int .u64 0, .int .u64 0, v]) ∧ RV w' v [] ∧ Below w.heap.size w w' :=
  plain_calls 0 0 0 none 0 [] w (Kd.C_nil k54 w) (by simp)
theorem same0 (v : Value) (w : World) (h : RV w v []) : Calls Try.prog 47 #[.agg #[.int .u8 0, .int .u64 0, .int .u64 0, v], Z86] w fun en w' => en = .returned (.bool true) ∧ Below w.heap.size w w' :=
  same_calls 0 0 0 v [] 0 0 0 (.slice none 0 0) [] w h (rv_nil w) (by simp)
theorem same1 (e h g : Int) (v0 v1 : Value) (l : List S54) (w : World) (he : e % 256 = e) (r0 : RV w v0 l) (r1 : RV w v1 l) (hl : l.length ≤ 100000) :
    Calls Try.prog 47 #[.agg #[.int .u8 (e % 256), .int .u64 h, .int .u64 g, v0], .agg #[.int .u8 e, .int .u64 h, .int .u64 g, v1]] w fun en w' => en = .returned (.bool true) ∧ Below w.heap.size w w' := by
  have := same_calls (e % 256) h g v0 l e h g v1 l w r0 r1 hl
  rw [show sameR (e % 256) h g l e h g l = true by rw [he]; simp [sameR]] at this
  exact this
theorem rv_mk {A : Option Addr} {c : Nat} {l : List S54} {w : World} (hc : l.length ≤ c) (h : Kd.C k54 w A l.length l) : RV w (.slice A l.length c) l := ⟨A, c, rfl, hc, h⟩
theorem encode_any (e h g : Int) (A : Option Addr) (c : Nat) (l : List S54) (w : World) (hC : Kd.C k54 w A l.length l) (hc : l.length ≤ c) (hr : rightR e h g l = true) (hh : 0 ≤ h) (hg : 0 ≤ g) :
    Calls Try.prog 53 #[.agg #[.int .i64 e, .int .u64 h, .int .u64 g, .slice A l.length c]] w fun en w' => ∃ v, en = .returned (.tuple #[v, .int .i64 0]) ∧ Made w w' v (repB e h g l) := by
  have hr' := hr
  unfold rightR at hr'
  simp only [Bool.and_eq_true, decide_eq_true_eq] at hr'
  obtain ⟨⟨⟨⟨r1, r2⟩, r3⟩, r4⟩, r5⟩ := hr'
  unfold repB
  by_cases he : e = 0
  · rw [if_pos he]
    subst he
    exact encode_ok h g A c l w hC hc r4 r3 hh hg
  · rw [if_neg he]
    exact encode_error e h g A c l w hC hc (by omega) hr he r1 r2
set_option maxHeartbeats 1000000 in
set_option maxRecDepth 100000 in
theorem long_ (A : Option Addr) (n c : Nat) (w : World) (hn : n ≤ 140737488351232) (hl : 9000 < n) :
    Calls Try.prog 12 #[.slice A n c] w fun e w' => e = .returned (.bool true) ∧ Below w.heap.size w w' := by
  have hl' : (9000 : Int) < (n : Int) := by omega
  go_enter Try.func12, Try.ntmps12
  go_wp2_with (first
    | (go_at_call 46; go_loud (have _t := HB.out; refine (lives_calls _).mono ?_; rintro e w2 ⟨rfl, hB2⟩; have HB2 := Lib.hid (below_step HB.out hB2); clear hB2))
    | (go_at_call 46; go_loud (refine (lives_calls _).mono ?_; rintro e w1 ⟨rfl, hB1⟩; have HB := Lib.hid hB1; clear hB1)))
  go_ret
  exact ⟨rfl, HB2.out⟩
set_option maxHeartbeats 4000000 in
set_option maxRecDepth 100000 in
theorem main (A0 : Option Addr) (c0 : Nat) (xs : List Int) (w : World) (hv : Byt w (.slice A0 xs.length c0) xs) (hlt : ∀ ad, A0 = some ad → 0 < xs.length → ad.block < w.heap.size) (hl : xs.length ≤ 9000) (hb : Bs xs) :
    Calls Try.prog 12 #[.slice A0 xs.length c0] w fun e w' => e = .returned (.bool true) ∧ Below w.heap.size w w' := by
  obtain ⟨⟨e, h, g, l⟩, rest, f, hr⟩ : ∃ a rest f, repP xs = (a, rest, f) := ⟨_, _, _, rfl⟩
  have hPC := fun (V : World) (hV : Below w.heap.size w V) => parse_calls (.slice A0 xs.length c0) xs V (hv.below hV) (by omega) hb
  have hRC := fun (V : World) (hV : Below w.heap.size w V) => read_calls A0 c0 xs V (hv.below hV) (fun ad ha hp => Nat.lt_of_lt_of_le (hlt ad ha hp) hV.size) (by omega) hb
  rw [hr] at hPC hRC
  have hl' : (xs.length : Int) ≤ 9000 := by omega
  have hll : l.length ≤ 100000 := by
    have := repP_len hb
    rw [hr] at this
    exact Nat.le_trans this (by decide)
  obtain ⟨E, hE⟩ : ∃ E, endP rest f = E := ⟨_, rfl⟩
  have HV := Lib.hid hv
  have LIV : Hid True := Lib.hid trivial
  by_cases hE0 : E = 0
  · subst hE0
    obtain ⟨hx, he0, he1, hh0, hg0, hh1, hg1⟩ := repP_ok hb hr hE
    have hr1 : ∀ V, Below w.heap.size w V → Calls Try.prog 51 #[.slice A0 xs.length c0] V fun en V' => ∃ v, en = .returned (.tuple #[.agg #[.int .u8 e, .int .u64 h, .int .u64 g, v], .int .i64 0]) ∧ RV V' v l ∧ Below V.heap.size V V' := by
      intro V hV
      refine (hRC V hV).mono ?_
      rintro en V' ⟨hc | ⟨_, v, rfl, hrv⟩, hB⟩
      · exact absurd hE hc.1
      · exact ⟨v, rfl, hrv, hB⟩
    cases hR : rightR e h g l
    · have hp1 : ∀ V, Below w.heap.size w V → Calls Try.prog 50 #[.slice A0 xs.length c0] V fun en V' => en = .returned (.tuple #[Z82, .int .i64 10]) ∧ Below V.heap.size V V' := by
        intro V hV
        refine (hPC V hV).mono ?_
        rintro en V' ⟨hc | ⟨_, _, rfl⟩ | ⟨_, hc, _⟩, hB⟩
        · exact absurd hE hc.1
        · exact ⟨rfl, hB⟩
        · dsimp only at hc; rw [hR] at hc; cases hc
      have HR := Lib.hid hR
      have HP1 := Lib.hid hp1
      have HR1 := Lib.hid hr1
      clear hr hPC hRC hE hx hp1 hr1 hR hv hlt
      go_enter Try.func12, Try.ntmps12
      go_wp2_with (first
        | (go_at_call 46; go_loud (refine (lives_calls _).mono ?_; rintro en w1 ⟨rfl, hB1⟩; have HB1 := Lib.hid hB1; clear hB1))
        | (go_at_call 50; go_loud (refine (HP1.out _ HB1.out).mono ?_; rintro en w2 ⟨rfl, hB2⟩; have HB2 := Lib.hid (below_alloc (below_step HB1.out hB2) (.cells #[.int .i64 0, .int .u64 0, .int .u64 0, .slice none 0 0] 82)); have HP2 := Lib.hid (show RP (w2.alloc (.cells #[.int .i64 0, .int .u64 0, .int .u64 0, .slice none 0 0] 82)) w2.heap.size 0 0 0 (.slice none 0 0) from blk_new w2 _); clear hB2))
        | (go_at_call 51; go_loud (refine (HR1.out _ HB2.out).mono ?_; rintro en w3 ⟨v3, rfl, ⟨A3, c3, rfl, hc3, hC3⟩, hB3⟩; have HB3 := Lib.hid (below_step HB2.out hB3); have HP3 := Lib.hid (blk_below HP2.out hB3); have HC3 := Lib.hid hC3; have p0 := blk_cell HP3.out 0; have p1 := blk_cell HP3.out 1; have p2 := blk_cell HP3.out 2; have p3 := blk_cell HP3.out 3; have hz3 : w2.heap.size < w3.heap.size := blk_lt HP3.out; clear hB3 hC3))
        | (go_at_call 52; go_loud (refine (lright_calls e h g A3 c3 l _ (Kd.C_below HC3.out (below_alloc (Below.refl _ _) _)) hc3 hll he0).mono ?_; rw [HR.out]; rintro en w4 ⟨rfl, hB4⟩; have HB4 := Lib.hid (below_step (below_alloc HB3.out _) hB4); have HP4 := Lib.hid (blk_below (blk_alloc HP3.out _) hB4); have p0 := blk_cell HP4.out 0; have p1 := blk_cell HP4.out 1; have p2 := blk_cell HP4.out 2; have p3 := blk_cell HP4.out 3; clear hB4))
        | (go_at_call 48; go_loud (refine (plain0 _).mono ?_; rintro en w5 ⟨v5, rfl, hv5, hB5⟩; have HB5 := Lib.hid (below_step HB4.out hB5); have HV5 := Lib.hid hv5; clear hB5 hv5))
        | (go_at_call 47; go_loud (refine (same0 _ _ HV5.out).mono ?_; rintro en w6 ⟨rfl, hB6⟩; have HB6 := Lib.hid (below_step HB5.out hB6); clear hB6)))
      go_ret
      exact ⟨rfl, HB6.out⟩
    · have hp1 : ∀ V, Below w.heap.size w V → Calls Try.prog 50 #[.slice A0 xs.length c0] V fun en V' => ∃ v, en = .returned (.tuple #[.agg #[.int .i64 e, .int .u64 h, .int .u64 g, v], .int .i64 0]) ∧ RV V' v l ∧ Below V.heap.size V V' := by
        intro V hV
        refine (hPC V hV).mono ?_
        rintro en V' ⟨hc | ⟨_, hc, _⟩ | ⟨_, _, v, rfl, hrv⟩, hB⟩
        · exact absurd hE hc.1
        · dsimp only at hc; rw [hR] at hc; cases hc
        · exact ⟨v, rfl, hrv, hB⟩
      have HR := Lib.hid hR
      have HP1 := Lib.hid hp1
      have HR1 := Lib.hid hr1
      have HX := Lib.hid hx
      have he8 : e % 256 = e := by omega
      have hcvA : ∀ V, Below w.heap.size w V → (convert 56 9 (.slice A0 xs.length c0)).run Try.prog V = .ok (.string (strOfNums xs)) V := fun V hV => byt_conv (HV.out.below hV) (by omega)
      have HCA := Lib.hid hcvA
      clear hr hPC hRC hE hx hp1 hr1 hR hv hlt hcvA
      go_enter Try.func12, Try.ntmps12
      go_wp2_with (first
        | (go_at_call 46; go_loud (refine (lives_calls _).mono ?_; rintro en w1 ⟨rfl, hB1⟩; have HB1 := Lib.hid hB1; clear hB1))
        | (go_at_call 50; go_loud (refine (HP1.out _ HB1.out).mono ?_; rintro en w2 ⟨v2, rfl, ⟨A2, c2, rfl, hc2, hC2⟩, hB2⟩; have HB2 := Lib.hid (below_alloc (below_step HB1.out hB2) (.cells #[.int .i64 e, .int .u64 h, .int .u64 g, .slice A2 l.length c2] 82)); have HP2 := Lib.hid (show RP (w2.alloc (.cells #[.int .i64 e, .int .u64 h, .int .u64 g, .slice A2 l.length c2] 82)) w2.heap.size e h g (.slice A2 l.length c2) from blk_new w2 _); have HC2 := Lib.hid (Kd.C_below hC2 (below_alloc (Below.refl _ _) (.cells #[.int .i64 e, .int .u64 h, .int .u64 g, .slice A2 l.length c2] 82))); clear hB2 hC2))
        | (go_at_call 51; go_loud (refine (HR1.out _ HB2.out).mono ?_; rintro en w3 ⟨v3, rfl, ⟨A3, c3, rfl, hc3, hC3⟩, hB3⟩; have HB3 := Lib.hid (below_step HB2.out hB3); have HP3 := Lib.hid (blk_below HP2.out hB3); have HC2b := Lib.hid (Kd.C_below HC2.out hB3); have HC3 := Lib.hid hC3; have p0 := blk_cell HP3.out 0; have p1 := blk_cell HP3.out 1; have p2 := blk_cell HP3.out 2; have p3 := blk_cell HP3.out 3; have hz3 : w2.heap.size < w3.heap.size := blk_lt HP3.out; clear hB3 hC3))
        | (go_at_call 52; go_loud (refine (lright_calls e h g A3 c3 l _ (Kd.C_below HC3.out (below_alloc (Below.refl _ _) _)) hc3 hll he0).mono ?_; rw [HR.out]; rintro en w4 ⟨rfl, hB4⟩; have HB4 := Lib.hid (below_step (below_alloc HB3.out _) hB4); have HP4 := Lib.hid (blk_below (blk_alloc HP3.out _) hB4); have HQ4 := Lib.hid (blk_below (blk_new w3 _) hB4); have HC2c := Lib.hid (Kd.C_below (Kd.C_below HC2b.out (below_alloc (Below.refl _ _) _)) hB4); have HC3c := Lib.hid (Kd.C_below (Kd.C_below HC3.out (below_alloc (Below.refl _ _) _)) hB4); have p0 := blk_cell HP4.out 0; have p1 := blk_cell HP4.out 1; have p2 := blk_cell HP4.out 2; have p3 := blk_cell HP4.out 3; clear hB4))
        | (go_at_call 53; go_loud (refine (encode_any e h g A2 c2 l _ HC2c.out hc2 HR.out hh0 hg0).mono ?_; rw [← HX.out]; rintro en w5 ⟨v5, rfl, hM5⟩; have HM5 := Lib.hid hM5; have HB5 := Lib.hid (below_step HB4.out hM5.2); have HP5 := Lib.hid (blk_below HP4.out hM5.2); have HQ5 := Lib.hid (blk_below HQ4.out hM5.2); have HC2d := Lib.hid (Kd.C_below HC2c.out hM5.2); have HC3d := Lib.hid (Kd.C_below HC3c.out hM5.2); clear hM5)))
      clear p0 p1 p2 p3
      have hS := Below.refl w5.heap.size w5
      have kc : ∀ V, Below w5.heap.size w5 V → (convert 56 9 v5).run Try.prog V = .ok (.string (strOfNums xs)) V := fun V hV => byt_conv (HM5.out.byt.below hV) (by omega)
      have ka : ∀ V, Below w5.heap.size w5 V → (convert 56 9 (.slice A0 xs.length c0)).run Try.prog V = .ok (.string (strOfNums xs)) V := fun V hV => HCA.out V (below_step HB5.out hV)
      have kp : ∀ V, Below w5.heap.size w5 V → RP V w2.heap.size e h g (.slice A2 l.length c2) := fun V hV => blk_below HP5.out hV
      have kq : ∀ V, Below w5.heap.size w5 V → RQ V w3.heap.size e h g (.slice A3 l.length c3) := fun V hV => blk_below HQ5.out hV
      have KC := Lib.hid kc
      have KA := Lib.hid ka
      have KP := Lib.hid kp
      have KQ := Lib.hid kq
      clear kc ka kp kq
      have hS1 := below_drew1 hS
      refine start_ (n := 20) (S := fun w' => (convert 56 9 v5).run Try.prog w' = .ok (.string (strOfNums xs)) w' ∧ (convert 56 9 (.slice A0 xs.length c0)).run Try.prog w' = .ok (.string (strOfNums xs)) w' ∧ w'.cell? ⟨w2.heap.size, 0, none⟩ = some (.int .i64 e) ∧ w'.cell? ⟨w2.heap.size, 1, none⟩ = some (.int .u64 h) ∧ w'.cell? ⟨w2.heap.size, 2, none⟩ = some (.int .u64 g) ∧ w'.cell? ⟨w2.heap.size, 3, none⟩ = some (.slice A2 l.length c2) ∧ w'.cell? ⟨w3.heap.size, 0, none⟩ = some (.int .u8 e) ∧ w'.cell? ⟨w3.heap.size, 1, none⟩ = some (.int .u64 h) ∧ w'.cell? ⟨w3.heap.size, 2, none⟩ = some (.int .u64 g) ∧ w'.cell? ⟨w3.heap.size, 3, none⟩ = some (.slice A3 l.length c3)) (ds := []) #[false, false, false, false, false, false, false, false, false, false, false, false, false, false, false, false, false, false, false, false] (by kernel_rfl) rfl rfl ⟨(KC.out _ hS1), (KA.out _ hS1), (blk_cell (KP.out _ hS1) 0), (blk_cell (KP.out _ hS1) 1), (blk_cell (KP.out _ hS1) 2), (blk_cell (KP.out _ hS1) 3), (blk_cell (KQ.out _ hS1) 0), (blk_cell (KQ.out _ hS1) 1), (blk_cell (KQ.out _ hS1) 2), (blk_cell (KQ.out _ hS1) 3)⟩ (fun hHeld => ?_)
      refine pure_ (i := 0) (N := some 54) (v := ?_) (a' := ?_) #[true, false, false, false, false, false, false, false, false, false, false, false, false, false, false, false, false, false, false, false] rfl rfl (by kernel_rfl) (fun _ _ _ h => h) (Or.inl ⟨by rfl, ?_⟩) ?_ ?_
      rotate_left
      · intro w'
        go_simp
        with_reducible rfl
      rotate_left
      · simp only [Act.put, List.setIfInBounds_toArray, List.set_cons_zero, List.set_cons_succ, i64_w, i32_w]
        rfl
      refine pure_ (i := 1) (N := some 55) (v := ?_) (a' := ?_) #[true, true, false, false, false, false, false, false, false, false, false, false, false, false, false, false, false, false, false, false] rfl rfl (by kernel_rfl) (fun _ _ _ h => h) (Or.inl ⟨by rfl, ?_⟩) ?_ ?_
      rotate_left
      · intro w'
        go_simp
        with_reducible rfl
      rotate_left
      · simp only [Act.put, List.setIfInBounds_toArray, List.set_cons_zero, List.set_cons_succ, i64_w, i32_w]
        rfl
      refine pure_ (i := 2) (N := some 56) (v := ?_) (a' := ?_) #[true, true, true, false, false, false, false, false, false, false, false, false, false, false, false, false, false, false, false, false] rfl rfl (by kernel_rfl) (fun _ _ _ h => h) (Or.inl ⟨by rfl, ?_⟩) ?_ ?_
      rotate_left
      · intro w'
        go_simp
        with_reducible rfl
      rotate_left
      · simp only [Act.put, List.setIfInBounds_toArray, List.set_cons_zero, List.set_cons_succ, i64_w, i32_w]
        rfl
      refine take_ (i := 3) (N := some 57) (v := ?_) (a' := ?_) #[true, true, true, true, false, false, false, false, false, false, false, false, false, false, false, false, false, false, false, false] rfl rfl (by kernel_rfl) (fun _ _ _ h => h) (Or.inl ⟨by rfl, ?_⟩) hHeld ?_ ?_
      rotate_left
      · rintro w' ⟨s0, s1, s2, s3, s4, s5, s6, s7, s8, s9⟩
        go_simp
        with_reducible rfl
      rotate_left
      · simp only [Act.put, List.setIfInBounds_toArray, List.set_cons_zero, List.set_cons_succ, i64_w, i32_w]
        rfl
      refine take_ (i := 5) (N := some 59) (v := ?_) (a' := ?_) #[true, true, true, true, false, true, false, false, false, false, false, false, false, false, false, false, false, false, false, false] rfl rfl (by kernel_rfl) (fun _ _ _ h => h) (Or.inl ⟨by rfl, ?_⟩) hHeld ?_ ?_
      rotate_left
      · rintro w' ⟨s0, s1, s2, s3, s4, s5, s6, s7, s8, s9⟩
        go_simp
        with_reducible rfl
      rotate_left
      · simp only [Act.put, List.setIfInBounds_toArray, List.set_cons_zero, List.set_cons_succ, i64_w, i32_w]
        rfl
      refine one_ (i := 4) (N := some 58) #[true, true, true, true, true, true, false, false, false, false, false, false, false, false, false, false, false, false, false, false] rfl rfl (by kernel_rfl) (by decide) (fun K hK => ?_)
      refine goes_ Try.func48 (by kernel_rfl) rfl #[.agg #[.int .i64 e, .int .u64 h, .int .u64 g, .slice A2 l.length c2]] (by rfl) rfl rfl (by simp only [List.map_toArray, List.map_cons, List.map_nil]; rfl) ?_
      with_reducible refine (plain_calls e h g A2 c2 l _ (Kd.C_below HC2d.out hS1) hll).mono ?_
      rintro e6 w6 ⟨v6, rfl, hv6, hB6⟩
      refine ⟨_, rfl, ?_⟩
      have hS2 := below_step hS1 hB6
      refine hK.out _ _ ⟨(KC.out _ hS2), (KA.out _ hS2), (blk_cell (KP.out _ hS2) 0), (blk_cell (KP.out _ hS2) 1), (blk_cell (KP.out _ hS2) 2), (blk_cell (KP.out _ hS2) 3), (blk_cell (KQ.out _ hS2) 0), (blk_cell (KQ.out _ hS2) 1), (blk_cell (KQ.out _ hS2) 2), (blk_cell (KQ.out _ hS2) 3)⟩ (fun hHeld => ?_)
      clear hK K
      refine norm_ (a' := ?_) ?_ ?_
      rotate_left
      · show Act.put _ (some 58) _ = _
        simp only [Act.put, List.setIfInBounds_toArray, List.set_cons_zero, List.set_cons_succ, i64_w, i32_w]
        rfl
      refine one_ (i := 6) (N := some 60) #[true, true, true, true, true, true, true, false, false, false, false, false, false, false, false, false, false, false, false, false] rfl rfl (by kernel_rfl) (by decide) (fun K hK => ?_)
      refine goes_ Try.func47 (by kernel_rfl) rfl #[.agg #[.int .u8 (e % 256), .int .u64 h, .int .u64 g, v6], .agg #[.int .u8 e, .int .u64 h, .int .u64 g, .slice A3 l.length c3]] (by rfl) rfl rfl (by simp only [List.map_toArray, List.map_cons, List.map_nil]; rfl) ?_
      with_reducible refine (same1 e h g _ _ l _ he8 hv6 (rv_mk hc3 (Kd.C_below HC3d.out hS2)) hll).mono ?_
      rintro e7 w7 ⟨rfl, hB7⟩
      refine ⟨_, rfl, ?_⟩
      have hS3 := below_step hS2 hB7
      refine hK.out _ _ ⟨(KC.out _ hS3), (KA.out _ hS3), (blk_cell (KP.out _ hS3) 0), (blk_cell (KP.out _ hS3) 1), (blk_cell (KP.out _ hS3) 2), (blk_cell (KP.out _ hS3) 3), (blk_cell (KQ.out _ hS3) 0), (blk_cell (KQ.out _ hS3) 1), (blk_cell (KQ.out _ hS3) 2), (blk_cell (KQ.out _ hS3) 3)⟩ (fun hHeld => ?_)
      clear hK K
      refine norm_ (a' := ?_) ?_ ?_
      rotate_left
      · show Act.put _ (some 60) _ = _
        simp only [Act.put, List.setIfInBounds_toArray, List.set_cons_zero, List.set_cons_succ, i64_w, i32_w]
        rfl
      refine pure_ (i := 7) (N := some 61) (v := ?_) (a' := ?_) #[true, true, true, true, true, true, true, true, false, false, false, false, false, false, false, false, false, false, false, false] rfl rfl (by kernel_rfl) (fun _ _ _ h => h) (Or.inl ⟨by rfl, ?_⟩) ?_ ?_
      rotate_left
      · intro w'
        go_simp
        with_reducible rfl
      rotate_left
      · simp only [Act.put, List.setIfInBounds_toArray, List.set_cons_zero, List.set_cons_succ, i64_w, i32_w]
        rfl
      refine pure_ (i := 8) (N := some 62) (v := ?_) (a' := ?_) #[true, true, true, true, true, true, true, true, true, false, false, false, false, false, false, false, false, false, false, false] rfl rfl (by kernel_rfl) (fun _ _ _ h => h) (Or.inl ⟨by rfl, ?_⟩) ?_ ?_
      rotate_left
      · intro w'
        go_simp
        with_reducible rfl
      rotate_left
      · simp only [Act.put, List.setIfInBounds_toArray, List.set_cons_zero, List.set_cons_succ, i64_w, i32_w]
        rfl
      refine pure_ (i := 9) (N := some 63) (v := ?_) (a' := ?_) #[true, true, true, true, true, true, true, true, true, true, false, false, false, false, false, false, false, false, false, false] rfl rfl (by kernel_rfl) (fun _ _ _ h => h) (Or.inl ⟨by rfl, ?_⟩) ?_ ?_
      rotate_left
      · intro w'
        go_simp
        with_reducible rfl
      rotate_left
      · simp only [Act.put, List.setIfInBounds_toArray, List.set_cons_zero, List.set_cons_succ, i64_w, i32_w]
        rfl
      refine pure_ (i := 10) (N := some 64) (v := ?_) (a' := ?_) #[true, true, true, true, true, true, true, true, true, true, true, false, false, false, false, false, false, false, false, false] rfl rfl (by kernel_rfl) (fun _ _ _ h => h) (Or.inl ⟨by rfl, ?_⟩) ?_ ?_
      rotate_left
      · intro w'
        go_simp
        with_reducible rfl
      rotate_left
      · simp only [Act.put, List.setIfInBounds_toArray, List.set_cons_zero, List.set_cons_succ, i64_w, i32_w]
        rfl
      refine pure_ (i := 11) (N := some 65) (v := ?_) (a' := ?_) #[true, true, true, true, true, true, true, true, true, true, true, true, false, false, false, false, false, false, false, false] rfl rfl (by kernel_rfl) (fun _ _ _ h => h) (Or.inl ⟨by rfl, ?_⟩) ?_ ?_
      rotate_left
      · intro w'
        go_simp
        with_reducible rfl
      rotate_left
      · simp only [Act.put, List.setIfInBounds_toArray, List.set_cons_zero, List.set_cons_succ, i64_w, i32_w]
        rfl
      refine pure_ (i := 12) (N := some 66) (v := ?_) (a' := ?_) #[true, true, true, true, true, true, true, true, true, true, true, true, true, false, false, false, false, false, false, false] rfl rfl (by kernel_rfl) (fun _ _ _ h => h) (Or.inl ⟨by rfl, ?_⟩) ?_ ?_
      rotate_left
      · intro w'
        go_simp
        with_reducible rfl
      rotate_left
      · simp only [Act.put, List.setIfInBounds_toArray, List.set_cons_zero, List.set_cons_succ, i64_w, i32_w]
        rfl
      refine pure_ (i := 13) (N := some 67) (v := ?_) (a' := ?_) #[true, true, true, true, true, true, true, true, true, true, true, true, true, true, false, false, false, false, false, false] rfl rfl (by kernel_rfl) (fun _ _ _ h => h) (Or.inl ⟨by rfl, ?_⟩) ?_ ?_
      rotate_left
      · intro w'
        go_simp
        with_reducible rfl
      rotate_left
      · simp only [Act.put, List.setIfInBounds_toArray, List.set_cons_zero, List.set_cons_succ, i64_w, i32_w]
        rfl
      refine pure_ (i := 15) (N := some 69) (v := ?_) (a' := ?_) #[true, true, true, true, true, true, true, true, true, true, true, true, true, true, false, true, false, false, false, false] rfl rfl (by kernel_rfl) (fun _ _ _ h => h) (Or.inl ⟨by rfl, ?_⟩) ?_ ?_
      rotate_left
      · intro w'
        go_simp
        with_reducible rfl
      rotate_left
      · simp only [Act.put, List.setIfInBounds_toArray, List.set_cons_zero, List.set_cons_succ, i64_w, i32_w]
        rfl
      refine take_ (i := 14) (N := some 68) (v := ?_) (a' := ?_) #[true, true, true, true, true, true, true, true, true, true, true, true, true, true, true, true, false, false, false, false] rfl rfl (by kernel_rfl) (fun _ _ _ h => h) (Or.inl ⟨by rfl, ?_⟩) hHeld ?_ ?_
      rotate_left
      · rintro w' ⟨s0, s1, s2, s3, s4, s5, s6, s7, s8, s9⟩
        go_simp
        with_reducible rfl
      rotate_left
      · simp only [Act.put, List.setIfInBounds_toArray, List.set_cons_zero, List.set_cons_succ, i64_w, i32_w]
        rfl
      refine take_ (i := 16) (N := some 70) (v := ?_) (a' := ?_) #[true, true, true, true, true, true, true, true, true, true, true, true, true, true, true, true, true, false, false, false] rfl rfl (by kernel_rfl) (fun _ _ _ h => h) (Or.inl ⟨by rfl, ?_⟩) hHeld ?_ ?_
      rotate_left
      · rintro w' ⟨s0, s1, s2, s3, s4, s5, s6, s7, s8, s9⟩
        go_simp
        with_reducible rfl
      rotate_left
      · simp only [Act.put, List.setIfInBounds_toArray, List.set_cons_zero, List.set_cons_succ, i64_w, i32_w]
        rfl
      refine pure_ (i := 17) (N := some 71) (v := ?_) (a' := ?_) #[true, true, true, true, true, true, true, true, true, true, true, true, true, true, true, true, true, true, false, false] rfl rfl (by kernel_rfl) (fun _ _ _ h => h) (Or.inl ⟨by rfl, ?_⟩) ?_ ?_
      rotate_left
      · intro w'
        go_simp
        with_reducible rfl
      rotate_left
      · simp only [Act.put, List.setIfInBounds_toArray, List.set_cons_zero, List.set_cons_succ, i64_w, i32_w]
        rfl
      refine pure_ (i := 18) (N := some 72) (v := ?_) (a' := ?_) #[true, true, true, true, true, true, true, true, true, true, true, true, true, true, true, true, true, true, true, false] rfl rfl (by kernel_rfl) (fun _ _ _ h => h) (Or.inl ⟨by rfl, ?_⟩) ?_ ?_
      rotate_left
      · intro w'
        go_simp
        with_reducible rfl
      rotate_left
      · simp only [Act.put, List.setIfInBounds_toArray, List.set_cons_zero, List.set_cons_succ, i64_w, i32_w]
        rfl
      refine pure_ (i := 19) (N := some 2) (v := ?_) (a' := ?_) #[true, true, true, true, true, true, true, true, true, true, true, true, true, true, true, true, true, true, true, true] rfl rfl (by kernel_rfl) (fun _ _ _ h => h) (Or.inl ⟨by rfl, ?_⟩) ?_ ?_
      rotate_left
      · intro w'
        go_simp
        with_reducible rfl
      rotate_left
      · simp only [Act.put, List.setIfInBounds_toArray, List.set_cons_zero, List.set_cons_succ, i64_w, i32_w]
        rfl
      refine done_ (by kernel_rfl) ?_

      have HF := Lib.hid (below_step HB5.out hS3)
      go_wp2
      go_ret
      exact ⟨rfl, HF.out⟩
  · have hp1 : ∀ V, Below w.heap.size w V → Calls Try.prog 50 #[.slice A0 xs.length c0] V fun en V' => en = .returned (.tuple #[Z82, .int .i64 E]) ∧ Below V.heap.size V V' := by
      intro V hV
      refine (hPC V hV).mono ?_
      rintro en V' ⟨⟨_, rfl⟩ | ⟨hc, _⟩ | ⟨hc, _⟩, hB⟩
      · exact ⟨by dsimp only; rw [hE], hB⟩
      · exact absurd (hE.symm.trans hc) hE0
      · exact absurd (hE.symm.trans hc) hE0
    have hr1 : ∀ V, Below w.heap.size w V → Calls Try.prog 51 #[.slice A0 xs.length c0] V fun en V' => en = .returned (.tuple #[Z86, .int .i64 E]) ∧ Below V.heap.size V V' := by
      intro V hV
      refine (hRC V hV).mono ?_
      rintro en V' ⟨⟨_, rfl⟩ | ⟨hc, _⟩, hB⟩
      · exact ⟨by dsimp only; rw [hE], hB⟩
      · exact absurd (hE.symm.trans hc) hE0
    have HP1 := Lib.hid hp1
    have HR1 := Lib.hid hr1
    have b1 : (E == 0) = false := by simpa using hE0
    have b2 : (E != 0) = true := by simpa using hE0
    clear hr hPC hRC hE hp1 hr1 hv hlt hE0
    go_enter Try.func12, Try.ntmps12
    go_wp2_with (first
      | (go_at_call 46; go_loud (refine (lives_calls _).mono ?_; rintro en w1 ⟨rfl, hB1⟩; have HB1 := Lib.hid hB1; clear hB1))
      | (go_at_call 50; go_loud (refine (HP1.out _ HB1.out).mono ?_; rintro en w2 ⟨rfl, hB2⟩; have HB2 := Lib.hid (below_alloc (below_step HB1.out hB2) (.cells #[.int .i64 0, .int .u64 0, .int .u64 0, .slice none 0 0] 82)); have HP2 := Lib.hid (show RP (w2.alloc (.cells #[.int .i64 0, .int .u64 0, .int .u64 0, .slice none 0 0] 82)) w2.heap.size 0 0 0 (.slice none 0 0) from blk_new w2 _); clear hB2))
      | (go_at_call 51; go_loud (refine (HR1.out _ HB2.out).mono ?_; rintro en w3 ⟨rfl, hB3⟩; have HB3 := Lib.hid (below_step HB2.out hB3); have HP3 := Lib.hid (blk_below HP2.out hB3); have p0 := blk_cell HP3.out 0; have p1 := blk_cell HP3.out 1; have p2 := blk_cell HP3.out 2; have p3 := blk_cell HP3.out 3; have hz3 : w2.heap.size < w3.heap.size := blk_lt HP3.out; clear hB3))
      | (go_at_call 48; go_loud (refine (plain0 _).mono ?_; rintro en w5 ⟨v5, rfl, hv5, hB5⟩; have HB5 := Lib.hid (below_step (below_alloc HB3.out _) hB5); have HV5 := Lib.hid hv5; clear hB5 hv5))
      | (go_at_call 47; go_loud (refine (same0 _ _ HV5.out).mono ?_; rintro en w6 ⟨rfl, hB6⟩; have HB6 := Lib.hid (below_step HB5.out hB6); clear hB6)))
    go_ret
    exact ⟨rfl, HB6.out⟩
theorem walk (A0 : Option Addr) (c0 : Nat) (x0 : List (Int)) (W : World) (l0 : x0.length ≤ c0) (C0 : Kd.C (Kd.int .u8) W A0 x0.length x0) (p0 : (x0.length ≤ maxLen ∧ x0.length * Try.prog.bytesOf 5 ≤ 140737488351232 ∧ ∀ x : Int, x ∈ x0 → (IntKind.u8.min ≤ x ∧ x ≤ IntKind.u8.max))) (n0 : A0 = none → c0 = 0) :
    Calls Try.prog 12 #[.slice A0 x0.length c0] W fun e W' => e = .returned (.bool true) ∧ Below W.heap.size W W' := by
  have hb0 := p0.2.1
  rw [show Try.prog.bytesOf 5 = 1 by kernel_rfl] at hb0
  by_cases hl : 9000 < x0.length
  · exact long_ A0 x0.length c0 W (by omega) hl
  · refine main A0 c0 x0 W (SlR.of_C C0 l0 n0) (fun ad ha hp => ?_) (by omega) (fun x hx => p0.2.2 x hx)
    subst ha
    exact Kd.C_lt C0 hp (by decide)
end Go.Proofs.Ytaoacibahdbdkaa.RepX
