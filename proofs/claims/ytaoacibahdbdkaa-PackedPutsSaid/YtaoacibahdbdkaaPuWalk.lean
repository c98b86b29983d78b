/- The law PackedPuts: its inner function, walked. -/
import Derived.Test.YtaoacibahdbdkaaPackN
import Derived.Test.YtaoacibahdbdkaaPackP
import Derived.Deep.RegionHeld3
import Derived.BigQuiet
import Derived.Deep.QuietTactic
import Derived.Outline
namespace Go.Proofs.Ytaoacibahdbdkaa.PuWalk
open Go.RowKit Go Go.Proofs.YtaoacibahdbdkaaW.PrintWords Go.Proofs.YtaoacibahdbdkaaW.PrintMore Go.Proofs.YtaoacibahdbdkaaW.PrintLast Go.Proofs.Ytaoacibahdbdkaa.Bts Go.Proofs.Ytaoacibahdbdkaa.Pk Go.Proofs.Ytaoacibahdbdkaa.Pr Go.Proofs.Ytaoacibahdbdkaa.Fra Go.Proofs.Ytaoacibahdbdkaa.QPackedPuts
attribute [local go_sem] max2_int min2_int max_two min_two
theorem bcell {W w1 : World} (hb : Below W.heap.size W w1) : (∀ b o, b < W.heap.size → w1.cell? ⟨b, o, none⟩ = W.cell? ⟨b, o, none⟩) ∧ (∀ b o, b < W.heap.size → w1.frozen? ⟨b, o, none⟩ = W.frozen? ⟨b, o, none⟩) :=
  ⟨fun b o h => hb.cell (p := ⟨b, o, none⟩) h, fun b o h => hb.frozen (p := ⟨b, o, none⟩) h⟩
theorem byt_reads {w : World} {A : Option Addr} {n c : Nat} {xs : List Int} (h : SlR w 1 (.slice A n c) n (nums .u8 xs)) (hm : n ≤ 9223372036854775807) : ReadsInt w .u8 A n xs := by
  have hl : xs.length = n := by have := h.len; rw [nums_length] at this; omega
  subst hl
  obtain ⟨A', c', e, _, _, hC⟩ := SlR.C h hm
  cases e
  exact readsInt_of.2 (Kd.reads_of_C (enc := Value.int .u8) (d := (0 : Int)) (h1 := fun _ => rfl) hC)
theorem put_byt (v : Value) (xs : List Int) (n size : Int) (k : Nat) (hk : sizeP size = k) (w : World) (h : Byt w v xs) (hl : xs.length ≤ 140737488351300) (h0 : 0 ≤ n) :
    Calls Try.prog 67 #[v, .int .u64 n, .int .i64 size] w fun e w' => ∃ v', e = .returned v' ∧ Byt w' v' (xs ++ leB n k) ∧ Below w.heap.size w w' := by
  refine (put_calls v xs n size w h hl h0).mono ?_
  rintro e' w' ⟨v', rfl, A, c, ⟨rfl, hc⟩, hP, hB⟩
  rw [hk] at hP
  rcases hP with ⟨rfl, rfl⟩ | ⟨_, h⟩
  · refine ⟨_, rfl, ?_, hB⟩
    have h2 : leB n 0 = [] := rfl
    rw [h2, List.append_nil]
    obtain ⟨h3, A', c', e, h4, h5, h6⟩ := h.below hB
    cases e
    refine ⟨h3, A, xs.length, rfl, Nat.le_refl _, ?_, h6⟩
    intro hA
    have := h5 hA
    omega
  · exact ⟨v', rfl, SlR.of_own h, hB⟩
theorem read_num (B g : Nat) (n : Int) (z : Nat) (zs : List Int) (w : World) (hz : sizeP (z : Int) = z) (h : Rd w B g (leB n z ++ zs) 0) (hl : zs.length ≤ 70368744177664) (hz8 : z ≤ 8) (hbs : Bs zs) :
    Calls Try.prog 32 #[.pointer (some ⟨g, 0, none⟩), .int .i64 z] w fun e w' => e = .returned (.int .u64 (n % 256 ^ z)) ∧ Rd w' B g zs 0 ∧ Fr (· = g) w w' := by
  have := number_k z B g _ 0 z w hz h (by rw [List.length_append, leB_length]; omega) (bs_app (bs_leB _ _) hbs)
  rwa [takeP_app _ _ z (leB_length _ _), numB_leB] at this
theorem read_text (B g : Nat) (s : ByteArray) (zs : List Int) (w : World) (hs : s.size ≤ 9000) (h : Rd w B g (leB s.size 2 ++ bytesOf s ++ zs) 0) (hl : zs.length ≤ 70368744177664) (hbs : Bs zs) :
    Calls Try.prog 33 #[.pointer (some ⟨g, 0, none⟩), .int .i64 9000] w fun e w' => e = .returned (.string s) ∧ Rd w' B g zs 0 ∧ Fr (· = g) w w' := by
  have := text_calls B g _ 0 9000 w h (by rw [List.length_append, List.length_append, leB_length, bytesOf_length]; omega) (bs_app (bs_app (bs_leB _ _) (bs_bytesOf _)) hbs)
  rwa [textP_app s 9000 zs (by omega) (by omega), str_bytes] at this
theorem read_value (B g : Nat) (k m : Int) (t : ByteArray) (w : World) (hr : easementref01_Right.f k m t = some true) (hm : -9223372036854775808 ≤ m ∧ m ≤ 9223372036854775807) (h : Rd w B g (valB k m t) 0) (hB : B ≤ w.heap.size) (ht : t.size ≤ 4096) :
    Calls Try.prog 34 #[.pointer (some ⟨g, 0, none⟩)] w fun e w' => e = .returned (.agg #[.int .u8 k, .int .i64 m, .string t]) ∧ Rd w' B g [] 0 ∧ Fr (· = g) w w' := by
  have h2 := valueP_app k m t [] hr hm
  rw [List.append_nil] at h2
  have := value_reads B g _ 0 w h hB (by have := valB_len k m t; omega) (bs_valB _ _ _)
  rwa [h2] at this
set_option maxHeartbeats 4000000 in
set_option maxRecDepth 100000 in
theorem main (v : Value) (ahead : ByteArray) (n size : Int) (s : ByteArray) (k m : Int) (t : ByteArray) (w : World) (h : Byt w v (bytesOf ahead)) (ha : ahead.size ≤ 300) (hs : s.size ≤ 9000)
    (hr : easementref01_Right.f k m t = some true) (hn0 : 0 ≤ n) (hn1 : n ≤ 18446744073709551615) (hk0 : 0 ≤ k) (hk1 : k ≤ 255) (ht : t.size ≤ 4096) (hm : -9223372036854775808 ≤ m ∧ m ≤ 9223372036854775807) (z : Nat) (hz : sizeP size = z) (hz8 : z ≤ 8) :
    Calls Try.prog 30 #[v, .agg #[.int .u64 n, .int .i64 size], .string s, .agg #[.int .u8 k, .int .i64 m, .string t]] w fun e w' => e = .returned (.bool true) ∧ Below w.heap.size w w' := by
  have HR := Lib.hid hr
  have HZ := Lib.hid hz
  have HM := Lib.hid hm
  have HZZ := Lib.hid (show sizeP (z : Int) = z by unfold sizeP; omega)
  have hal := bytesOf_length ahead
  unfold Byt at h
  rw [hal] at h
  obtain ⟨hl0, A, c, rfl, hc, hnil, hcell⟩ := id h
  have H := Lib.hid h
  have HAL := Lib.hid hal
  obtain ⟨i0, hi, hi0, hi1, hi2⟩ := info_parts infoByte
  have HI2 := Lib.hid hi2
  obtain ⟨q, hq⟩ : ∃ q : Int, (if size < 0 then (0 : Int) else size) = q := ⟨_, rfl⟩
  have hqq : (if 8 < q then (8 : Int) else q) = (z : Int) := by
    rw [← hz, ← hq]; unfold sizeP; split <;> split <;> omega
  clear hm h hal hr hl0 hnil hcell hi2 hz
  have ha3 : ¬ (300 : Int) < (ahead.size : Int) := by omega
  have HB := Lib.hid (Below.refl w.heap.size w)
  go_enter Try.func30, Try.ntmps30
  go_wp2
  go_quiet (fail)
  go_wp2_with (first
    | (go_at_call 31; refine (lives_calls _).mono ?_; rintro e w1 ⟨rfl, hB1⟩; obtain ⟨hc1, hf1⟩ := bcell hB1; have hsz1 := hB1.size; have hl1 : w.heap.size + 1 < w1.heap.size := (by have := hsz1; simp at this; omega); have HBn := Lib.hid (below_step (by repeat (first | (with_reducible first | exact HB.out | apply below_alloc | apply pw_below_drewN | apply below_drew1) | exact HB.out)) hB1); clear HB; have HB := HBn; clear HBn)
    | (go_at_call 66; refine (easementlaw02_of.calls k m t _ _ _ _ rfl).mono ?_; rintro e w2 ⟨rfl, hB2⟩; obtain ⟨hc2, hf2⟩ := bcell hB2; have hsz2 := hB2.size; have hl2 : w.heap.size + 1 < w2.heap.size := (by omega); have HBn := Lib.hid (below_step (by repeat (first | (with_reducible first | exact HB.out | apply below_alloc | apply pw_below_drewN | apply below_drew1) | exact HB.out)) hB2); clear HB; have HB := HBn; clear HBn)
    | (go_at_call 38; refine (easementref01_Right.calls _ _ _ _ _ HR.out).mono ?_; rintro e w3 ⟨rfl, hB3⟩; obtain ⟨hc3, hf3⟩ := bcell hB3; have hsz3 := hB3.size; have hl3 : w.heap.size + 1 < w3.heap.size := (by omega); have HBn := Lib.hid (below_step (by repeat (first | (with_reducible first | exact HB.out | apply below_alloc | apply pw_below_drewN | apply below_drew1) | exact HB.out)) hB3); clear HB; have HB := HBn; clear HBn)
    | (at_make; go_loud (refine wpList_make_own _ rfl _ _ 56 rfl w3.heap.size 5 i0 (.int .u8 0) 1 Try.underlying56 hi hi0 hi1 .i64 .i64 _ (ahead.size + 50) rfl rfl (by omega) (by rw [HI2.out]; omega) (by unfold maxLen; omega) (Nat.le_refl _) ?_; intro w4 hown0 hg4; have HB4 := Lib.hid ((Below.refl w3.heap.size w3).grown hg4 (Nat.le_refl _) (fun k hk => by cases hk)); have HO := Lib.hid hown0; clear hown0 hg4))
    | (at_builtin; go_loud (refine print_append_row (w0 := w3) w3.heap.size rfl (.tmp 46) (.tmp 47) 56 5 .u8 1 rfl Try.underlying56 infoByte (by decide) _ [] (bytesOf ahead) A ahead.size c rfl rfl HO.out (byt_reads (H.out.below (below_step HB.out HB4.out)) (by omega)) HB4.out HB4.out.size (by simp; omega) ?_; intro v5 w5 hown5 hB5 hg5 _; rw [List.nil_append] at hown5; have HO5 := Lib.hid (SlR.of_own hown5); obtain ⟨hc5, hf5⟩ := bcell hB5; have hsz5 := hB5.size; have hl5 : w.heap.size + 1 < w5.heap.size := (by omega); have HBn := Lib.hid (below_step (by repeat (first | (with_reducible first | exact HB.out | apply below_alloc | apply pw_below_drewN | apply below_drew1) | exact HB.out)) hB5); clear HB; have HB := HBn; clear HBn; clear hown5 hg5))
    | (go_at_call_of 67 v5; go_loud (refine (put_byt _ _ n size z HZ.out _ HO5.out (by rw [HAL.out]; omega) hn0).mono ?_; rintro e w6 ⟨va, rfl, ha6, hB6⟩; have HA6 := Lib.hid ha6; have HO6 := Lib.hid (HO5.out.below hB6); obtain ⟨hc6, hf6⟩ := bcell hB6; have hsz6 := hB6.size; have hl6 : w.heap.size + 1 < w6.heap.size := (by omega); have HBn := Lib.hid (below_step (by repeat (first | (with_reducible first | exact HB.out | apply below_alloc | apply pw_below_drewN | apply below_drew1) | exact HB.out)) hB6); clear HB; have HB := HBn; clear HBn; clear ha6))
    | (go_at_call 68; go_loud (refine (text_calls _ _ s _ HO6.out (by rw [HAL.out]; omega) (by omega)).mono ?_; rintro e w7 ⟨vb, rfl, hb7⟩; have hB7 := hb7.2; have HA7 := Lib.hid (HA6.out.below hB7); have HB7b := Lib.hid hb7.byt; have HO7 := Lib.hid (HO6.out.below hB7); obtain ⟨hc7, hf7⟩ := bcell hB7; have hsz7 := hB7.size; have hl7 : w.heap.size + 1 < w7.heap.size := (by omega); have HBn := Lib.hid (below_step (by repeat (first | (with_reducible first | exact HB.out | apply below_alloc | apply pw_below_drewN | apply below_drew1) | exact HB.out)) hB7); clear HB; have HB := HBn; clear HBn; clear hb7))
    | (go_at_call 69; go_loud (refine (value_calls _ _ k m t _ HO7.out hk0 hk1 (by rw [HAL.out]; omega) (by omega)).mono ?_; rintro e w8 ⟨vc, rfl, hm8⟩; have hB8 := hm8.2; have HA8 := Lib.hid (HA7.out.below hB8); have HB8b := Lib.hid (HB7b.out.below hB8); have HC8 := Lib.hid hm8.byt; obtain ⟨hc8, hf8⟩ := bcell hB8; have hsz8 := hB8.size; have hl8 : w.heap.size + 1 < w8.heap.size := (by omega); have HBn := Lib.hid (below_step (by repeat (first | (with_reducible first | exact HB.out | apply below_alloc | apply pw_below_drewN | apply below_drew1) | exact HB.out)) hB8); clear HB; have HB := HBn; clear HBn; clear hm8)))
  have hcA : ∀ W, Below w8.heap.size w8 W → (convert 56 9 va).run Try.prog W = .ok (.string (ahead ++ strOfNums (leB n z))) W := fun W hW => byt_convE (HA8.out.below hW) (by rw [List.length_append, HAL.out, leB_length]; omega) (str_ahead _ _)
  have hcB : ∀ W, Below w8.heap.size w8 W → (convert 56 9 vb).run Try.prog W = .ok (.string (ahead ++ strOfNums (leB s.size 2 ++ bytesOf s))) W := fun W hW => byt_convE (HB8b.out.below hW) (by rw [List.length_append, List.length_append, HAL.out, leB_length, bytesOf_length]; omega) (by rw [List.append_assoc]; exact str_ahead _ _)
  have hcC : ∀ W, Below w8.heap.size w8 W → (convert 56 9 vc).run Try.prog W = .ok (.string (ahead ++ strOfNums (valB k m t))) W := fun W hW => byt_convE (HC8.out.below hW) (by rw [List.length_append, HAL.out]; have := valB_len k m t; omega) (str_ahead _ _)
  have hcH : ∀ W, Below w8.heap.size w8 W → (convert 56 9 (.slice A ahead.size c)).run Try.prog W = .ok (.string ahead) W := fun W hW => byt_convE (xs := bytesOf ahead) (by unfold Byt; rw [HAL.out]; exact H.out.below (below_step HB.out hW)) (by rw [HAL.out]; omega) (str_bytes _)
  have kc0 : w8.cell? ⟨w.heap.size + 1, 0, none⟩ = some (.int .u8 k) := by rw [hc8 _ _ hl7, hc7 _ _ hl6, hc6 _ _ hl5, hc5 _ _ hl3, hc3 _ _ hl2, hc2 _ _ hl1, hc1 _ _ (by simp)]; go_simp
  have hcW0 : ∀ W, Below w8.heap.size w8 W → W.cell? ⟨w.heap.size + 1, 0, none⟩ = some (.int .u8 k) := fun W hW => (hW.cell (p := ⟨w.heap.size + 1, 0, none⟩) hl8).trans kc0
  have kc1 : w8.cell? ⟨w.heap.size + 1, 1, none⟩ = some (.int .i64 m) := by rw [hc8 _ _ hl7, hc7 _ _ hl6, hc6 _ _ hl5, hc5 _ _ hl3, hc3 _ _ hl2, hc2 _ _ hl1, hc1 _ _ (by simp)]; go_simp
  have hcW1 : ∀ W, Below w8.heap.size w8 W → W.cell? ⟨w.heap.size + 1, 1, none⟩ = some (.int .i64 m) := fun W hW => (hW.cell (p := ⟨w.heap.size + 1, 1, none⟩) hl8).trans kc1
  have kc2 : w8.cell? ⟨w.heap.size + 1, 2, none⟩ = some (.string t) := by rw [hc8 _ _ hl7, hc7 _ _ hl6, hc6 _ _ hl5, hc5 _ _ hl3, hc3 _ _ hl2, hc2 _ _ hl1, hc1 _ _ (by simp)]; go_simp
  have hcW2 : ∀ W, Below w8.heap.size w8 W → W.cell? ⟨w.heap.size + 1, 2, none⟩ = some (.string t) := fun W hW => (hW.cell (p := ⟨w.heap.size + 1, 2, none⟩) hl8).trans kc2
  clear hc1 hc2 hc3 hc5 hc6 hc7 hc8 hf1 hf2 hf3 hf5 hf6 hf7 hf8
  have ad1 : ∀ W, (Op.stringOp .add ahead (strOfNums (leB n z))).run Try.prog W = .ok (.string (ahead ++ strOfNums (leB n z))) W := fun W => run_string_add_sum _ _ _ (by rw [strOfNums_size, leB_length]; omega)
  have ad2 : ∀ W, (Op.stringOp .add ahead (strOfNums (leB s.size 2 ++ bytesOf s))).run Try.prog W = .ok (.string (ahead ++ strOfNums (leB s.size 2 ++ bytesOf s))) W := fun W => run_string_add_sum _ _ _ (by rw [strOfNums_size, List.length_append, leB_length, bytesOf_length]; omega)
  have ad3 : ∀ W, (Op.stringOp .add ahead (strOfNums (valB k m t))).run Try.prog W = .ok (.string (ahead ++ strOfNums (valB k m t))) W := fun W => run_string_add_sum _ _ _ (by rw [strOfNums_size]; have := valB_len k m t; omega)
  have hS8 := Below.refl w8.heap.size w8
  refine start_ (n := 33) (S := fun w' => Below w8.heap.size w8 w' ∧ (convert 56 9 va).run Try.prog w' = .ok (.string (ahead ++ strOfNums (leB n z))) w' ∧ (convert 56 9 vb).run Try.prog w' = .ok (.string (ahead ++ strOfNums (leB s.size 2 ++ bytesOf s))) w' ∧ (convert 56 9 vc).run Try.prog w' = .ok (.string (ahead ++ strOfNums (valB k m t))) w' ∧ (convert 56 9 (.slice A ahead.size c)).run Try.prog w' = .ok (.string ahead) w' ∧ w'.cell? ⟨w.heap.size + 1, 0, none⟩ = some (.int .u8 k) ∧ w'.cell? ⟨w.heap.size + 1, 1, none⟩ = some (.int .i64 m) ∧ w'.cell? ⟨w.heap.size + 1, 2, none⟩ = some (.string t)) (ds := []) #[false, false, false, false, false, false, false, false, false, false, false, false, false, false, false, false, false, false, false, false, false, false, false, false, false, false, false, false, false, false, false, false, false] (by kernel_rfl) rfl rfl ⟨(below_drew1 hS8), (hcA _ (below_drew1 hS8)), (hcB _ (below_drew1 hS8)), (hcC _ (below_drew1 hS8)), (hcH _ (below_drew1 hS8)), (hcW0 _ (below_drew1 hS8)), (hcW1 _ (below_drew1 hS8)), (hcW2 _ (below_drew1 hS8))⟩ (fun hHeld => ?_)
  refine pure_ (i := 0) (N := some 62) (v := ?_) (a' := ?_) #[true, false, false, false, false, false, false, false, false, false, false, false, false, false, false, false, false, false, false, false, false, false, false, false, false, false, false, false, false, false, false, false, false] rfl rfl (by kernel_rfl) (fun _ _ _ h => h) (Or.inl ⟨by rfl, ?_⟩) ?_ ?_
  rotate_left
  · intro w'
    go_simp
    with_reducible rfl
  rotate_left
  · simp only [Act.put, List.setIfInBounds_toArray, List.set_cons_zero, List.set_cons_succ, i64_w, i32_w]
    rfl
  refine pure_ (i := 2) (N := some 64) (v := ?_) (a' := ?_) #[true, false, true, false, false, false, false, false, false, false, false, false, false, false, false, false, false, false, false, false, false, false, false, false, false, false, false, false, false, false, false, false, false] rfl rfl (by kernel_rfl) (fun _ _ _ h => h) (Or.inl ⟨by rfl, ?_⟩) ?_ ?_
  rotate_left
  · intro w'
    go_simp
    with_reducible rfl
  rotate_left
  · simp only [Act.put, List.setIfInBounds_toArray, List.set_cons_zero, List.set_cons_succ, i64_w, i32_w]
    rfl
  refine pure_ (i := 4) (N := some 66) (v := ?_) (a' := ?_) #[true, false, true, false, true, false, false, false, false, false, false, false, false, false, false, false, false, false, false, false, false, false, false, false, false, false, false, false, false, false, false, false, false] rfl rfl (by kernel_rfl) (fun _ _ _ h => h) (Or.inl ⟨by rfl, ?_⟩) ?_ ?_
  rotate_left
  · intro w'
    go_simp
    with_reducible rfl
  rotate_left
  · simp only [Act.put, List.setIfInBounds_toArray, List.set_cons_zero, List.set_cons_succ, i64_w, i32_w]
    rfl
  refine pure_ (i := 5) (N := some 67) (v := ?_) (a' := ?_) #[true, false, true, false, true, true, false, false, false, false, false, false, false, false, false, false, false, false, false, false, false, false, false, false, false, false, false, false, false, false, false, false, false] rfl rfl (by kernel_rfl) (fun _ _ _ h => h) (Or.inl ⟨by rfl, ?_⟩) ?_ ?_
  rotate_left
  · intro w'
    go_simp
    with_reducible rfl
  rotate_left
  · simp only [Act.put, List.setIfInBounds_toArray, List.set_cons_zero, List.set_cons_succ, i64_w, i32_w]
    rfl
  refine take_ (i := 1) (N := some 63) (v := ?_) (a' := ?_) #[true, true, true, false, true, true, false, false, false, false, false, false, false, false, false, false, false, false, false, false, false, false, false, false, false, false, false, false, false, false, false, false, false] rfl rfl (by kernel_rfl) (fun _ _ _ h => h) (Or.inl ⟨by rfl, ?_⟩) hHeld ?_ ?_
  rotate_left
  · rintro w' ⟨s0, s1, s2, s3, s4, s5, s6, s7⟩
    go_simp
    with_reducible rfl
  rotate_left
  · simp only [Act.put, List.setIfInBounds_toArray, List.set_cons_zero, List.set_cons_succ, i64_w, i32_w]
    rfl
  refine take_ (i := 3) (N := some 65) (v := ?_) (a' := ?_) #[true, true, true, true, true, true, false, false, false, false, false, false, false, false, false, false, false, false, false, false, false, false, false, false, false, false, false, false, false, false, false, false, false] rfl rfl (by kernel_rfl) (fun _ _ _ h => h) (Or.inl ⟨by rfl, ?_⟩) hHeld ?_ ?_
  rotate_left
  · rintro w' ⟨s0, s1, s2, s3, s4, s5, s6, s7⟩
    go_simp
    with_reducible rfl
  rotate_left
  · simp only [Act.put, List.setIfInBounds_toArray, List.set_cons_zero, List.set_cons_succ, i64_w, i32_w]
    rfl
  refine one_ (i := 6) (N := some 68) #[true, true, true, true, true, true, true, false, false, false, false, false, false, false, false, false, false, false, false, false, false, false, false, false, false, false, false, false, false, false, false, false, false] rfl rfl (by kernel_rfl) (by decide) (fun K hK => ?_)
  refine goes_ Try.func70 (by kernel_rfl) rfl #[.int .u64 n, .int .i64 z] (by rfl) rfl rfl (by simp only [List.map_toArray, List.map_cons, List.map_nil]; rfl) ?_
  with_reducible refine (easementref02_Number.calls 10 n z _ _ (refNum n hn0 hn1 z hz8)).mono ?_
  rintro e w9 ⟨v9, rfl, hR9, hB9⟩
  refine ⟨_, rfl, ?_⟩
  have hC9 : Below w8.heap.size w8 w9 := below_step (below_drew1 hS8) hB9
  have hcv9 := byt_conv (byt_of_R hR9) (by rw [leB_length]; omega)
  refine hK.out _ _ ⟨(hC9), (hcA _ (hC9)), (hcB _ (hC9)), (hcC _ (hC9)), (hcH _ (hC9)), (hcW0 _ (hC9)), (hcW1 _ (hC9)), (hcW2 _ (hC9))⟩ (fun hHeld => ?_)
  clear hK K
  refine norm_ (a' := ?_) ?_ ?_
  rotate_left
  · show Act.put _ (some 68) _ = _
    simp only [Act.put, List.setIfInBounds_toArray, List.set_cons_zero, List.set_cons_succ, i64_w, i32_w]
    rfl
  refine one_ (i := 7) (N := some 69) #[true, true, true, true, true, true, true, true, false, false, false, false, false, false, false, false, false, false, false, false, false, false, false, false, false, false, false, false, false, false, false, false, false] rfl rfl (by kernel_rfl) (by decide) (fun K hK => ?_)
  refine value_ (w1 := ?_) (v := ?_) (by rfl) rfl ?_ ?_
  rotate_left 2
  · go_simp
    constructor
    · rfl
    · rfl
  refine hK.out _ _ ⟨(hC9), (hcA _ (hC9)), (hcB _ (hC9)), (hcC _ (hC9)), (hcH _ (hC9)), (hcW0 _ (hC9)), (hcW1 _ (hC9)), (hcW2 _ (hC9))⟩ (fun hHeld => ?_)
  clear hK K
  refine norm_ (a' := ?_) ?_ ?_
  rotate_left
  · show Act.put _ (some 69) _ = _
    simp only [Act.put, List.setIfInBounds_toArray, List.set_cons_zero, List.set_cons_succ, i64_w, i32_w]
    rfl
  refine pure_ (i := 8) (N := some 70) (v := ?_) (a' := ?_) #[true, true, true, true, true, true, true, true, true, false, false, false, false, false, false, false, false, false, false, false, false, false, false, false, false, false, false, false, false, false, false, false, false] rfl rfl (by kernel_rfl) (fun _ _ _ h => h) (Or.inl ⟨by rfl, ?_⟩) ?_ ?_
  rotate_left
  · intro w'
    go_simp
    with_reducible rfl
  rotate_left
  · simp only [Act.put, List.setIfInBounds_toArray, List.set_cons_zero, List.set_cons_succ, i64_w, i32_w]
    rfl
  refine pure_ (i := 9) (N := some 71) (v := ?_) (a' := ?_) #[true, true, true, true, true, true, true, true, true, true, false, false, false, false, false, false, false, false, false, false, false, false, false, false, false, false, false, false, false, false, false, false, false] rfl rfl (by kernel_rfl) (fun _ _ _ h => h) (Or.inl ⟨by rfl, ?_⟩) ?_ ?_
  rotate_left
  · intro w'
    go_simp
    with_reducible rfl
  rotate_left
  · simp only [Act.put, List.setIfInBounds_toArray, List.set_cons_zero, List.set_cons_succ, i64_w, i32_w]
    rfl
  refine pure_ (i := 10) (N := some 72) (v := ?_) (a' := ?_) #[true, true, true, true, true, true, true, true, true, true, true, false, false, false, false, false, false, false, false, false, false, false, false, false, false, false, false, false, false, false, false, false, false] rfl rfl (by kernel_rfl) (fun _ _ _ h => h) (Or.inl ⟨by rfl, ?_⟩) ?_ ?_
  rotate_left
  · intro w'
    go_simp
    with_reducible rfl
  rotate_left
  · simp only [Act.put, List.setIfInBounds_toArray, List.set_cons_zero, List.set_cons_succ, i64_w, i32_w]
    rfl
  refine pure_ (i := 11) (N := some 73) (v := ?_) (a' := ?_) #[true, true, true, true, true, true, true, true, true, true, true, true, false, false, false, false, false, false, false, false, false, false, false, false, false, false, false, false, false, false, false, false, false] rfl rfl (by kernel_rfl) (fun _ _ _ h => h) (Or.inl ⟨by rfl, ?_⟩) ?_ ?_
  rotate_left
  · intro w'
    go_simp
    with_reducible rfl
  rotate_left
  · simp only [Act.put, List.setIfInBounds_toArray, List.set_cons_zero, List.set_cons_succ, i64_w, i32_w]
    rfl
  refine pure_ (i := 13) (N := some 75) (v := ?_) (a' := ?_) #[true, true, true, true, true, true, true, true, true, true, true, true, false, true, false, false, false, false, false, false, false, false, false, false, false, false, false, false, false, false, false, false, false] rfl rfl (by kernel_rfl) (fun _ _ _ h => h) (Or.inl ⟨by rfl, ?_⟩) ?_ ?_
  rotate_left
  · intro w'
    go_simp
    with_reducible rfl
  rotate_left
  · simp only [Act.put, List.setIfInBounds_toArray, List.set_cons_zero, List.set_cons_succ, i64_w, i32_w]
    rfl
  refine pure_ (i := 15) (N := some 77) (v := ?_) (a' := ?_) #[true, true, true, true, true, true, true, true, true, true, true, true, false, true, false, true, false, false, false, false, false, false, false, false, false, false, false, false, false, false, false, false, false] rfl rfl (by kernel_rfl) (fun _ _ _ h => h) (Or.inl ⟨by rfl, ?_⟩) ?_ ?_
  rotate_left
  · intro w'
    go_simp
    with_reducible rfl
  rotate_left
  · simp only [Act.put, List.setIfInBounds_toArray, List.set_cons_zero, List.set_cons_succ, i64_w, i32_w]
    rfl
  refine take_ (i := 12) (N := some 74) (v := ?_) (a' := ?_) #[true, true, true, true, true, true, true, true, true, true, true, true, true, true, false, true, false, false, false, false, false, false, false, false, false, false, false, false, false, false, false, false, false] rfl rfl (by kernel_rfl) (fun _ _ _ h => h) (Or.inl ⟨by rfl, ?_⟩) hHeld ?_ ?_
  rotate_left
  · rintro w' ⟨s0, s1, s2, s3, s4, s5, s6, s7⟩
    go_simp
    with_reducible rfl
  rotate_left
  · simp only [Act.put, List.setIfInBounds_toArray, List.set_cons_zero, List.set_cons_succ, i64_w, i32_w]
    rfl
  refine take_ (i := 14) (N := some 76) (v := ?_) (a' := ?_) #[true, true, true, true, true, true, true, true, true, true, true, true, true, true, true, true, false, false, false, false, false, false, false, false, false, false, false, false, false, false, false, false, false] rfl rfl (by kernel_rfl) (fun _ _ _ h => h) (Or.inl ⟨by rfl, ?_⟩) hHeld ?_ ?_
  rotate_left
  · rintro w' ⟨s0, s1, s2, s3, s4, s5, s6, s7⟩
    go_simp
    with_reducible rfl
  rotate_left
  · simp only [Act.put, List.setIfInBounds_toArray, List.set_cons_zero, List.set_cons_succ, i64_w, i32_w]
    rfl
  refine one_ (i := 16) (N := some 78) #[true, true, true, true, true, true, true, true, true, true, true, true, true, true, true, true, true, false, false, false, false, false, false, false, false, false, false, false, false, false, false, false, false] rfl rfl (by kernel_rfl) (by decide) (fun K hK => ?_)
  refine goes_ Try.func71 (by kernel_rfl) rfl #[.string s] (by rfl) rfl rfl (by simp only [List.map_toArray, List.map_cons, List.map_nil]; rfl) ?_
  with_reducible refine (easementref02_Text.calls 10 s _ _ (refText s (by omega))).mono ?_
  rintro e w10 ⟨v10, rfl, hR10, hB10⟩
  refine ⟨_, rfl, ?_⟩
  have hC10 : Below w8.heap.size w8 w10 := below_step hC9 hB10
  have hcv10 := byt_conv (byt_of_R hR10) (by rw [List.length_append, leB_length, bytesOf_length]; omega)
  refine hK.out _ _ ⟨(hC10), (hcA _ (hC10)), (hcB _ (hC10)), (hcC _ (hC10)), (hcH _ (hC10)), (hcW0 _ (hC10)), (hcW1 _ (hC10)), (hcW2 _ (hC10))⟩ (fun hHeld => ?_)
  clear hK K
  refine norm_ (a' := ?_) ?_ ?_
  rotate_left
  · show Act.put _ (some 78) _ = _
    simp only [Act.put, List.setIfInBounds_toArray, List.set_cons_zero, List.set_cons_succ, i64_w, i32_w]
    rfl
  refine one_ (i := 17) (N := some 79) #[true, true, true, true, true, true, true, true, true, true, true, true, true, true, true, true, true, true, false, false, false, false, false, false, false, false, false, false, false, false, false, false, false] rfl rfl (by kernel_rfl) (by decide) (fun K hK => ?_)
  refine value_ (w1 := ?_) (v := ?_) (by rfl) rfl ?_ ?_
  rotate_left 2
  · go_simp
    constructor
    · rfl
    · rfl
  refine hK.out _ _ ⟨(hC10), (hcA _ (hC10)), (hcB _ (hC10)), (hcC _ (hC10)), (hcH _ (hC10)), (hcW0 _ (hC10)), (hcW1 _ (hC10)), (hcW2 _ (hC10))⟩ (fun hHeld => ?_)
  clear hK K
  refine norm_ (a' := ?_) ?_ ?_
  rotate_left
  · show Act.put _ (some 79) _ = _
    simp only [Act.put, List.setIfInBounds_toArray, List.set_cons_zero, List.set_cons_succ, i64_w, i32_w]
    rfl
  refine pure_ (i := 18) (N := some 80) (v := ?_) (a' := ?_) #[true, true, true, true, true, true, true, true, true, true, true, true, true, true, true, true, true, true, true, false, false, false, false, false, false, false, false, false, false, false, false, false, false] rfl rfl (by kernel_rfl) (fun _ _ _ h => h) (Or.inl ⟨by rfl, ?_⟩) ?_ ?_
  rotate_left
  · intro w'
    go_simp
    with_reducible rfl
  rotate_left
  · simp only [Act.put, List.setIfInBounds_toArray, List.set_cons_zero, List.set_cons_succ, i64_w, i32_w]
    rfl
  refine pure_ (i := 19) (N := some 81) (v := ?_) (a' := ?_) #[true, true, true, true, true, true, true, true, true, true, true, true, true, true, true, true, true, true, true, true, false, false, false, false, false, false, false, false, false, false, false, false, false] rfl rfl (by kernel_rfl) (fun _ _ _ h => h) (Or.inl ⟨by rfl, ?_⟩) ?_ ?_
  rotate_left
  · intro w'
    go_simp
    with_reducible rfl
  rotate_left
  · simp only [Act.put, List.setIfInBounds_toArray, List.set_cons_zero, List.set_cons_succ, i64_w, i32_w]
    rfl
  refine pure_ (i := 20) (N := some 82) (v := ?_) (a' := ?_) #[true, true, true, true, true, true, true, true, true, true, true, true, true, true, true, true, true, true, true, true, true, false, false, false, false, false, false, false, false, false, false, false, false] rfl rfl (by kernel_rfl) (fun _ _ _ h => h) (Or.inl ⟨by rfl, ?_⟩) ?_ ?_
  rotate_left
  · intro w'
    go_simp
    with_reducible rfl
  rotate_left
  · simp only [Act.put, List.setIfInBounds_toArray, List.set_cons_zero, List.set_cons_succ, i64_w, i32_w]
    rfl
  refine pure_ (i := 21) (N := some 83) (v := ?_) (a' := ?_) #[true, true, true, true, true, true, true, true, true, true, true, true, true, true, true, true, true, true, true, true, true, true, false, false, false, false, false, false, false, false, false, false, false] rfl rfl (by kernel_rfl) (fun _ _ _ h => h) (Or.inl ⟨by rfl, ?_⟩) ?_ ?_
  rotate_left
  · intro w'
    go_simp
    with_reducible rfl
  rotate_left
  · simp only [Act.put, List.setIfInBounds_toArray, List.set_cons_zero, List.set_cons_succ, i64_w, i32_w]
    rfl
  refine pure_ (i := 22) (N := some 84) (v := ?_) (a' := ?_) #[true, true, true, true, true, true, true, true, true, true, true, true, true, true, true, true, true, true, true, true, true, true, true, false, false, false, false, false, false, false, false, false, false] rfl rfl (by kernel_rfl) (fun _ _ _ h => h) (Or.inl ⟨by rfl, ?_⟩) ?_ ?_
  rotate_left
  · intro w'
    go_simp
    with_reducible rfl
  rotate_left
  · simp only [Act.put, List.setIfInBounds_toArray, List.set_cons_zero, List.set_cons_succ, i64_w, i32_w]
    rfl
  refine pure_ (i := 24) (N := some 86) (v := ?_) (a' := ?_) #[true, true, true, true, true, true, true, true, true, true, true, true, true, true, true, true, true, true, true, true, true, true, true, false, true, false, false, false, false, false, false, false, false] rfl rfl (by kernel_rfl) (fun _ _ _ h => h) (Or.inl ⟨by rfl, ?_⟩) ?_ ?_
  rotate_left
  · intro w'
    go_simp
    with_reducible rfl
  rotate_left
  · simp only [Act.put, List.setIfInBounds_toArray, List.set_cons_zero, List.set_cons_succ, i64_w, i32_w]
    rfl
  refine take_ (i := 23) (N := some 85) (v := ?_) (a' := ?_) #[true, true, true, true, true, true, true, true, true, true, true, true, true, true, true, true, true, true, true, true, true, true, true, true, true, false, false, false, false, false, false, false, false] rfl rfl (by kernel_rfl) (fun _ _ _ h => h) (Or.inl ⟨by rfl, ?_⟩) hHeld ?_ ?_
  rotate_left
  · rintro w' ⟨s0, s1, s2, s3, s4, s5, s6, s7⟩
    go_simp
    with_reducible rfl
  rotate_left
  · simp only [Act.put, List.setIfInBounds_toArray, List.set_cons_zero, List.set_cons_succ, i64_w, i32_w]
    rfl
  refine take_ (i := 25) (N := some 87) (v := ?_) (a' := ?_) #[true, true, true, true, true, true, true, true, true, true, true, true, true, true, true, true, true, true, true, true, true, true, true, true, true, true, false, false, false, false, false, false, false] rfl rfl (by kernel_rfl) (fun _ _ _ h => h) (Or.inl ⟨by rfl, ?_⟩) hHeld ?_ ?_
  rotate_left
  · rintro w' ⟨s0, s1, s2, s3, s4, s5, s6, s7⟩
    go_simp
    with_reducible rfl
  rotate_left
  · simp only [Act.put, List.setIfInBounds_toArray, List.set_cons_zero, List.set_cons_succ, i64_w, i32_w]
    rfl
  refine take_ (i := 26) (N := some 88) (v := ?_) (a' := ?_) #[true, true, true, true, true, true, true, true, true, true, true, true, true, true, true, true, true, true, true, true, true, true, true, true, true, true, true, false, false, false, false, false, false] rfl rfl (by kernel_rfl) (fun _ _ _ h => h) (Or.inl ⟨by rfl, ?_⟩) hHeld ?_ ?_
  rotate_left
  · rintro w' ⟨s0, s1, s2, s3, s4, s5, s6, s7⟩
    go_simp
    with_reducible rfl
  rotate_left
  · simp only [Act.put, List.setIfInBounds_toArray, List.set_cons_zero, List.set_cons_succ, i64_w, i32_w]
    rfl
  refine one_ (i := 27) (N := some 89) #[true, true, true, true, true, true, true, true, true, true, true, true, true, true, true, true, true, true, true, true, true, true, true, true, true, true, true, true, false, false, false, false, false] rfl rfl (by kernel_rfl) (by decide) (fun K hK => ?_)
  refine goes_ Try.func66 (by kernel_rfl) rfl #[.agg #[.int .u8 k, .int .i64 m, .string t]] (by rfl) rfl rfl (by simp only [List.map_toArray, List.map_cons, List.map_nil]; rfl) ?_
  with_reducible refine (easementlaw02_of.calls k m t _ _ _ _ rfl).mono ?_
  rintro e w11 ⟨rfl, hB11⟩
  refine ⟨_, rfl, ?_⟩
  have hC11 : Below w8.heap.size w8 w11 := below_step hC10 hB11
  refine hK.out _ _ ⟨(hC11), (hcA _ (hC11)), (hcB _ (hC11)), (hcC _ (hC11)), (hcH _ (hC11)), (hcW0 _ (hC11)), (hcW1 _ (hC11)), (hcW2 _ (hC11))⟩ (fun hHeld => ?_)
  clear hK K
  refine norm_ (a' := ?_) ?_ ?_
  rotate_left
  · show Act.put _ (some 89) _ = _
    simp only [Act.put, List.setIfInBounds_toArray, List.set_cons_zero, List.set_cons_succ, i64_w, i32_w]
    rfl
  refine one_ (i := 28) (N := some 90) #[true, true, true, true, true, true, true, true, true, true, true, true, true, true, true, true, true, true, true, true, true, true, true, true, true, true, true, true, true, false, false, false, false] rfl rfl (by kernel_rfl) (by decide) (fun K hK => ?_)
  refine goes_ Try.func72 (by kernel_rfl) rfl #[.agg #[.int .u8 k, .int .i64 m, .string t]] (by rfl) rfl rfl (by simp only [List.map_toArray, List.map_cons, List.map_nil]; rfl) ?_
  with_reducible refine (easementref02_Value.calls 10 k m t _ _ (refValue k m t hk0 hk1 (by omega))).mono ?_
  rintro e w12 ⟨v12, rfl, hR12, hB12⟩
  refine ⟨_, rfl, ?_⟩
  have hC12 : Below w8.heap.size w8 w12 := below_step hC11 hB12
  have hcv12 := byt_conv (byt_of_R hR12) (by have := valB_len k m t; omega)
  refine hK.out _ _ ⟨(hC12), (hcA _ (hC12)), (hcB _ (hC12)), (hcC _ (hC12)), (hcH _ (hC12)), (hcW0 _ (hC12)), (hcW1 _ (hC12)), (hcW2 _ (hC12))⟩ (fun hHeld => ?_)
  clear hK K
  refine norm_ (a' := ?_) ?_ ?_
  rotate_left
  · show Act.put _ (some 90) _ = _
    simp only [Act.put, List.setIfInBounds_toArray, List.set_cons_zero, List.set_cons_succ, i64_w, i32_w]
    rfl
  refine one_ (i := 29) (N := some 91) #[true, true, true, true, true, true, true, true, true, true, true, true, true, true, true, true, true, true, true, true, true, true, true, true, true, true, true, true, true, true, false, false, false] rfl rfl (by kernel_rfl) (by decide) (fun K hK => ?_)
  refine value_ (w1 := ?_) (v := ?_) (by rfl) rfl ?_ ?_
  rotate_left 2
  · go_simp
    constructor
    · rfl
    · rfl
  refine hK.out _ _ ⟨(hC12), (hcA _ (hC12)), (hcB _ (hC12)), (hcC _ (hC12)), (hcH _ (hC12)), (hcW0 _ (hC12)), (hcW1 _ (hC12)), (hcW2 _ (hC12))⟩ (fun hHeld => ?_)
  clear hK K
  refine norm_ (a' := ?_) ?_ ?_
  rotate_left
  · show Act.put _ (some 91) _ = _
    simp only [Act.put, List.setIfInBounds_toArray, List.set_cons_zero, List.set_cons_succ, i64_w, i32_w]
    rfl
  refine pure_ (i := 30) (N := some 92) (v := ?_) (a' := ?_) #[true, true, true, true, true, true, true, true, true, true, true, true, true, true, true, true, true, true, true, true, true, true, true, true, true, true, true, true, true, true, true, false, false] rfl rfl (by kernel_rfl) (fun _ _ _ h => h) (Or.inl ⟨by rfl, ?_⟩) ?_ ?_
  rotate_left
  · intro w'
    go_simp
    with_reducible rfl
  rotate_left
  · simp only [Act.put, List.setIfInBounds_toArray, List.set_cons_zero, List.set_cons_succ, i64_w, i32_w]
    rfl
  refine pure_ (i := 31) (N := some 93) (v := ?_) (a' := ?_) #[true, true, true, true, true, true, true, true, true, true, true, true, true, true, true, true, true, true, true, true, true, true, true, true, true, true, true, true, true, true, true, true, false] rfl rfl (by kernel_rfl) (fun _ _ _ h => h) (Or.inl ⟨by rfl, ?_⟩) ?_ ?_
  rotate_left
  · intro w'
    go_simp
    with_reducible rfl
  rotate_left
  · simp only [Act.put, List.setIfInBounds_toArray, List.set_cons_zero, List.set_cons_succ, i64_w, i32_w]
    rfl
  refine pure_ (i := 32) (N := some 94) (v := ?_) (a' := ?_) #[true, true, true, true, true, true, true, true, true, true, true, true, true, true, true, true, true, true, true, true, true, true, true, true, true, true, true, true, true, true, true, true, true] rfl rfl (by kernel_rfl) (fun _ _ _ h => h) (Or.inl ⟨by rfl, ?_⟩) ?_ ?_
  rotate_left
  · intro w'
    go_simp
    with_reducible rfl
  rotate_left
  · simp only [Act.put, List.setIfInBounds_toArray, List.set_cons_zero, List.set_cons_succ, i64_w, i32_w]
    rfl
  refine done_ (by kernel_rfl) ?_

  have hB13 : Below w8.heap.size w8 w12 := hC12
  have HBn := Lib.hid (below_step (by repeat (first | (with_reducible first | exact HB.out | apply below_alloc | apply pw_below_drewN | apply below_drew1) | exact HB.out)) hB13); clear HB; have HB := HBn; clear HBn
  have kd0 := hcW0 w12 hB13
  have kd1 := hcW1 w12 hB13
  have kd2 := hcW2 w12 hB13
  have hl12 : w.heap.size + 1 < w12.heap.size := by have := hB13.size; omega
  clear hcA hcB hcC hcH hcW0 hcW1 hcW2 ad1 ad2 ad3 hS8 kc0 kc1 kc2 hcv9 hcv10 hcv12 hR9 hR10 hR12 hB9 hB10 hB11 hB12 hB13
  go_wp2
  have hcW0 : ∀ W, Below w12.heap.size w12 W → W.cell? ⟨w.heap.size + 1, 0, none⟩ = some (.int .u8 k) := fun W hW => (hW.cell (p := ⟨w.heap.size + 1, 0, none⟩) hl12).trans kd0
  have hcW1 : ∀ W, Below w12.heap.size w12 W → W.cell? ⟨w.heap.size + 1, 1, none⟩ = some (.int .i64 m) := fun W hW => (hW.cell (p := ⟨w.heap.size + 1, 1, none⟩) hl12).trans kd1
  have hcW2 : ∀ W, Below w12.heap.size w12 W → W.cell? ⟨w.heap.size + 1, 2, none⟩ = some (.string t) := fun W hW => (hW.cell (p := ⟨w.heap.size + 1, 2, none⟩) hl12).trans kd2
  have hS8 := Below.refl w12.heap.size w12
  go_region_held3 (fun W => Below w12.heap.size w12 W) (first | assumption | exact below_drew1 hS8 | exact below_drew1 (by assumption) | (refine below_step (W := ?_) ?_ ?_; rotate_left 2; assumption; assumption)) (first
    | (go_at_call 67; refine (put_byt _ [] n z z HZZ.out _ (SlR.nil _ _) (by simp) hn0).mono ?_; rintro e w13 ⟨v13, rfl, hb13, hB13⟩)
    | (go_at_call 68; refine (text_calls _ _ s _ hb13 (by rw [List.nil_append, leB_length]; omega) (by omega)).mono ?_; rintro e w14 ⟨v14, rfl, hm14⟩; have hB14 := hm14.2)
    | (go_at_call 69; refine (value_calls _ _ k m t _ hm14.byt hk0 hk1 (by rw [List.length_append, List.length_append, List.nil_append, leB_length, leB_length, bytesOf_length]; omega) (by omega)).mono ?_; rintro e w15 ⟨v15, rfl, hm15⟩; have hB15 := hm15.2)
    | (go_at_call 73; refine (open_calls _ _ _ hm15.byt (by have := valB_len k m t; rw [List.length_append, List.length_append, List.length_append, List.nil_append, leB_length, leB_length, bytesOf_length]; omega)).mono ?_; rintro e w16 ⟨g, rfl, hrd, hg16, hB16⟩))
  have hB17 : Below w12.heap.size w12 w16 := by assumption
  have HBn := Lib.hid (below_step (by repeat (first | (with_reducible first | exact HB.out | apply below_alloc | apply pw_below_drewN | apply below_drew1) | exact HB.out)) hB17); clear HB; have HB := HBn; clear HBn
  have hlv : (leB (s.size : Int) 2 ++ (bytesOf s ++ valB k m t)).length ≤ 70368744177664 := by have := valB_len k m t; rw [List.length_append, List.length_append, leB_length, bytesOf_length]; omega
  have hbv : Bs (leB (s.size : Int) 2 ++ (bytesOf s ++ valB k m t)) := bs_app (bs_leB _ _) (bs_app (bs_bytesOf _) (bs_valB _ _ _))
  have hrd : Rd w16 w16.heap.size g (leB n z ++ (leB (s.size : Int) 2 ++ (bytesOf s ++ valB k m t))) 0 := by simpa only [List.nil_append, List.append_assoc] using hrd
  have ke0 := hcW0 w16 hB17
  have ke1 := hcW1 w16 hB17
  have ke2 := hcW2 w16 hB17
  have hl16 : w.heap.size + 1 < w16.heap.size := by have := hB17.size; omega
  have hgn : ¬ w.heap.size + 1 = g := by have q1 := hB13.size; have q2 := hB14.size; have q3 := hB15.size; simp at q1 q2 q3; omega
  have RD := Lib.hid hrd
  have HLV := Lib.hid hlv
  have HBV := Lib.hid hbv
  clear hcW0 hcW1 hcW2 hS8 hrd hlv hbv hB17
  have he : endP [] 0 = 0 := rfl
  have HG := Lib.hid (show w.heap.size ≤ g by have q1 := hB13.size; have q2 := hB14.size; have q3 := hB15.size; simp at q1 q2 q3; omega)
  rcases Nat.lt_or_ge z 8 with hz9 | hz9
  · have hw : IntKind.u64.wrap (2 ^ (8 * z)) = 256 ^ z := by
      rw [Int.pow_mul]
      have h1 : (256 : Nat) ^ z ≤ 256 ^ 7 := Nat.pow_le_pow_right (by decide) (by omega)
      have h2 : ((2 : Int) ^ 8) ^ z = ((256 ^ z : Nat) : Int) := by push_cast; rfl
      rw [h2]
      have h3 : (256 : Int) ^ z = ((256 ^ z : Nat) : Int) := by push_cast; rfl
      rw [h3]
      generalize 256 ^ z = y at h1 ⊢
      simp [IntKind.wrap, IntKind.bits, IntKind.signed]
      omega
    have hne : ¬ (256 : Int) ^ z = 0 := by have := Int.pow_pos (n := 256) (m := z) (by decide); omega
    go_wp2_with (first
      | (go_at_call 32; go_loud (refine (read_num _ g n z _ _ HZZ.out RD.out HLV.out hz8 HBV.out).mono ?_; rintro e w17 ⟨rfl, hr17, hF17⟩; rw [← List.append_assoc] at hr17; have RD17 := Lib.hid hr17; have hf17 := Lib.hid hF17; clear hr17 hF17))
      | (go_at_call 33; go_loud (refine (read_text _ g s _ _ hs RD17.out (by have := valB_len k m t; omega) (bs_valB _ _ _)).mono ?_; rintro e w18 ⟨rfl, hr18, hF18⟩; have RD18 := Lib.hid hr18; have hf18 := Lib.hid (hf17.out.trans hF18); clear hr18 hF18))
      | (go_at_call 34; go_loud (refine (read_value _ g k m t _ HR.out HM.out RD18.out hf18.out.size (by omega)).mono ?_; rintro e w19 ⟨rfl, hr19, hF19⟩; have hF := hf18.out.trans hF19; have RD19 := Lib.hid hr19; have hf19 := Lib.hid hF; have kf0 := hF.cell ke0 hgn; have kf1 := hF.cell ke1 hgn; have kf2 := hF.cell ke2 hgn; have hl19 : w.heap.size + 1 < w19.heap.size := (by have := hF.size; omega); clear hF hr19 hF19))
      | (go_at_call 37; go_loud (refine (end_calls _ g _ _ _ (RD19.out.below (below_alloc (Below.refl _ _) _))).mono ?_; rintro e w20 ⟨rfl, rfl⟩))
      | (go_at_call 35; go_loud (refine (left_calls _ g _ _ _ (RD19.out.below (below_alloc (Below.refl _ _) _))).mono ?_; rintro e w20 ⟨rfl, rfl⟩)))
    go_ret
    exact ⟨rfl, below_alloc (HB.out.trans (hf19.out.below (fun k hk => by subst hk; exact HG.out) HB.out.size)) _⟩
  · have hn8 : n % 256 ^ z = n := by
      obtain rfl : z = 8 := by omega
      omega
    go_wp2_with (first
      | (go_at_call 32; go_loud (refine (read_num _ g n z _ _ HZZ.out RD.out HLV.out hz8 HBV.out).mono ?_; rintro e w17 ⟨rfl, hr17, hF17⟩; rw [← List.append_assoc] at hr17; have RD17 := Lib.hid hr17; have hf17 := Lib.hid hF17; clear hr17 hF17))
      | (go_at_call 33; go_loud (refine (read_text _ g s _ _ hs RD17.out (by have := valB_len k m t; omega) (bs_valB _ _ _)).mono ?_; rintro e w18 ⟨rfl, hr18, hF18⟩; have RD18 := Lib.hid hr18; have hf18 := Lib.hid (hf17.out.trans hF18); clear hr18 hF18))
      | (go_at_call 34; go_loud (refine (read_value _ g k m t _ HR.out HM.out RD18.out hf18.out.size (by omega)).mono ?_; rintro e w19 ⟨rfl, hr19, hF19⟩; have hF := hf18.out.trans hF19; have RD19 := Lib.hid hr19; have hf19 := Lib.hid hF; have kf0 := hF.cell ke0 hgn; have kf1 := hF.cell ke1 hgn; have kf2 := hF.cell ke2 hgn; have hl19 : w.heap.size + 1 < w19.heap.size := (by have := hF.size; omega); clear hF hr19 hF19))
      | (go_at_call 37; go_loud (refine (end_calls _ g _ _ _ (RD19.out.below (below_alloc (Below.refl _ _) _))).mono ?_; rintro e w20 ⟨rfl, rfl⟩))
      | (go_at_call 35; go_loud (refine (left_calls _ g _ _ _ (RD19.out.below (below_alloc (Below.refl _ _) _))).mono ?_; rintro e w20 ⟨rfl, rfl⟩)))
    go_ret
    exact ⟨rfl, below_alloc (HB.out.trans (hf19.out.below (fun k hk => by subst hk; exact HG.out) HB.out.size)) _⟩
end Go.Proofs.Ytaoacibahdbdkaa.PuWalk
