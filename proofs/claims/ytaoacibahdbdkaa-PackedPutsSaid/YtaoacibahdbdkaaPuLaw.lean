/- The law PackedPuts, walked. -/
import Derived.Test.YtaoacibahdbdkaaPuWalk
import Derived.Lib.SmallJoins
namespace Go.Proofs.Ytaoacibahdbdkaa.PuLaw
open Go.RowKit Go Go.Proofs.YtaoacibahdbdkaaW.PrintWords Go.Proofs.YtaoacibahdbdkaaW.PrintMore Go.Proofs.Ytaoacibahdbdkaa.Bts Go.Proofs.Ytaoacibahdbdkaa.Pk Go.Proofs.Ytaoacibahdbdkaa.Pr Go.Proofs.Ytaoacibahdbdkaa.Fra Go.Proofs.Ytaoacibahdbdkaa.QPackedPuts Go.Proofs.Ytaoacibahdbdkaa.PuWalk
theorem right_some (k m : Int) (t : ByteArray) : ∃ r, easementref01_Right.f k m t = some r := by
  unfold easementref01_Right.f
  split
  · split <;> exact ⟨_, rfl⟩
  · split
    · split
      · exact ⟨_, rfl⟩
      · split <;> exact ⟨_, rfl⟩
    · split
      · exact ⟨_, rfl⟩
      · split
        · split <;> exact ⟨_, rfl⟩
        · exact ⟨_, rfl⟩
set_option maxHeartbeats 4000000 in
set_option maxRecDepth 100000 in
theorem early (v : Value) (ahead : ByteArray) (n size : Int) (s : ByteArray) (k m : Int) (t : ByteArray) (w : World) (h : Byt w v (bytesOf ahead)) (hal : ahead.size ≤ 9223372036854775807) (hsl : s.size ≤ 9223372036854775807)
    (hbad : 300 < ahead.size ∨ 9000 < s.size ∨ easementref01_Right.f k m t = some false) :
    Calls Try.prog 30 #[v, .agg #[.int .u64 n, .int .i64 size], .string s, .agg #[.int .u8 k, .int .i64 m, .string t]] w fun e w' => e = .returned (.bool true) ∧ Below w.heap.size w w' := by
  have hl := bytesOf_length ahead
  unfold Byt at h
  rw [hl] at h
  obtain ⟨hl0, A, c, rfl, hc, hnil, hcell⟩ := id h
  clear h hl hl0 hnil hcell
  have HB := Lib.hid (Below.refl w.heap.size w)
  obtain ⟨r, hr⟩ := right_some k m t
  by_cases ha : 300 < ahead.size
  · have b1 : decide ((300 : Int) < (ahead.size : Int)) = true := by simp; omega
    clear hbad hr
    go_enter Try.func30, Try.ntmps30
    go_wp2
    go_quiet (fail)
    go_wp2_with (first
      | (go_at_call 31; refine (lives_calls _).mono ?_; rintro e w1 ⟨rfl, hB1⟩; have HBn := Lib.hid (below_step (by repeat (first | (with_reducible first | exact HB.out | apply below_alloc | apply pw_below_drewN | apply below_drew1) | exact HB.out)) hB1); clear HB; have HB := HBn; clear HBn))
    go_ret
    exact ⟨rfl, HB.out⟩
  have b1 : decide ((300 : Int) < (ahead.size : Int)) = false := by simp; omega
  by_cases hs : 9000 < s.size
  · have b2 : decide ((9000 : Int) < (s.size : Int)) = true := by simp; omega
    clear hbad hr
    go_enter Try.func30, Try.ntmps30
    go_wp2
    go_quiet (fail)
    go_wp2_with (first
      | (go_at_call 31; refine (lives_calls _).mono ?_; rintro e w1 ⟨rfl, hB1⟩; have HBn := Lib.hid (below_step (by repeat (first | (with_reducible first | exact HB.out | apply below_alloc | apply pw_below_drewN | apply below_drew1) | exact HB.out)) hB1); clear HB; have HB := HBn; clear HBn))
    go_ret
    exact ⟨rfl, HB.out⟩
  have b2 : decide ((9000 : Int) < (s.size : Int)) = false := by simp; omega
  have HR := Lib.hid (show easementref01_Right.f k m t = some false by rcases hbad with h | h | h; exact absurd h ha; exact absurd h hs; exact h)
  clear hbad hr
  go_enter Try.func30, Try.ntmps30
  go_wp2
  go_quiet (fail)
  go_wp2_with (first
    | (go_at_call 31; refine (lives_calls _).mono ?_; rintro e w1 ⟨rfl, hB1⟩; obtain ⟨hc1, hf1⟩ := bcell hB1; have hsz1 := hB1.size; (try have hl1 : w.heap.size + 1 < w1.heap.size := (by have := hsz1; simp at this; omega)); have HBn := Lib.hid (below_step (by repeat (first | (with_reducible first | exact HB.out | apply below_alloc | apply pw_below_drewN | apply below_drew1) | exact HB.out)) hB1); clear HB; have HB := HBn; clear HBn)
    | (go_at_call 66; refine (easementlaw02_of.calls k m t _ _ _ _ rfl).mono ?_; rintro e w2 ⟨rfl, hB2⟩; have HBn := Lib.hid (below_step (by repeat (first | (with_reducible first | exact HB.out | apply below_alloc | apply pw_below_drewN | apply below_drew1) | exact HB.out)) hB2); clear HB; have HB := HBn; clear HBn)
    | (go_at_call 38; refine (easementref01_Right.calls _ _ _ _ _ HR.out).mono ?_; rintro e w3 ⟨rfl, hB3⟩; have HBn := Lib.hid (below_step (by repeat (first | (with_reducible first | exact HB.out | apply below_alloc | apply pw_below_drewN | apply below_drew1) | exact HB.out)) hB3); clear HB; have HB := HBn; clear HBn))
  go_ret
  exact ⟨rfl, HB.out⟩
theorem puts_calls (v : Value) (ahead : ByteArray) (n size : Int) (s : ByteArray) (k m : Int) (t : ByteArray) (w : World) (h : Byt w v (bytesOf ahead)) (hal : ahead.size ≤ 140737488351232) (hsl : s.size ≤ 140737488351232)
    (hn0 : 0 ≤ n) (hn1 : n ≤ 18446744073709551615) (hk0 : 0 ≤ k) (hk1 : k ≤ 255) (hm : -9223372036854775808 ≤ m ∧ m ≤ 9223372036854775807) :
    Calls Try.prog 30 #[v, .agg #[.int .u64 n, .int .i64 size], .string s, .agg #[.int .u8 k, .int .i64 m, .string t]] w fun e w' => e = .returned (.bool true) ∧ Below w.heap.size w w' := by
  by_cases ha : 300 < ahead.size
  · exact early v ahead n size s k m t w h (by omega) (by omega) (.inl ha)
  by_cases hs : 9000 < s.size
  · exact early v ahead n size s k m t w h (by omega) (by omega) (.inr (.inl hs))
  obtain ⟨r, hr⟩ := right_some k m t
  cases r
  · exact early v ahead n size s k m t w h (by omega) (by omega) (.inr (.inr hr))
  · have ht : t.size ≤ 4096 := by
      have e0 : ByteArray.empty.size = 0 := rfl
      rcases right_cases hr with ⟨_, _, rfl⟩ | ⟨_, _, rfl⟩ | ⟨_, rfl⟩ | ⟨_, _, h⟩ <;> omega
    exact main v ahead n size s k m t w h (by omega) (by omega) hr hn0 hn1 hk0 hk1 ht hm (sizeP size) rfl (by unfold sizeP; omega)
theorem conv_bytes (w : World) (s : ByteArray) (hs : s.size ≤ 9223372036854775807) : ∃ v w', (convert 9 56 (.string s)).run Try.prog w = .ok v w' ∧ Byt w' v (bytesOf s) ∧ Below w.heap.size w w' := by
  have h := Lib.run_convert_string_bytes (P := Try.prog) w 9 56 5 s Try.underlying9 Try.underlying56 Try.underlying5
  refine ⟨_, _, h, ?_, Joins.below_bytesWorld _ w 5 s (Nat.le_refl _)⟩
  have hr := bytes_reads w 5 s hs
  have hl := bytesOf_length s
  refine ⟨by rw [nums_length, hl]; simp, _, _, by rw [hl], ?_, (fun e => by cases e), ?_⟩
  · rw [hl]; exact grownCap_ge _ _ _ _
  · intro ad hA j u hu
    cases hA
    have hj : j < (bytesOf s).length := by have := (List.getElem?_eq_some_iff.1 hu).1; rwa [nums_length] at this
    obtain ⟨ad', e, hc⟩ := hr.2.2 (by omega)
    cases e
    rw [hc j (by omega), ← hu, nums_get .u8 _ j hj]
set_option maxHeartbeats 4000000 in
set_option maxRecDepth 100000 in
theorem walk (x0_0 : Int) (x0_1 : Int) (x1_0 : ByteArray) (x1_1 : ByteArray) (x2_0 : Int) (x2_1 : Int) (x2_2 : ByteArray) (W : World) (p0_0 : (IntKind.u64.min ≤ x0_0 ∧ x0_0 ≤ IntKind.u64.max)) (p0_1 : (IntKind.i64.min ≤ x0_1 ∧ x0_1 ≤ IntKind.i64.max)) (p1_0 : (x1_0.size ≤ 140737488351232)) (p1_1 : (x1_1.size ≤ 140737488351232)) (p2_0 : (IntKind.u8.min ≤ x2_0 ∧ x2_0 ≤ IntKind.u8.max)) (p2_1 : (IntKind.i64.min ≤ x2_1 ∧ x2_1 ≤ IntKind.i64.max)) (p2_2 : (x2_2.size ≤ 140737488351232)) :
    Calls Try.prog 7 #[.agg #[.int .u64 x0_0, .int .i64 x0_1], .agg #[.string x1_0, .string x1_1], .agg #[.int .u8 x2_0, .int .i64 x2_1, .string x2_2]] W fun e W' => e = .returned (.bool true) ∧ Below W.heap.size W W' := by
  have a0 : 0 ≤ x0_0 ∧ x0_0 ≤ 18446744073709551615 := p0_0
  have a1 : 0 ≤ x2_0 ∧ x2_0 ≤ 255 := p2_0
  have a2 : -9223372036854775808 ≤ x2_1 ∧ x2_1 ≤ 9223372036854775807 := p2_1
  have A0 := Lib.hid a0
  have A1 := Lib.hid a1
  have A2 := Lib.hid a2
  clear p0_0 p0_1 p2_0 p2_1 p2_2 a0 a1 a2
  obtain ⟨vb, wb, hrun, hbyt, hbel⟩ := conv_bytes (((W.alloc (.cells #[.int .u64 x0_0, .int .i64 x0_1] 50)).alloc (.cells #[.string x1_0, .string x1_1] 51)).alloc (.cells #[.int .u8 x2_0, .int .i64 x2_1, .string x2_2] 54)) x1_0 (by omega)
  have HY := Lib.hid hbyt
  have HBW := Lib.hid hbel
  obtain ⟨hc0, hf0⟩ := bcell hbel; have hsz0 := hbel.size
  have e0 : wb.cell? ⟨W.heap.size, 0, none⟩ = some (.int .u64 x0_0) := by rw [hc0 _ _ (by simp <;> omega)]; go_simp
  have e1 : wb.cell? ⟨W.heap.size, 1, none⟩ = some (.int .i64 x0_1) := by rw [hc0 _ _ (by simp <;> omega)]; go_simp
  have e2 : wb.cell? ⟨W.heap.size + 1, 1, none⟩ = some (.string x1_1) := by rw [hc0 _ _ (by simp <;> omega)]; go_simp
  have e3 : wb.cell? ⟨W.heap.size + 1 + 1, 0, none⟩ = some (.int .u8 x2_0) := by rw [hc0 _ _ (by simp <;> omega)]; go_simp
  have e4 : wb.cell? ⟨W.heap.size + 1 + 1, 1, none⟩ = some (.int .i64 x2_1) := by rw [hc0 _ _ (by simp <;> omega)]; go_simp
  have e5 : wb.cell? ⟨W.heap.size + 1 + 1, 2, none⟩ = some (.string x2_2) := by rw [hc0 _ _ (by simp <;> omega)]; go_simp
  clear hc0 hf0 hsz0 hbyt hbel
  go_enter Try.func7, Try.ntmps7
  go_wp2_with (go_at_call 30; go_loud (refine (puts_calls _ x1_0 x0_0 x0_1 x1_1 x2_0 x2_1 x2_2 _ HY.out p1_0 p1_1 A0.out.1 A0.out.2 A1.out.1 A1.out.2 A2.out).mono ?_; rintro e w2 ⟨rfl, hB2⟩))
  go_ret
  exact ⟨rfl, below_step (below_step (below_alloc (below_alloc (below_alloc (Below.refl _ _) _) _) _) HBW.out) hB2⟩
end Go.Proofs.Ytaoacibahdbdkaa.PuLaw
