/- reply: are two one?, as a contract. -/
import Derived.Test.YtaoacibahdbdkaaRepC
namespace Go.Proofs.Ytaoacibahdbdkaa.Rep
open Go.RowKit Go Go.Proofs.Ytaoacibahdbdkaa.QReplySame Go.Proofs.YtaoacibahdbdkaaW.PrintWords Go.Proofs.YtaoacibahdbdkaaW.PrintLast Go.Proofs.YtaoacibahdbdkaaW.PrintMore Go.Proofs.Ytaoacibahdbdkaa.Fra
theorem eq2 (a b x y : Int) (w : World) : (Op.equalIn 10000 84 (.agg #[.int .u64 a, .int .u64 b]) (.agg #[.int .u64 x, .int .u64 y])).run Try.prog w = .ok (a == x && b == y) w :=
  ArrEq.equalIn_arr2 9998 Try.underlying84 Try.underlying46 w a b x y (by kernel_rfl) (fun _ _ => ⟨by kernel_rfl, by kernel_rfl⟩)
theorem same_false (a0 h0 g0 : Int) (v0 : Value) (l0 : List S54) (a1 h1 g1 : Int) (v1 : Value) (l1 : List S54) (w : World) (r0 : RV w v0 l0) (r1 : RV w v1 l1) (hne : ¬ (a0 = a1 ∧ (h0 = h1 ∧ g0 = g1) ∧ l0.length = l1.length)) :
    Calls Try.prog 47 #[.agg #[.int .u8 a0, .int .u64 h0, .int .u64 g0, v0], .agg #[.int .u8 a1, .int .u64 h1, .int .u64 g1, v1]] w fun en w' => en = .returned (.bool false) ∧ Below w.heap.size w w' := by
  obtain ⟨A0, c0, rfl, _, _⟩ := r0
  obtain ⟨A1, c1, rfl, _, _⟩ := r1
  have q2 := eq2
  by_cases e1 : a0 = a1
  · by_cases e2 : h0 = h1 ∧ g0 = g1
    · have e3 : ¬ l0.length = l1.length := fun h => hne ⟨e1, e2, h⟩
      have b1 : (a0 == a1) = true := by simpa using e1
      have b2 : (h0 == h1 && g0 == g1) = true := by simpa using e2
      have b3 : (l0.length == l1.length) = false := by simpa using e3
      have b3' : (l0.length != l1.length) = true := by simpa using e3
      obtain ⟨rfl, rfl⟩ := e2
      subst e1
      clear hne e3 b1 b2
      go_enter Try.func47, Try.ntmps47
      go_wp2
      go_ret
      exact ⟨rfl, below_alloc (below_alloc (Below.refl _ _) _) _⟩
    · have b1 : (a0 == a1) = true := by simpa using e1
      have b2 : (h0 == h1 && g0 == g1) = false := by rw [Bool.eq_false_iff]; intro h; exact e2 (by simpa using h)
      subst e1
      clear hne e2 b1
      go_enter Try.func47, Try.ntmps47
      go_wp2
      go_ret
      exact ⟨rfl, below_alloc (below_alloc (Below.refl _ _) _) _⟩
  · have b1 : (a0 == a1) = false := by simpa using e1
    have b1' : (a0 != a1) = true := by simpa using e1
    clear hne e1
    go_enter Try.func47, Try.ntmps47
    go_wp2
    go_ret
    exact ⟨rfl, below_alloc (below_alloc (Below.refl _ _) _) _⟩
theorem eqV (a b : Int) (c : ByteArray) (x y : Int) (z : ByteArray) (w : World) : (Op.equalIn 10000 67 (.agg #[.int .u8 a, .int .i64 b, .string c]) (.agg #[.int .u8 x, .int .i64 y, .string z])).run Try.prog w = .ok (a == x && (b == y && (c.toList == z.toList))) w :=
  eqA_of (d := 9999) Try.underlying67 (by kernel_rfl) (eqf_cons (by rfl) (by kernel_rfl) (by kernel_rfl) (run_equalIn_int w 9998 _ .u8 _ _ _ Try.underlying5) (eqf_cons (by rfl) (by kernel_rfl) (by kernel_rfl) (run_equalIn_int w 9998 _ .i64 _ _ _ Try.underlying2) (eqf_last (by rfl) (by kernel_rfl) (by kernel_rfl) (run_equalIn_string w 9998 _ _ _ Try.underlying9))))
theorem ByteArray.toList_inj' {a b : ByteArray} (h : a.toList = b.toList) : a = b := by
  rw [ByteArray.toList_eq, ByteArray.toList_eq] at h
  exact (ValPure.toList_inj a b).1 h
set_option maxHeartbeats 1000000 in
set_option maxRecDepth 100000 in
theorem same_len (a h g : Int) (v0 : Value) (l0 : List S54) (v1 : Value) (l1 : List S54) (w : World) (r0 : RV w v0 l0) (r1 : RV w v1 l1) (hl : l0.length = l1.length) (hm : l0.length ≤ 100000) :
    Calls Try.prog 47 #[.agg #[.int .u8 a, .int .u64 h, .int .u64 g, v0], .agg #[.int .u8 a, .int .u64 h, .int .u64 g, v1]] w fun en w' => en = .returned (.bool (decide (l0 = l1))) ∧ Below w.heap.size w w' := by
  obtain ⟨A0, c0, rfl, k0, h0⟩ := r0
  obtain ⟨A1, c1, rfl, k1, h1⟩ := r1
  obtain ⟨n, hn⟩ : ∃ n, l0.length = n := ⟨_, rfl⟩
  have hn1 : l1.length = n := by omega
  rw [hn] at hm h0 ⊢
  rw [hn1] at h1 ⊢
  have HN := Lib.hid hn
  have HN1 := Lib.hid hn1
  have H0 := Lib.hid h0
  have H1 := Lib.hid h1
  have q2 : ∀ (a b : Int) (V : World), (Op.equalIn 10000 84 (.agg #[.int .u64 a, .int .u64 b]) (.agg #[.int .u64 a, .int .u64 b])).run Try.prog V = .ok true V := fun a b V => by rw [eq2]; simp
  clear hn hn1 h0 h1 hl k0 k1
  go_enter Try.func47, Try.ntmps47
  go_wp2
  go_loopw [30] (fun i wr => ∃ (j m : Nat), j ≤ n ∧ i = .int .i64 j ∧ l0.take j = l1.take j ∧ wr = ((w.alloc (.cells #[.int .u8 a, .int .u64 h, .int .u64 g, .slice A0 n c0] 86)).alloc (.cells #[.int .u8 a, .int .u64 h, .int .u64 g, .slice A1 n c1] 86)).drewN m) (fun i _ => n - (intOf i).toNat)
  case atStart => exact ⟨0, 0, by omega, rfl, by simp, rfl⟩
  case round =>
    obtain ⟨j, m, hj, rfl, ht, rfl⟩ := hrel
    have HT := Lib.hid ht
    clear ht
    by_cases hlt : j < n
    · obtain ⟨x, hx⟩ : ∃ x, l0.getD j z54 = x := ⟨_, rfl⟩
      obtain ⟨y, hy⟩ : ∃ y, l1.getD j z54 = y := ⟨_, rfl⟩
      have hb : Below w.heap.size w ((w.alloc (.cells #[.int .u8 a, .int .u64 h, .int .u64 g, .slice A0 n c0] 86)).alloc (.cells #[.int .u8 a, .int .u64 h, .int .u64 g, .slice A1 n c1] 86)) := below_alloc (below_alloc (Below.refl _ _) _) _
      obtain ⟨ad, rfl, a0, a1, a2⟩ := at_V (Kd.C_below H0.out hb) j hlt x hx
      obtain ⟨bd, rfl, b0, b1, b2⟩ := at_V (Kd.C_below H1.out hb) j hlt y hy
      have HX := Lib.hid hx
      have HY := Lib.hid hy
      clear hx hy hb
      by_cases hxy : x = y
      · subst hxy
        go_wp2
        go_quiet (fail)
        go_wp2
        go_roundw
        case rel =>
          refine ⟨j + 1, _, by omega, by simp, ?_, rfl⟩
          rw [take_snoc l0 j (by rw [HN.out]; exact hlt), take_snoc l1 j (by rw [HN1.out]; exact hlt), HT.out, HX.out, HY.out]
        case measure => simp [intOf]; omega
      · have hne : (x.f0 == y.f0 && (x.f1 == y.f1 && x.f2.toList == y.f2.toList)) = false := by
          rw [Bool.eq_false_iff]
          intro h
          simp only [Bool.and_eq_true, beq_iff_eq] at h
          exact hxy (S54_ext h.1 h.2.1 (ByteArray.toList_inj' h.2.2))
        have HXY := Lib.hid hxy
        have hq : ∀ V, (Op.equalIn 10000 67 (.agg #[.int .u8 x.f0, .int .i64 x.f1, .string x.f2]) (.agg #[.int .u8 y.f0, .int .i64 y.f1, .string y.f2])).run Try.prog V = .ok false V := fun V => by rw [eqV, hne]
        clear hxy hne
        go_wp2
        go_quiet (fail)
        go_wp2
        go_ret
        refine ⟨?_, pw_below_drewN (pw_below_drewN (below_alloc (below_alloc (Below.refl _ _) _) _) _) _⟩
        have hll : l0 ≠ l1 := fun e => HXY.out (by rw [← HX.out, ← HY.out, e])
        rw [decide_eq_false hll]
        rfl
    · obtain rfl : j = n := by omega
      go_wp2
      go_ret
      refine ⟨?_, pw_below_drewN (below_alloc (below_alloc (Below.refl _ _) _) _) _⟩
      have h1 := HT.out
      rw [← HN.out, List.take_length, HN.out, ← HN1.out, List.take_length] at h1
      rw [decide_eq_true h1]
      rfl
theorem same_calls (a0 h0 g0 : Int) (v0 : Value) (l0 : List S54) (a1 h1 g1 : Int) (v1 : Value) (l1 : List S54) (w : World) (r0 : RV w v0 l0) (r1 : RV w v1 l1) (hm : l0.length ≤ 100000) :
    Calls Try.prog 47 #[.agg #[.int .u8 a0, .int .u64 h0, .int .u64 g0, v0], .agg #[.int .u8 a1, .int .u64 h1, .int .u64 g1, v1]] w fun en w' => en = .returned (.bool (sameR a0 h0 g0 l0 a1 h1 g1 l1)) ∧ Below w.heap.size w w' := by
  by_cases h : a0 = a1 ∧ (h0 = h1 ∧ g0 = g1) ∧ l0.length = l1.length
  · obtain ⟨rfl, ⟨rfl, rfl⟩, hl⟩ := h
    have := same_len a0 h0 g0 v0 l0 v1 l1 w r0 r1 hl hm
    simpa [sameR] using this
  · have := same_false a0 h0 g0 v0 l0 a1 h1 g1 v1 l1 w r0 r1 h
    have e : sameR a0 h0 g0 l0 a1 h1 g1 l1 = false := by
      unfold sameR
      rw [Bool.eq_false_iff]
      intro e
      simp only [Bool.and_eq_true, decide_eq_true_eq] at e
      exact h ⟨e.1.1, e.1.2, by rw [e.2]⟩
    rw [e]; exact this
end Go.Proofs.Ytaoacibahdbdkaa.Rep
