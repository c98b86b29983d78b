/- reply: a reply as the document has it, as a contract. -/
import Derived.Test.YtaoacibahdbdkaaRepP
import Derived.Test.YtaoacibahdbdkaaArrEq
import Derived.Test.YtaoacibahdbdkaaFrame
import Derived.WalkSpells
import Derived.Outline
import Derived.Lib.Hide
import Derived.Handy
namespace Go.Proofs.Ytaoacibahdbdkaa.Rep
open Go.RowKit Go Go.Proofs.Ytaoacibahdbdkaa.QReplySame Go.Proofs.YtaoacibahdbdkaaW.PrintWords Go.Proofs.YtaoacibahdbdkaaW.PrintLast Go.Proofs.YtaoacibahdbdkaaW.PrintMore Go.Proofs.Ytaoacibahdbdkaa.Fra
theorem infoV : (Try.prog.info? 67).map (fun i => (i.zero, i.size, i.bytes)) = some (some (.agg #[.int .u8 0, .int .i64 0, .string (⟨#[]⟩ : ByteArray)]), 3, 32) := by kernel_rfl
/-- A slice of values that is read. -/
def RV (w : World) (v : Value) (l : List S54) : Prop := ∃ A c, v = .slice A l.length c ∧ l.length ≤ c ∧ Kd.C k54 w A l.length l
theorem RV.below {w w' : World} {v : Value} {l : List S54} (h : RV w v l) (hb : Below w.heap.size w w') : RV w' v l := let ⟨A, c, e, hc, h⟩ := h; ⟨A, c, e, hc, Kd.C_below h hb⟩
theorem at_V {w : World} {A : Option Addr} {n : Nat} {l : List S54} (h : Kd.C k54 w A n l) (i : Nat) (h1 : i < n) (x : S54) (hx : l.getD i z54 = x) :
    ∃ ad, A = some ad ∧ w.cell? (ad.add (i * 3)) = some (.int .u8 x.f0) ∧ w.cell? ⟨(ad.add (i * 3)).block, (ad.add (i * 3)).off + 1, none⟩ = some (.int .i64 x.f1) ∧ w.cell? ⟨(ad.add (i * 3)).block, (ad.add (i * 3)).off + 2, none⟩ = some (.string x.f2) := by
  obtain ⟨ad, c, e, _, hK, hc⟩ := Kd.C_get h z54 (i : Int) (by omega) (by omega)
  rw [Int.toNat_natCast] at hK hc
  rw [hx] at hK
  obtain rfl := k54_open hK
  have hc : ∀ j u, [Value.int .u8 x.f0, Value.int .i64 x.f1, Value.string x.f2][j]? = some u → w.cell? (ad.add (i * 3 + j)) = some u := hc
  exact ⟨ad, e, hc 0 _ rfl, by rw [← add_field _ _ 1 (by omega)]; exact hc 1 _ rfl, by rw [← add_field _ _ 2 (by omega)]; exact hc 2 _ rfl⟩
theorem blk_new1 (w : World) (o1 o2 : Obj) : ((w.alloc o1).alloc o2).heap[w.heap.size + 1]? = some o2 := by
  have h := blk_new (w.alloc o1) o2
  have e : (w.alloc o1).heap.size = w.heap.size + 1 := by simp
  rwa [e] at h
theorem blk_new2 (w : World) (o1 o2 o3 : Obj) : (((w.alloc o1).alloc o2).alloc o3).heap[w.heap.size + 2]? = some o3 := by
  have h := blk_new1 (w.alloc o1) o2 o3
  have e : (w.alloc o1).heap.size = w.heap.size + 1 := by simp
  rwa [e] at h
theorem take_snoc (l : List S54) (i : Nat) (h : i < l.length) : l.take (i + 1) = l.take i ++ [l.getD i z54] := by
  rw [List.take_succ_eq_append_getElem h]; simp [List.getD, h]
set_option maxHeartbeats 2000000 in
set_option maxRecDepth 100000 in
theorem plain_calls (e h g : Int) (A : Option Addr) (c : Nat) (l : List S54) (w : World) (hC : Kd.C k54 w A l.length l) (hl : l.length ≤ 100000) :
    Calls Try.prog 48 #[.agg #[.int .i64 e, .int .u64 h, .int .u64 g, .slice A l.length c]] w fun en w' => ∃ v, en = .returned (.agg #[.int .u8 (e % 256), .int .u64 h, .int .u64 g, v]) ∧ RV w' v l ∧ Below w.heap.size w w' := by
  have HC := Lib.hid hC
  clear hC
  go_enter Try.func48, Try.ntmps48
  go_wp2
  go_loopw [20] (fun i wr => ∃ (j : Nat) (v : Value), j ≤ l.length ∧ i = .int .i64 j ∧ Below w.heap.size w wr ∧ wr.heap[w.heap.size + 2]? = some (.cells #[.int .u8 (e % 256), .int .u64 h, .int .u64 g, v] 86 (0, 0)) ∧ wr.heap[w.heap.size + 1]? = some (.cells #[.int .u8 0, .int .u64 0, .int .u64 0, .slice none 0 0] 86 (0, 0)) ∧ Kd.R k54 67 wr w.heap.size (fun k => k ≠ w.heap.size + 1 ∧ k ≠ w.heap.size + 2) v (l.take j)) (fun i _ => l.length - (intOf i).toNat)
  case atStart => exact ⟨0, .slice none 0 0, by omega, rfl, (by repeat' (first | (with_reducible exact Below.refl _ _) | (with_reducible assumption) | (with_reducible refine below_alloc ?_ _) | (with_reducible refine below_drew1 ?_) | (with_reducible refine pw_below_drewN ?_ _))), blk_new2 w _ _ _, blk_alloc (blk_new1 w _ _) _, Kd.R_nil _ _ _ _ _⟩
  case round =>
    obtain ⟨j, v, hj, rfl, hB, hX, hY, hR⟩ := hrel
    have HB := Lib.hid hB
    have HX := Lib.hid hX
    have HY := Lib.hid hY
    have HR := Lib.hid hR
    have hlx : w.heap.size + 2 < wr.heap.size := blk_lt hX
    have x0 : wr.cell? ⟨w.heap.size + 2, 0, none⟩ = some (.int .u8 (e % 256)) := blk_cell hX 0
    have x1 : wr.cell? ⟨w.heap.size + 2, 1, none⟩ = some (.int .u64 h) := blk_cell hX 1
    have x2 : wr.cell? ⟨w.heap.size + 2, 2, none⟩ = some (.int .u64 g) := blk_cell hX 2
    have x3 : wr.cell? ⟨w.heap.size + 2, 3, none⟩ = some v := blk_cell hX 3
    clear hB hX hY hR
    by_cases hlt : j < l.length
    · clear x0 x1 x2 x3
      obtain ⟨x, hx⟩ : ∃ x, l.getD j z54 = x := ⟨_, rfl⟩
      obtain ⟨ad, rfl, a0, a1, a2⟩ := at_V (Kd.C_below HC.out HB.out) j hlt x hx
      have HT := Lib.hid (take_snoc l j hlt)
      have HXX := Lib.hid hx
      clear hx
      have hd2 := blk_drew (blk_alloc HX.out (.cells #[.int .u8 x.f0, .int .i64 x.f1, .string x.f2] 54))
      have hp2 := blk_drew (blk_new wr (.cells #[.int .u8 x.f0, .int .i64 x.f1, .string x.f2] 54))
      have p0 := blk_cell hp2 0
      have p1 := blk_cell hp2 1
      have p2 := blk_cell hp2 2
      have pd := blk_cell hd2 3
      have HD2 := Lib.hid hd2
      have HP2 := Lib.hid hp2
      have HB2 := Lib.hid (below_drew1 (below_alloc HB.out (.cells #[.int .u8 x.f0, .int .i64 x.f1, .string x.f2] 54)))
      have HR2 := Lib.hid (Kd.R_drew (Kd.R_alloc HR.out (.cells #[.int .u8 x.f0, .int .i64 x.f1, .string x.f2] 54)))
      clear hd2 hp2
      go_wp2
      refine start_ (n := 8) (S := fun w' => w'.cell? ⟨wr.heap.size, 0, none⟩ = some (.int .u8 x.f0) ∧ w'.cell? ⟨wr.heap.size, 1, none⟩ = some (.int .i64 x.f1) ∧ w'.cell? ⟨wr.heap.size, 2, none⟩ = some (.string x.f2) ∧ w'.cell? ⟨w.heap.size + 2, 3, none⟩ = some v) (ds := [7]) #[false, false, false, false, false, false, false, false] (by kernel_rfl) rfl rfl ⟨p0, p1, p2, pd⟩ (fun hHeld => ?_)
      refine pure_ (i := 0) (N := some 24) (v := ?_) (a' := ?_) #[true, false, false, false, false, false, false, false] rfl rfl (by kernel_rfl) (fun _ _ _ h => h) (Or.inl ⟨by rfl, ?_⟩) ?_ ?_
      rotate_left
      · intro w'
        go_simp
        with_reducible rfl
      rotate_left
      · simp only [Act.put, List.setIfInBounds_toArray, List.set_cons_zero, List.set_cons_succ, i64_w, i32_w]
        rfl
      refine take_ (i := 1) (N := some 25) (v := ?_) (a' := ?_) #[true, true, false, false, false, false, false, false] rfl rfl (by kernel_rfl) (fun _ _ _ h => h) (Or.inl ⟨by rfl, ?_⟩) hHeld ?_ ?_
      rotate_left
      · rintro w' ⟨s0, s1, s2, s3⟩
        go_simp
        with_reducible rfl
      rotate_left
      · simp only [Act.put, List.setIfInBounds_toArray, List.set_cons_zero, List.set_cons_succ, i64_w, i32_w]
        rfl
      refine take_ (i := 2) (N := some 26) (v := ?_) (a' := ?_) #[true, true, true, false, false, false, false, false] rfl rfl (by kernel_rfl) (fun _ _ _ h => h) (Or.inl ⟨by rfl, ?_⟩) hHeld ?_ ?_
      rotate_left
      · rintro w' ⟨s0, s1, s2, s3⟩
        go_simp
        with_reducible rfl
      rotate_left
      · simp only [Act.put, List.setIfInBounds_toArray, List.set_cons_zero, List.set_cons_succ, i64_w, i32_w]
        rfl
      refine one_ (i := 3) (N := some 27) #[true, true, true, true, false, false, false, false] rfl rfl (by kernel_rfl) (by decide) (fun K hK => ?_)
      refine goes_ Try.func83 (by kernel_rfl) rfl #[.agg #[.int .u8 x.f0, .int .i64 x.f1, .string x.f2]] (by rfl) rfl rfl (by simp only [List.map_toArray, List.map_cons, List.map_nil]; rfl) ?_
      with_reducible refine (easementlaw21_of.calls x.f0 x.f1 x.f2 _ _ _ _ rfl).mono ?_
      rintro e3 w3 ⟨rfl, hB3⟩
      refine ⟨_, rfl, ?_⟩
      have hd3 := blk_below HD2.out hB3
      have hp3 := blk_below HP2.out hB3
      have hR3 := Kd.R_below HR2.out hB3
      have hb3 := below_step HB2.out hB3
      refine hK.out _ _ ⟨(blk_cell hp3 0), (blk_cell hp3 1), (blk_cell hp3 2), (blk_cell hd3 3)⟩ (fun hHeld => ?_)
      clear hK K
      refine norm_ (a' := ?_) ?_ ?_
      rotate_left
      · show Act.put _ (some 27) _ = _
        simp only [Act.put, List.setIfInBounds_toArray, List.set_cons_zero, List.set_cons_succ, i64_w, i32_w]
        rfl
      refine one_ (i := 4) (N := some 28) #[true, true, true, true, true, false, false, false] rfl rfl (by kernel_rfl) (by decide) (fun K hK => ?_)
      refine value_ (w1 := ?_) (v := ?_) (by rfl) rfl ?_ ?_
      rotate_left 2
      · go_simp
        constructor
        · rfl
        · rfl
      refine hK.out _ _ ⟨(blk_cell (blk_alloc hp3 _) 0), (blk_cell (blk_alloc hp3 _) 1), (blk_cell (blk_alloc hp3 _) 2), (blk_cell (blk_alloc hd3 _) 3)⟩ (fun hHeld => ?_)
      clear hK K
      refine norm_ (a' := ?_) ?_ ?_
      rotate_left
      · show Act.put _ (some 28) _ = _
        simp only [Act.put, List.setIfInBounds_toArray, List.set_cons_zero, List.set_cons_succ, i64_w, i32_w]
        rfl
      refine one_ (i := 5) (N := some 29) #[true, true, true, true, true, true, false, false] rfl rfl (by kernel_rfl) (by decide) (fun K hK => ?_)
      refine Kd.R_append_step k54 (w0 := w) w.heap.size (by rfl) (.tmp 25) (.tmp 28) 76 67 (.agg #[.int .u8 0, .int .i64 0, .string (⟨#[]⟩ : ByteArray)]) 32 rfl Try.underlying76 infoV rfl (by decide) (by decide) v (l.take j) x [.int .u8 x.f0, .int .i64 x.f1, .string x.f2] (fun k => k ≠ w.heap.size + 1 ∧ k ≠ w.heap.size + 2) (fun _ => False) rfl rfl (k54_mkM _ _ _ x) (fun _ h => h.elim) (fun k hk => by have := hb3.size; have := hB3.size; have h2 := blk_lt hd3; omega) hR3 hb3 hb3.size (by rw [List.length_take]; omega) ?_
      intro v4 w4 hR4 hB4 hg4 _
      obtain ⟨A4, c4, rfl⟩ := Kd.R_slice hR4
      have hd4 := blk_grown hd3 hg4 (fun e => (hR3.1 _ e.symm).2 rfl)
      have hp4 := blk_grown hp3 hg4 (fun e => by have h1 := hR3.1 _ e.symm; have h2 := Kd.R_lt HR.out _ e.symm; omega)
      have hy4 := blk_grown (blk_below (blk_drew (blk_alloc HY.out _)) hB3) hg4 (fun e => (hR3.1 _ e.symm).1 rfl)
      have hd4c := blk_cell hd4 3
      have hd4f := blk_frozen hd4 3
      refine hK.out _ _ ⟨(blk_cell hp4 0), (blk_cell hp4 1), (blk_cell hp4 2), (blk_cell hd4 3)⟩ (fun hHeld => ?_)
      clear hK K
      refine norm_ (a' := ?_) ?_ ?_
      rotate_left
      · show Act.put _ (some 29) _ = _
        simp only [Act.put, List.setIfInBounds_toArray, List.set_cons_zero, List.set_cons_succ, i64_w, i32_w]
        rfl
      refine pure_ (i := 6) (N := some 30) (v := ?_) (a' := ?_) #[true, true, true, true, true, true, true, false] rfl rfl (by kernel_rfl) (fun _ _ _ h => h) (Or.inl ⟨by rfl, ?_⟩) ?_ ?_
      rotate_left
      · intro w'
        go_simp
        with_reducible rfl
      rotate_left
      · simp only [Act.put, List.setIfInBounds_toArray, List.set_cons_zero, List.set_cons_succ, i64_w, i32_w]
        rfl
      refine last_ (i := 7) (N := none) #[true, true, true, true, true, true, true, true] rfl rfl (by kernel_rfl) (by decide) (fun K hK => ?_)
      refine skip_ (w1 := ?_) (by rfl) rfl ?_ ?_
      rotate_left
      · go_simp
        rfl
      refine hK.out _ _ ?_
      clear hK K
      refine done_ (by kernel_rfl) ?_

      have HD4 := Lib.hid hd4
      have HY4 := Lib.hid hy4
      have HR4 := Lib.hid hR4
      have HB4 := Lib.hid hB4
      clear hd3 hp3 hR3 hb3 hd4 hp4 hy4 hd4c hd4f hR4 hB4 hg4 hB3
      go_wp2
      go_roundw
      case rel =>
        refine ⟨j + 1, _, by omega, by simp, Below.setCell (p := ⟨w.heap.size + 2, 3, none⟩) HB4.out (show w.heap.size ≤ w.heap.size + 2 by omega) _, blk_put HD4.out 3 _ rfl, blk_far HY4.out (by simp) _, ?_⟩
        rw [HT.out, HXX.out]
        have h5 := Kd.R_far (p := ⟨w.heap.size + 2, 3, none⟩) HR4.out (fun k hk => hk.2) (.slice A4 (j + 1) c4)
        rw [show (l.take j ++ [x]).length = j + 1 by rw [List.length_append, List.length_take, List.length_singleton]; omega] at h5
        exact h5
      case measure => simp [intOf]; omega
    · obtain rfl : j = l.length := by omega
      have y0 : wr.cell? ⟨w.heap.size + 1, 0, none⟩ = some (.int .u8 0) := blk_cell HY.out 0
      have y1 : wr.cell? ⟨w.heap.size + 1, 1, none⟩ = some (.int .u64 0) := blk_cell HY.out 1
      have y2 : wr.cell? ⟨w.heap.size + 1, 2, none⟩ = some (.int .u64 0) := blk_cell HY.out 2
      have y3 : wr.cell? ⟨w.heap.size + 1, 3, none⟩ = some (.slice none 0 0) := blk_cell HY.out 3
      have z0 := blk_frozen HY.out 0
      have z1 := blk_frozen HY.out 1
      have z2 := blk_frozen HY.out 2
      have z3 := blk_frozen HY.out 3
      have hr := HR.out
      rw [List.take_length] at hr
      obtain ⟨A5, c5, rfl, hc5, hC5⟩ := Kd.R_reads hr
      have HC5 := Lib.hid hC5
      clear hr hC5
      go_wp2
      have hr2 := HR.out
      rw [List.take_length] at hr2
      have hr3 := Kd.R_far (p := ⟨w.heap.size + 1, 3, none⟩) (Kd.R_far (p := ⟨w.heap.size + 1, 2, none⟩) (Kd.R_far (p := ⟨w.heap.size + 1, 1, none⟩) (Kd.R_far (p := ⟨w.heap.size + 1, 0, none⟩) hr2 (fun k hk => hk.1) (.int .u8 (e % 256))) (fun k hk => hk.1) (.int .u64 h)) (fun k hk => hk.1) (.int .u64 g)) (fun k hk => hk.1) (.slice A5 l.length c5)
      refine bodyPost_ret (results_cell_row rfl _ _ (w.heap.size + 1) 86 #[.int .u8 (e % 256), .int .u64 h, .int .u64 g, .slice A5 l.length c5] (0, 0) _ rfl (blk_put (blk_put (blk_put (blk_put HY.out 0 _ rfl) 1 _ rfl) 2 _ rfl) 3 _ rfl) Try.underlying86 rfl (by kernel_rfl)) rfl ?_
      exact ⟨_, rfl, ⟨A5, c5, rfl, hc5, (Kd.R_reads' hr3).2.2⟩, Below.setCell (p := ⟨w.heap.size + 1, 3, none⟩) (Below.setCell (p := ⟨w.heap.size + 1, 2, none⟩) (Below.setCell (p := ⟨w.heap.size + 1, 1, none⟩) (Below.setCell (p := ⟨w.heap.size + 1, 0, none⟩) HB.out (Nat.le_succ _) _) (Nat.le_succ _) _) (Nat.le_succ _) _) (Nat.le_succ _) _⟩
end Go.Proofs.Ytaoacibahdbdkaa.Rep
