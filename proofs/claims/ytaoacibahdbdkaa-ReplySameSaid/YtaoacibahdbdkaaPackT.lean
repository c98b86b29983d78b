/- packed.Reader.Value, as a contract. Printed by wip/tools/gen_packt.py. -/
import Derived.Test.YtaoacibahdbdkaaPackS
import Derived.Test.YtaoacibahdbdkaaQPackedPutsx2
namespace Go.Proofs.Ytaoacibahdbdkaa.Pr
open Go.RowKit Go Go.Proofs.YtaoacibahdbdkaaW.PrintWords Go.Proofs.YtaoacibahdbdkaaW.PrintMore Go.Proofs.Ytaoacibahdbdkaa.Bts Go.Proofs.Ytaoacibahdbdkaa.Pk Go.Proofs.Ytaoacibahdbdkaa.Fra Go.Proofs.Ytaoacibahdbdkaa.QPackedPuts
def rightV (k n : Int) (s : ByteArray) : Bool := (value_Value_Right.f k n s).getD false
theorem rightV_some (k n : Int) (s : ByteArray) : value_Value_Right.f k n s = some (rightV k n s) := by
  have h : ∃ r, value_Value_Right.f k n s = some r := by
    unfold value_Value_Right.f value_Truth.f
    split
    · exact ⟨_, rfl⟩
    · split
      · split <;> exact ⟨_, rfl⟩
      · split
        · exact ⟨_, rfl⟩
        · split
          · split <;> exact ⟨_, rfl⟩
          · exact ⟨_, rfl⟩
  obtain ⟨r, hr⟩ := h
  unfold rightV
  rw [hr]; rfl
/-- What a value's bytes say: its kind, number, bytes; what is left, and what is wrong. -/
def valM (xs : List Int) (f : Int) : Int × Int × ByteArray × List Int × Int :=
  let t := takeP xs f 1
  let k := numB t.1
  if k = 1 then (k, wrap64 (numB (takeP t.2.1 t.2.2 1).1), ByteArray.empty, (takeP t.2.1 t.2.2 1).2)
  else if k = 2 then (k, wrap64 (numB (takeP t.2.1 t.2.2 8).1), ByteArray.empty, (takeP t.2.1 t.2.2 8).2)
  else if k = 3 then (k, 0, strOfNums (textP t.2.1 t.2.2 4096).1, (textP t.2.1 t.2.2 4096).2)
  else (k, 0, ByteArray.empty, t.2)
def valueP (xs : List Int) (f : Int) : (Int × Int × ByteArray) × List Int × Int :=
  let m := valM xs f
  let f' := if m.2.2.2.2 = 0 ∧ rightV m.1 m.2.1 m.2.2.1 = false then 10 else m.2.2.2.2
  (if f' = 0 then (m.1, m.2.1, m.2.2.1) else (0, 0, ByteArray.empty), m.2.2.2.1, f')
set_option maxHeartbeats 4000000 in
set_option maxRecDepth 100000 in
theorem value_1_ok (B g : Nat) (xs : List Int) (f : Int) (w : World) (h : Rd w B g xs f) (hB : B ≤ w.heap.size) (hl : xs.length ≤ 140737488355328) (hbs : Bs xs) (hk : numB (takeP xs f 1).1 = 1) (ys : List Int) (f1 : Int) (hys : (takeP xs f 1).2 = (ys, f1)) (zf : List Int × Int) (hzf : (takeP ys f1 1).2 = zf) (hf2 : zf.2 = 0) (hr : rightV 1 (wrap64 (numB (takeP ys f1 1).1)) ByteArray.empty = true) :
    Calls Try.prog 34 #[.pointer (some ⟨g, 0, none⟩)] w fun e w' => e = .returned (.agg #[.int .u8 1, .int .i64 (wrap64 (numB (takeP ys f1 1).1)), .string ByteArray.empty]) ∧ Rd w' B g zf.1 0 ∧ Fr (· = g) w w' := by
  have hnum := fun o => number_calls B g xs f 1 (w.alloc o) (h.below (below_alloc (Below.refl _ _) o)) hl hbs
  rw [show sizeP 1 = 1 from rfl] at hnum
  have htb := (takeP_bs hbs f 1).2
  have htf := takeP_left xs f 1
  generalize ht : takeP xs f 1 = t at *
  obtain ⟨bs, t2⟩ := t
  simp only at hnum htb htf hk hys
  subst hys
  rw [hk] at hnum
  have NUM := fun o => Lib.hid (hnum o)
  clear hnum ht hk
  simp only at htb htf
  have hyl : ys.length ≤ 140737488355328 := by omega
  have hgw : w.heap.size ≠ g := by have := h.lt; omega
  have hvB : ∀ k, k < B → ¬ k = w.heap.size := by omega
  have HV0 := hvB
  have HRT := Lib.hid ((rightV_some 1 (wrap64 (numB (takeP ys f1 1).1)) ByteArray.empty).trans (congrArg some hr))
  clear hr
  obtain ⟨zs, f2⟩ := zf
  simp only at hf2 ⊢
  have HZ := Lib.hid hzf
  clear hzf
  subst hf2
  go_enter Try.func34, Try.ntmps34
  go_wp2_with (first
    | (go_at_call 32; refine (number_k 1 B g ys f1 1 _ rfl (hr.below (below_alloc (Below.refl _ _) _)) hyl htb).mono ?_; rintro e w2 ⟨rfl, hr2, hf2⟩; rw [HZ.out] at hr2; simp only at hr2; have hv2 := hf2.blk (blk_new w1 _) hg1; have hu2 := hf2.blk (blk_alloc hv _) hgw; have c0 := blk_cell hv2 0; have c1 := blk_cell hv2 1; have c2 := blk_cell hv2 2; have z0 := blk_frozen hv2 0; have z1 := blk_frozen hv2 1; have z2 := blk_frozen hv2 2; have d0 := blk_cell hu2 0; have d1 := blk_cell hu2 1; have d2 := blk_cell hu2 2; have y0 := blk_frozen hu2 0; have y1 := blk_frozen hu2 1; have y2 := blk_frozen hu2 2)
    | (go_at_call 32; refine (NUM _).out.mono ?_; rintro e w1 ⟨rfl, hr, hf⟩; have hv := hf.blk (blk_new w _) hgw; have hw1 : w.heap.size < w1.heap.size := blk_lt hv; have hg1 : w1.heap.size ≠ g := (by have := hr.lt; omega); have hvB1 : ∀ k, k < B → ¬ k = w1.heap.size := (by omega); have hww : ¬ (w.heap.size = w1.heap.size) := (by omega))
    | (go_at_call 75; refine (value_Value_Right.calls _ _ _ _ _ HRT.out).mono ?_; rintro e w3 ⟨rfl, hB3⟩; have hr3 := (hr2.fr (Fr.set w1.heap.size 1 (.int .i64 (wrap64 (numB (takeP ys f1 1).1)))) hvB1).below hB3; have hv3 := blk_below (blk_put hv2 1 (.int .i64 (wrap64 (numB (takeP ys f1 1).1))) rfl) hB3; have hu3 := blk_below (blk_far hu2 (p := ⟨w1.heap.size, 1, none⟩) hww (.int .i64 (wrap64 (numB (takeP ys f1 1).1)))) hB3; have c0 := blk_cell hv3 0; have c1 := blk_cell hv3 1; have c2 := blk_cell hv3 2; have z0 := blk_frozen hv3 0; have z1 := blk_frozen hv3 1; have z2 := blk_frozen hv3 2; have d0 := blk_cell hu3 0; have d1 := blk_cell hu3 1; have d2 := blk_cell hu3 2; have y0 := blk_frozen hu3 0; have y1 := blk_frozen hu3 1; have y2 := blk_frozen hu3 2; have e1 := hr3.cell1; have e2 := hr3.frozen1)
    | (go_at_call 36; refine (failed_calls B g _ _ _ (hr2.fr (Fr.set w1.heap.size 1 (.int .i64 (wrap64 (numB (takeP ys f1 1).1)))) hvB1)).mono ?_; rintro e w4 ⟨rfl, rfl⟩)
    | (go_at_call 36; refine (failed_calls B g _ _ _ hr3).mono ?_; rintro e w4 ⟨rfl, rfl⟩))
  refine bodyPost_ret (results_cell_row rfl _ _ w.heap.size 54 #[.int .u8 1, .int .i64 (wrap64 (numB (takeP ys f1 1).1)), .string ByteArray.empty] (0, 0) _ rfl (ret3 hu3 _ _ _) Try.underlying54 rfl (by kernel_rfl)) rfl ?_
  exact ⟨rfl, ((hr3.put (p := ⟨w.heap.size, 0, none⟩) HV0 _).put (p := ⟨w.heap.size, 1, none⟩) HV0 _).put (p := ⟨w.heap.size, 2, none⟩) HV0 _, ((((((((Fr.alloc (S := (· = g)) _).trans hf).new _).trans hf2).put (p := ⟨w1.heap.size, 1, none⟩) (.inr (Nat.le_of_lt hw1)) (.int .i64 (wrap64 (numB (takeP ys f1 1).1)))).more hB3).put (p := ⟨w.heap.size, 0, none⟩) (.inr (Nat.le_refl _)) _).put (p := ⟨w.heap.size, 1, none⟩) (.inr (Nat.le_refl _)) _).put (p := ⟨w.heap.size, 2, none⟩) (.inr (Nat.le_refl _)) _⟩
set_option maxHeartbeats 4000000 in
set_option maxRecDepth 100000 in
theorem value_1_form (B g : Nat) (xs : List Int) (f : Int) (w : World) (h : Rd w B g xs f) (hB : B ≤ w.heap.size) (hl : xs.length ≤ 140737488355328) (hbs : Bs xs) (hk : numB (takeP xs f 1).1 = 1) (ys : List Int) (f1 : Int) (hys : (takeP xs f 1).2 = (ys, f1)) (zf : List Int × Int) (hzf : (takeP ys f1 1).2 = zf) (hf2 : zf.2 = 0) (hr : rightV 1 (wrap64 (numB (takeP ys f1 1).1)) ByteArray.empty = false) :
    Calls Try.prog 34 #[.pointer (some ⟨g, 0, none⟩)] w fun e w' => e = .returned (.agg #[.int .u8 0, .int .i64 0, .string ByteArray.empty]) ∧ Rd w' B g zf.1 10 ∧ Fr (· = g) w w' := by
  have hnum := fun o => number_calls B g xs f 1 (w.alloc o) (h.below (below_alloc (Below.refl _ _) o)) hl hbs
  rw [show sizeP 1 = 1 from rfl] at hnum
  have htb := (takeP_bs hbs f 1).2
  have htf := takeP_left xs f 1
  generalize ht : takeP xs f 1 = t at *
  obtain ⟨bs, t2⟩ := t
  simp only at hnum htb htf hk hys
  subst hys
  rw [hk] at hnum
  have NUM := fun o => Lib.hid (hnum o)
  clear hnum ht hk
  simp only at htb htf
  have hyl : ys.length ≤ 140737488355328 := by omega
  have hgw : w.heap.size ≠ g := by have := h.lt; omega
  have hvB : ∀ k, k < B → ¬ k = w.heap.size := by omega
  have HV0 := hvB
  have HRT := Lib.hid ((rightV_some 1 (wrap64 (numB (takeP ys f1 1).1)) ByteArray.empty).trans (congrArg some hr))
  clear hr
  obtain ⟨zs, f2⟩ := zf
  simp only at hf2 ⊢
  have HZ := Lib.hid hzf
  clear hzf
  subst hf2
  go_enter Try.func34, Try.ntmps34
  go_wp2_with (first
    | (go_at_call 32; refine (number_k 1 B g ys f1 1 _ rfl (hr.below (below_alloc (Below.refl _ _) _)) hyl htb).mono ?_; rintro e w2 ⟨rfl, hr2, hf2⟩; rw [HZ.out] at hr2; simp only at hr2; have hv2 := hf2.blk (blk_new w1 _) hg1; have hu2 := hf2.blk (blk_alloc hv _) hgw; have c0 := blk_cell hv2 0; have c1 := blk_cell hv2 1; have c2 := blk_cell hv2 2; have z0 := blk_frozen hv2 0; have z1 := blk_frozen hv2 1; have z2 := blk_frozen hv2 2; have d0 := blk_cell hu2 0; have d1 := blk_cell hu2 1; have d2 := blk_cell hu2 2; have y0 := blk_frozen hu2 0; have y1 := blk_frozen hu2 1; have y2 := blk_frozen hu2 2)
    | (go_at_call 32; refine (NUM _).out.mono ?_; rintro e w1 ⟨rfl, hr, hf⟩; have hv := hf.blk (blk_new w _) hgw; have hw1 : w.heap.size < w1.heap.size := blk_lt hv; have hg1 : w1.heap.size ≠ g := (by have := hr.lt; omega); have hvB1 : ∀ k, k < B → ¬ k = w1.heap.size := (by omega); have hww : ¬ (w.heap.size = w1.heap.size) := (by omega))
    | (go_at_call 75; refine (value_Value_Right.calls _ _ _ _ _ HRT.out).mono ?_; rintro e w3 ⟨rfl, hB3⟩; have hr3 := (hr2.fr (Fr.set w1.heap.size 1 (.int .i64 (wrap64 (numB (takeP ys f1 1).1)))) hvB1).below hB3; have hv3 := blk_below (blk_put hv2 1 (.int .i64 (wrap64 (numB (takeP ys f1 1).1))) rfl) hB3; have hu3 := blk_below (blk_far hu2 (p := ⟨w1.heap.size, 1, none⟩) hww (.int .i64 (wrap64 (numB (takeP ys f1 1).1)))) hB3; have c0 := blk_cell hv3 0; have c1 := blk_cell hv3 1; have c2 := blk_cell hv3 2; have z0 := blk_frozen hv3 0; have z1 := blk_frozen hv3 1; have z2 := blk_frozen hv3 2; have d0 := blk_cell hu3 0; have d1 := blk_cell hu3 1; have d2 := blk_cell hu3 2; have y0 := blk_frozen hu3 0; have y1 := blk_frozen hu3 1; have y2 := blk_frozen hu3 2; have e1 := hr3.cell1; have e2 := hr3.frozen1)
    | (go_at_call 36; refine (failed_calls B g _ _ _ (hr2.fr (Fr.set w1.heap.size 1 (.int .i64 (wrap64 (numB (takeP ys f1 1).1)))) hvB1)).mono ?_; rintro e w4 ⟨rfl, rfl⟩)
    | (go_at_call 36; refine (failed_calls B g _ _ _ (hr3.fail 10)).mono ?_; rintro e w4 ⟨rfl, rfl⟩))
  refine bodyPost_ret (results_cell_row rfl _ _ w.heap.size 54 #[.int .u8 0, .int .i64 0, .string ByteArray.empty] (0, 0) _ rfl (ret3 (blk_far hu3 (p := ⟨g, 1, none⟩) hgw _) _ _ _) Try.underlying54 rfl (by kernel_rfl)) rfl ?_
  exact ⟨rfl, (((hr3.fail 10).put (p := ⟨w.heap.size, 0, none⟩) HV0 _).put (p := ⟨w.heap.size, 1, none⟩) HV0 _).put (p := ⟨w.heap.size, 2, none⟩) HV0 _, (((((((((Fr.alloc (S := (· = g)) _).trans hf).new _).trans hf2).put (p := ⟨w1.heap.size, 1, none⟩) (.inr (Nat.le_of_lt hw1)) (.int .i64 (wrap64 (numB (takeP ys f1 1).1)))).more hB3).put (p := ⟨g, 1, none⟩) (.inl rfl) _).put (p := ⟨w.heap.size, 0, none⟩) (.inr (Nat.le_refl _)) _).put (p := ⟨w.heap.size, 1, none⟩) (.inr (Nat.le_refl _)) _).put (p := ⟨w.heap.size, 2, none⟩) (.inr (Nat.le_refl _)) _⟩
set_option maxHeartbeats 4000000 in
set_option maxRecDepth 100000 in
theorem value_1_bad (B g : Nat) (xs : List Int) (f : Int) (w : World) (h : Rd w B g xs f) (hB : B ≤ w.heap.size) (hl : xs.length ≤ 140737488355328) (hbs : Bs xs) (hk : numB (takeP xs f 1).1 = 1) (ys : List Int) (f1 : Int) (hys : (takeP xs f 1).2 = (ys, f1)) (zf : List Int × Int) (hzf : (takeP ys f1 1).2 = zf) (hf2 : zf.2 ≠ 0) :
    Calls Try.prog 34 #[.pointer (some ⟨g, 0, none⟩)] w fun e w' => e = .returned (.agg #[.int .u8 0, .int .i64 0, .string ByteArray.empty]) ∧ Rd w' B g zf.1 zf.2 ∧ Fr (· = g) w w' := by
  have hnum := fun o => number_calls B g xs f 1 (w.alloc o) (h.below (below_alloc (Below.refl _ _) o)) hl hbs
  rw [show sizeP 1 = 1 from rfl] at hnum
  have htb := (takeP_bs hbs f 1).2
  have htf := takeP_left xs f 1
  generalize ht : takeP xs f 1 = t at *
  obtain ⟨bs, t2⟩ := t
  simp only at hnum htb htf hk hys
  subst hys
  rw [hk] at hnum
  have NUM := fun o => Lib.hid (hnum o)
  clear hnum ht hk
  simp only at htb htf
  have hyl : ys.length ≤ 140737488355328 := by omega
  have hgw : w.heap.size ≠ g := by have := h.lt; omega
  have hvB : ∀ k, k < B → ¬ k = w.heap.size := by omega
  have HV0 := hvB
  obtain ⟨zs, f2⟩ := zf
  simp only at hf2 ⊢
  have HZ := Lib.hid hzf
  clear hzf
  have bf : (f2 == 0) = false := by rw [beq_eq_false_iff_ne]; exact hf2
  go_enter Try.func34, Try.ntmps34
  go_wp2_with (first
    | (go_at_call 32; refine (number_k 1 B g ys f1 1 _ rfl (hr.below (below_alloc (Below.refl _ _) _)) hyl htb).mono ?_; rintro e w2 ⟨rfl, hr2, hf2⟩; rw [HZ.out] at hr2; simp only at hr2; have hv2 := hf2.blk (blk_new w1 _) hg1; have hu2 := hf2.blk (blk_alloc hv _) hgw; have c0 := blk_cell hv2 0; have c1 := blk_cell hv2 1; have c2 := blk_cell hv2 2; have z0 := blk_frozen hv2 0; have z1 := blk_frozen hv2 1; have z2 := blk_frozen hv2 2; have d0 := blk_cell hu2 0; have d1 := blk_cell hu2 1; have d2 := blk_cell hu2 2; have y0 := blk_frozen hu2 0; have y1 := blk_frozen hu2 1; have y2 := blk_frozen hu2 2)
    | (go_at_call 32; refine (NUM _).out.mono ?_; rintro e w1 ⟨rfl, hr, hf⟩; have hv := hf.blk (blk_new w _) hgw; have hw1 : w.heap.size < w1.heap.size := blk_lt hv; have hg1 : w1.heap.size ≠ g := (by have := hr.lt; omega); have hvB1 : ∀ k, k < B → ¬ k = w1.heap.size := (by omega); have hww : ¬ (w.heap.size = w1.heap.size) := (by omega))
    | (go_at_call 36; refine (failed_calls B g _ _ _ (hr2.fr (Fr.set w1.heap.size 1 (.int .i64 (wrap64 (numB (takeP ys f1 1).1)))) hvB1)).mono ?_; rintro e w4 ⟨rfl, rfl⟩))
  refine bodyPost_ret (results_cell_row rfl _ _ w.heap.size 54 #[.int .u8 0, .int .i64 0, .string ByteArray.empty] (0, 0) _ rfl (ret3 (blk_far hu2 (p := ⟨w1.heap.size, 1, none⟩) hww (.int .i64 (wrap64 (numB (takeP ys f1 1).1)))) _ _ _) Try.underlying54 rfl (by kernel_rfl)) rfl ?_
  exact ⟨rfl, (((hr2.fr (Fr.set w1.heap.size 1 (.int .i64 (wrap64 (numB (takeP ys f1 1).1)))) hvB1).put (p := ⟨w.heap.size, 0, none⟩) HV0 _).put (p := ⟨w.heap.size, 1, none⟩) HV0 _).put (p := ⟨w.heap.size, 2, none⟩) HV0 _, (((((((Fr.alloc (S := (· = g)) _).trans hf).new _).trans hf2).put (p := ⟨w1.heap.size, 1, none⟩) (.inr (Nat.le_of_lt hw1)) (.int .i64 (wrap64 (numB (takeP ys f1 1).1)))).put (p := ⟨w.heap.size, 0, none⟩) (.inr (Nat.le_refl _)) _).put (p := ⟨w.heap.size, 1, none⟩) (.inr (Nat.le_refl _)) _).put (p := ⟨w.heap.size, 2, none⟩) (.inr (Nat.le_refl _)) _⟩
set_option maxHeartbeats 4000000 in
set_option maxRecDepth 100000 in
theorem value_2_ok (B g : Nat) (xs : List Int) (f : Int) (w : World) (h : Rd w B g xs f) (hB : B ≤ w.heap.size) (hl : xs.length ≤ 140737488355328) (hbs : Bs xs) (hk : numB (takeP xs f 1).1 = 2) (ys : List Int) (f1 : Int) (hys : (takeP xs f 1).2 = (ys, f1)) (zf : List Int × Int) (hzf : (takeP ys f1 8).2 = zf) (hf2 : zf.2 = 0) (hr : rightV 2 (wrap64 (numB (takeP ys f1 8).1)) ByteArray.empty = true) :
    Calls Try.prog 34 #[.pointer (some ⟨g, 0, none⟩)] w fun e w' => e = .returned (.agg #[.int .u8 2, .int .i64 (wrap64 (numB (takeP ys f1 8).1)), .string ByteArray.empty]) ∧ Rd w' B g zf.1 0 ∧ Fr (· = g) w w' := by
  have hnum := fun o => number_calls B g xs f 1 (w.alloc o) (h.below (below_alloc (Below.refl _ _) o)) hl hbs
  rw [show sizeP 1 = 1 from rfl] at hnum
  have htb := (takeP_bs hbs f 1).2
  have htf := takeP_left xs f 1
  generalize ht : takeP xs f 1 = t at *
  obtain ⟨bs, t2⟩ := t
  simp only at hnum htb htf hk hys
  subst hys
  rw [hk] at hnum
  have NUM := fun o => Lib.hid (hnum o)
  clear hnum ht hk
  simp only at htb htf
  have hyl : ys.length ≤ 140737488355328 := by omega
  have hgw : w.heap.size ≠ g := by have := h.lt; omega
  have hvB : ∀ k, k < B → ¬ k = w.heap.size := by omega
  have HV0 := hvB
  have HRT := Lib.hid ((rightV_some 2 (wrap64 (numB (takeP ys f1 8).1)) ByteArray.empty).trans (congrArg some hr))
  clear hr
  obtain ⟨zs, f2⟩ := zf
  simp only at hf2 ⊢
  have HZ := Lib.hid hzf
  clear hzf
  subst hf2
  go_enter Try.func34, Try.ntmps34
  go_wp2_with (first
    | (go_at_call 32; refine (number_k 8 B g ys f1 8 _ rfl (hr.below (below_alloc (Below.refl _ _) _)) hyl htb).mono ?_; rintro e w2 ⟨rfl, hr2, hf2⟩; rw [HZ.out] at hr2; simp only at hr2; have hv2 := hf2.blk (blk_new w1 _) hg1; have hu2 := hf2.blk (blk_alloc hv _) hgw; have c0 := blk_cell hv2 0; have c1 := blk_cell hv2 1; have c2 := blk_cell hv2 2; have z0 := blk_frozen hv2 0; have z1 := blk_frozen hv2 1; have z2 := blk_frozen hv2 2; have d0 := blk_cell hu2 0; have d1 := blk_cell hu2 1; have d2 := blk_cell hu2 2; have y0 := blk_frozen hu2 0; have y1 := blk_frozen hu2 1; have y2 := blk_frozen hu2 2)
    | (go_at_call 32; refine (NUM _).out.mono ?_; rintro e w1 ⟨rfl, hr, hf⟩; have hv := hf.blk (blk_new w _) hgw; have hw1 : w.heap.size < w1.heap.size := blk_lt hv; have hg1 : w1.heap.size ≠ g := (by have := hr.lt; omega); have hvB1 : ∀ k, k < B → ¬ k = w1.heap.size := (by omega); have hww : ¬ (w.heap.size = w1.heap.size) := (by omega))
    | (go_at_call 75; refine (value_Value_Right.calls _ _ _ _ _ HRT.out).mono ?_; rintro e w3 ⟨rfl, hB3⟩; have hr3 := (hr2.fr (Fr.set w1.heap.size 1 (.int .i64 (wrap64 (numB (takeP ys f1 8).1)))) hvB1).below hB3; have hv3 := blk_below (blk_put hv2 1 (.int .i64 (wrap64 (numB (takeP ys f1 8).1))) rfl) hB3; have hu3 := blk_below (blk_far hu2 (p := ⟨w1.heap.size, 1, none⟩) hww (.int .i64 (wrap64 (numB (takeP ys f1 8).1)))) hB3; have c0 := blk_cell hv3 0; have c1 := blk_cell hv3 1; have c2 := blk_cell hv3 2; have z0 := blk_frozen hv3 0; have z1 := blk_frozen hv3 1; have z2 := blk_frozen hv3 2; have d0 := blk_cell hu3 0; have d1 := blk_cell hu3 1; have d2 := blk_cell hu3 2; have y0 := blk_frozen hu3 0; have y1 := blk_frozen hu3 1; have y2 := blk_frozen hu3 2; have e1 := hr3.cell1; have e2 := hr3.frozen1)
    | (go_at_call 36; refine (failed_calls B g _ _ _ (hr2.fr (Fr.set w1.heap.size 1 (.int .i64 (wrap64 (numB (takeP ys f1 8).1)))) hvB1)).mono ?_; rintro e w4 ⟨rfl, rfl⟩)
    | (go_at_call 36; refine (failed_calls B g _ _ _ hr3).mono ?_; rintro e w4 ⟨rfl, rfl⟩))
  refine bodyPost_ret (results_cell_row rfl _ _ w.heap.size 54 #[.int .u8 2, .int .i64 (wrap64 (numB (takeP ys f1 8).1)), .string ByteArray.empty] (0, 0) _ rfl (ret3 hu3 _ _ _) Try.underlying54 rfl (by kernel_rfl)) rfl ?_
  exact ⟨rfl, ((hr3.put (p := ⟨w.heap.size, 0, none⟩) HV0 _).put (p := ⟨w.heap.size, 1, none⟩) HV0 _).put (p := ⟨w.heap.size, 2, none⟩) HV0 _, ((((((((Fr.alloc (S := (· = g)) _).trans hf).new _).trans hf2).put (p := ⟨w1.heap.size, 1, none⟩) (.inr (Nat.le_of_lt hw1)) (.int .i64 (wrap64 (numB (takeP ys f1 8).1)))).more hB3).put (p := ⟨w.heap.size, 0, none⟩) (.inr (Nat.le_refl _)) _).put (p := ⟨w.heap.size, 1, none⟩) (.inr (Nat.le_refl _)) _).put (p := ⟨w.heap.size, 2, none⟩) (.inr (Nat.le_refl _)) _⟩
set_option maxHeartbeats 4000000 in
set_option maxRecDepth 100000 in
theorem value_2_form (B g : Nat) (xs : List Int) (f : Int) (w : World) (h : Rd w B g xs f) (hB : B ≤ w.heap.size) (hl : xs.length ≤ 140737488355328) (hbs : Bs xs) (hk : numB (takeP xs f 1).1 = 2) (ys : List Int) (f1 : Int) (hys : (takeP xs f 1).2 = (ys, f1)) (zf : List Int × Int) (hzf : (takeP ys f1 8).2 = zf) (hf2 : zf.2 = 0) (hr : rightV 2 (wrap64 (numB (takeP ys f1 8).1)) ByteArray.empty = false) :
    Calls Try.prog 34 #[.pointer (some ⟨g, 0, none⟩)] w fun e w' => e = .returned (.agg #[.int .u8 0, .int .i64 0, .string ByteArray.empty]) ∧ Rd w' B g zf.1 10 ∧ Fr (· = g) w w' := by
  have hnum := fun o => number_calls B g xs f 1 (w.alloc o) (h.below (below_alloc (Below.refl _ _) o)) hl hbs
  rw [show sizeP 1 = 1 from rfl] at hnum
  have htb := (takeP_bs hbs f 1).2
  have htf := takeP_left xs f 1
  generalize ht : takeP xs f 1 = t at *
  obtain ⟨bs, t2⟩ := t
  simp only at hnum htb htf hk hys
  subst hys
  rw [hk] at hnum
  have NUM := fun o => Lib.hid (hnum o)
  clear hnum ht hk
  simp only at htb htf
  have hyl : ys.length ≤ 140737488355328 := by omega
  have hgw : w.heap.size ≠ g := by have := h.lt; omega
  have hvB : ∀ k, k < B → ¬ k = w.heap.size := by omega
  have HV0 := hvB
  have HRT := Lib.hid ((rightV_some 2 (wrap64 (numB (takeP ys f1 8).1)) ByteArray.empty).trans (congrArg some hr))
  clear hr
  obtain ⟨zs, f2⟩ := zf
  simp only at hf2 ⊢
  have HZ := Lib.hid hzf
  clear hzf
  subst hf2
  go_enter Try.func34, Try.ntmps34
  go_wp2_with (first
    | (go_at_call 32; refine (number_k 8 B g ys f1 8 _ rfl (hr.below (below_alloc (Below.refl _ _) _)) hyl htb).mono ?_; rintro e w2 ⟨rfl, hr2, hf2⟩; rw [HZ.out] at hr2; simp only at hr2; have hv2 := hf2.blk (blk_new w1 _) hg1; have hu2 := hf2.blk (blk_alloc hv _) hgw; have c0 := blk_cell hv2 0; have c1 := blk_cell hv2 1; have c2 := blk_cell hv2 2; have z0 := blk_frozen hv2 0; have z1 := blk_frozen hv2 1; have z2 := blk_frozen hv2 2; have d0 := blk_cell hu2 0; have d1 := blk_cell hu2 1; have d2 := blk_cell hu2 2; have y0 := blk_frozen hu2 0; have y1 := blk_frozen hu2 1; have y2 := blk_frozen hu2 2)
    | (go_at_call 32; refine (NUM _).out.mono ?_; rintro e w1 ⟨rfl, hr, hf⟩; have hv := hf.blk (blk_new w _) hgw; have hw1 : w.heap.size < w1.heap.size := blk_lt hv; have hg1 : w1.heap.size ≠ g := (by have := hr.lt; omega); have hvB1 : ∀ k, k < B → ¬ k = w1.heap.size := (by omega); have hww : ¬ (w.heap.size = w1.heap.size) := (by omega))
    | (go_at_call 75; refine (value_Value_Right.calls _ _ _ _ _ HRT.out).mono ?_; rintro e w3 ⟨rfl, hB3⟩; have hr3 := (hr2.fr (Fr.set w1.heap.size 1 (.int .i64 (wrap64 (numB (takeP ys f1 8).1)))) hvB1).below hB3; have hv3 := blk_below (blk_put hv2 1 (.int .i64 (wrap64 (numB (takeP ys f1 8).1))) rfl) hB3; have hu3 := blk_below (blk_far hu2 (p := ⟨w1.heap.size, 1, none⟩) hww (.int .i64 (wrap64 (numB (takeP ys f1 8).1)))) hB3; have c0 := blk_cell hv3 0; have c1 := blk_cell hv3 1; have c2 := blk_cell hv3 2; have z0 := blk_frozen hv3 0; have z1 := blk_frozen hv3 1; have z2 := blk_frozen hv3 2; have d0 := blk_cell hu3 0; have d1 := blk_cell hu3 1; have d2 := blk_cell hu3 2; have y0 := blk_frozen hu3 0; have y1 := blk_frozen hu3 1; have y2 := blk_frozen hu3 2; have e1 := hr3.cell1; have e2 := hr3.frozen1)
    | (go_at_call 36; refine (failed_calls B g _ _ _ (hr2.fr (Fr.set w1.heap.size 1 (.int .i64 (wrap64 (numB (takeP ys f1 8).1)))) hvB1)).mono ?_; rintro e w4 ⟨rfl, rfl⟩)
    | (go_at_call 36; refine (failed_calls B g _ _ _ (hr3.fail 10)).mono ?_; rintro e w4 ⟨rfl, rfl⟩))
  refine bodyPost_ret (results_cell_row rfl _ _ w.heap.size 54 #[.int .u8 0, .int .i64 0, .string ByteArray.empty] (0, 0) _ rfl (ret3 (blk_far hu3 (p := ⟨g, 1, none⟩) hgw _) _ _ _) Try.underlying54 rfl (by kernel_rfl)) rfl ?_
  exact ⟨rfl, (((hr3.fail 10).put (p := ⟨w.heap.size, 0, none⟩) HV0 _).put (p := ⟨w.heap.size, 1, none⟩) HV0 _).put (p := ⟨w.heap.size, 2, none⟩) HV0 _, (((((((((Fr.alloc (S := (· = g)) _).trans hf).new _).trans hf2).put (p := ⟨w1.heap.size, 1, none⟩) (.inr (Nat.le_of_lt hw1)) (.int .i64 (wrap64 (numB (takeP ys f1 8).1)))).more hB3).put (p := ⟨g, 1, none⟩) (.inl rfl) _).put (p := ⟨w.heap.size, 0, none⟩) (.inr (Nat.le_refl _)) _).put (p := ⟨w.heap.size, 1, none⟩) (.inr (Nat.le_refl _)) _).put (p := ⟨w.heap.size, 2, none⟩) (.inr (Nat.le_refl _)) _⟩
set_option maxHeartbeats 4000000 in
set_option maxRecDepth 100000 in
theorem value_2_bad (B g : Nat) (xs : List Int) (f : Int) (w : World) (h : Rd w B g xs f) (hB : B ≤ w.heap.size) (hl : xs.length ≤ 140737488355328) (hbs : Bs xs) (hk : numB (takeP xs f 1).1 = 2) (ys : List Int) (f1 : Int) (hys : (takeP xs f 1).2 = (ys, f1)) (zf : List Int × Int) (hzf : (takeP ys f1 8).2 = zf) (hf2 : zf.2 ≠ 0) :
    Calls Try.prog 34 #[.pointer (some ⟨g, 0, none⟩)] w fun e w' => e = .returned (.agg #[.int .u8 0, .int .i64 0, .string ByteArray.empty]) ∧ Rd w' B g zf.1 zf.2 ∧ Fr (· = g) w w' := by
  have hnum := fun o => number_calls B g xs f 1 (w.alloc o) (h.below (below_alloc (Below.refl _ _) o)) hl hbs
  rw [show sizeP 1 = 1 from rfl] at hnum
  have htb := (takeP_bs hbs f 1).2
  have htf := takeP_left xs f 1
  generalize ht : takeP xs f 1 = t at *
  obtain ⟨bs, t2⟩ := t
  simp only at hnum htb htf hk hys
  subst hys
  rw [hk] at hnum
  have NUM := fun o => Lib.hid (hnum o)
  clear hnum ht hk
  simp only at htb htf
  have hyl : ys.length ≤ 140737488355328 := by omega
  have hgw : w.heap.size ≠ g := by have := h.lt; omega
  have hvB : ∀ k, k < B → ¬ k = w.heap.size := by omega
  have HV0 := hvB
  obtain ⟨zs, f2⟩ := zf
  simp only at hf2 ⊢
  have HZ := Lib.hid hzf
  clear hzf
  have bf : (f2 == 0) = false := by rw [beq_eq_false_iff_ne]; exact hf2
  go_enter Try.func34, Try.ntmps34
  go_wp2_with (first
    | (go_at_call 32; refine (number_k 8 B g ys f1 8 _ rfl (hr.below (below_alloc (Below.refl _ _) _)) hyl htb).mono ?_; rintro e w2 ⟨rfl, hr2, hf2⟩; rw [HZ.out] at hr2; simp only at hr2; have hv2 := hf2.blk (blk_new w1 _) hg1; have hu2 := hf2.blk (blk_alloc hv _) hgw; have c0 := blk_cell hv2 0; have c1 := blk_cell hv2 1; have c2 := blk_cell hv2 2; have z0 := blk_frozen hv2 0; have z1 := blk_frozen hv2 1; have z2 := blk_frozen hv2 2; have d0 := blk_cell hu2 0; have d1 := blk_cell hu2 1; have d2 := blk_cell hu2 2; have y0 := blk_frozen hu2 0; have y1 := blk_frozen hu2 1; have y2 := blk_frozen hu2 2)
    | (go_at_call 32; refine (NUM _).out.mono ?_; rintro e w1 ⟨rfl, hr, hf⟩; have hv := hf.blk (blk_new w _) hgw; have hw1 : w.heap.size < w1.heap.size := blk_lt hv; have hg1 : w1.heap.size ≠ g := (by have := hr.lt; omega); have hvB1 : ∀ k, k < B → ¬ k = w1.heap.size := (by omega); have hww : ¬ (w.heap.size = w1.heap.size) := (by omega))
    | (go_at_call 36; refine (failed_calls B g _ _ _ (hr2.fr (Fr.set w1.heap.size 1 (.int .i64 (wrap64 (numB (takeP ys f1 8).1)))) hvB1)).mono ?_; rintro e w4 ⟨rfl, rfl⟩))
  refine bodyPost_ret (results_cell_row rfl _ _ w.heap.size 54 #[.int .u8 0, .int .i64 0, .string ByteArray.empty] (0, 0) _ rfl (ret3 (blk_far hu2 (p := ⟨w1.heap.size, 1, none⟩) hww (.int .i64 (wrap64 (numB (takeP ys f1 8).1)))) _ _ _) Try.underlying54 rfl (by kernel_rfl)) rfl ?_
  exact ⟨rfl, (((hr2.fr (Fr.set w1.heap.size 1 (.int .i64 (wrap64 (numB (takeP ys f1 8).1)))) hvB1).put (p := ⟨w.heap.size, 0, none⟩) HV0 _).put (p := ⟨w.heap.size, 1, none⟩) HV0 _).put (p := ⟨w.heap.size, 2, none⟩) HV0 _, (((((((Fr.alloc (S := (· = g)) _).trans hf).new _).trans hf2).put (p := ⟨w1.heap.size, 1, none⟩) (.inr (Nat.le_of_lt hw1)) (.int .i64 (wrap64 (numB (takeP ys f1 8).1)))).put (p := ⟨w.heap.size, 0, none⟩) (.inr (Nat.le_refl _)) _).put (p := ⟨w.heap.size, 1, none⟩) (.inr (Nat.le_refl _)) _).put (p := ⟨w.heap.size, 2, none⟩) (.inr (Nat.le_refl _)) _⟩
set_option maxHeartbeats 4000000 in
set_option maxRecDepth 100000 in
theorem value_3_ok (B g : Nat) (xs : List Int) (f : Int) (w : World) (h : Rd w B g xs f) (hB : B ≤ w.heap.size) (hl : xs.length ≤ 140737488355328) (hbs : Bs xs) (hk : numB (takeP xs f 1).1 = 3) (ys : List Int) (f1 : Int) (hys : (takeP xs f 1).2 = (ys, f1)) (zf : List Int × Int) (hzf : (textP ys f1 4096).2 = zf) (hf2 : zf.2 = 0) (hr : rightV 3 0 (strOfNums (textP ys f1 4096).1) = true) :
    Calls Try.prog 34 #[.pointer (some ⟨g, 0, none⟩)] w fun e w' => e = .returned (.agg #[.int .u8 3, .int .i64 0, .string (strOfNums (textP ys f1 4096).1)]) ∧ Rd w' B g zf.1 0 ∧ Fr (· = g) w w' := by
  have hnum := fun o => number_calls B g xs f 1 (w.alloc o) (h.below (below_alloc (Below.refl _ _) o)) hl hbs
  rw [show sizeP 1 = 1 from rfl] at hnum
  have htb := (takeP_bs hbs f 1).2
  have htf := takeP_left xs f 1
  generalize ht : takeP xs f 1 = t at *
  obtain ⟨bs, t2⟩ := t
  simp only at hnum htb htf hk hys
  subst hys
  rw [hk] at hnum
  have NUM := fun o => Lib.hid (hnum o)
  clear hnum ht hk
  simp only at htb htf
  have hyl : ys.length ≤ 140737488355328 := by omega
  have hgw : w.heap.size ≠ g := by have := h.lt; omega
  have hvB : ∀ k, k < B → ¬ k = w.heap.size := by omega
  have HV0 := hvB
  have HRT := Lib.hid ((rightV_some 3 0 (strOfNums (textP ys f1 4096).1)).trans (congrArg some hr))
  clear hr
  obtain ⟨zs, f2⟩ := zf
  simp only at hf2 ⊢
  have HZ := Lib.hid hzf
  clear hzf
  subst hf2
  go_enter Try.func34, Try.ntmps34
  go_wp2_with (first
    | (go_at_call 33; refine (text_calls B g ys f1 4096 _ (hr.below (below_alloc (Below.refl _ _) _)) hyl htb).mono ?_; rintro e w2 ⟨rfl, hr2, hf2⟩; rw [HZ.out] at hr2; simp only at hr2; have hv2 := hf2.blk (blk_new w1 _) hg1; have hu2 := hf2.blk (blk_alloc hv _) hgw; have c0 := blk_cell hv2 0; have c1 := blk_cell hv2 1; have c2 := blk_cell hv2 2; have z0 := blk_frozen hv2 0; have z1 := blk_frozen hv2 1; have z2 := blk_frozen hv2 2; have d0 := blk_cell hu2 0; have d1 := blk_cell hu2 1; have d2 := blk_cell hu2 2; have y0 := blk_frozen hu2 0; have y1 := blk_frozen hu2 1; have y2 := blk_frozen hu2 2)
    | (go_at_call 32; refine (NUM _).out.mono ?_; rintro e w1 ⟨rfl, hr, hf⟩; have hv := hf.blk (blk_new w _) hgw; have hw1 : w.heap.size < w1.heap.size := blk_lt hv; have hg1 : w1.heap.size ≠ g := (by have := hr.lt; omega); have hvB1 : ∀ k, k < B → ¬ k = w1.heap.size := (by omega); have hww : ¬ (w.heap.size = w1.heap.size) := (by omega))
    | (go_at_call 75; refine (value_Value_Right.calls _ _ _ _ _ HRT.out).mono ?_; rintro e w3 ⟨rfl, hB3⟩; have hr3 := (hr2.fr (Fr.set w1.heap.size 2 (.string (strOfNums (textP ys f1 4096).1))) hvB1).below hB3; have hv3 := blk_below (blk_put hv2 2 (.string (strOfNums (textP ys f1 4096).1)) rfl) hB3; have hu3 := blk_below (blk_far hu2 (p := ⟨w1.heap.size, 2, none⟩) hww (.string (strOfNums (textP ys f1 4096).1))) hB3; have c0 := blk_cell hv3 0; have c1 := blk_cell hv3 1; have c2 := blk_cell hv3 2; have z0 := blk_frozen hv3 0; have z1 := blk_frozen hv3 1; have z2 := blk_frozen hv3 2; have d0 := blk_cell hu3 0; have d1 := blk_cell hu3 1; have d2 := blk_cell hu3 2; have y0 := blk_frozen hu3 0; have y1 := blk_frozen hu3 1; have y2 := blk_frozen hu3 2; have e1 := hr3.cell1; have e2 := hr3.frozen1)
    | (go_at_call 36; refine (failed_calls B g _ _ _ (hr2.fr (Fr.set w1.heap.size 2 (.string (strOfNums (textP ys f1 4096).1))) hvB1)).mono ?_; rintro e w4 ⟨rfl, rfl⟩)
    | (go_at_call 36; refine (failed_calls B g _ _ _ hr3).mono ?_; rintro e w4 ⟨rfl, rfl⟩))
  refine bodyPost_ret (results_cell_row rfl _ _ w.heap.size 54 #[.int .u8 3, .int .i64 0, .string (strOfNums (textP ys f1 4096).1)] (0, 0) _ rfl (ret3 hu3 _ _ _) Try.underlying54 rfl (by kernel_rfl)) rfl ?_
  exact ⟨rfl, ((hr3.put (p := ⟨w.heap.size, 0, none⟩) HV0 _).put (p := ⟨w.heap.size, 1, none⟩) HV0 _).put (p := ⟨w.heap.size, 2, none⟩) HV0 _, ((((((((Fr.alloc (S := (· = g)) _).trans hf).new _).trans hf2).put (p := ⟨w1.heap.size, 2, none⟩) (.inr (Nat.le_of_lt hw1)) (.string (strOfNums (textP ys f1 4096).1))).more hB3).put (p := ⟨w.heap.size, 0, none⟩) (.inr (Nat.le_refl _)) _).put (p := ⟨w.heap.size, 1, none⟩) (.inr (Nat.le_refl _)) _).put (p := ⟨w.heap.size, 2, none⟩) (.inr (Nat.le_refl _)) _⟩
set_option maxHeartbeats 4000000 in
set_option maxRecDepth 100000 in
theorem value_3_form (B g : Nat) (xs : List Int) (f : Int) (w : World) (h : Rd w B g xs f) (hB : B ≤ w.heap.size) (hl : xs.length ≤ 140737488355328) (hbs : Bs xs) (hk : numB (takeP xs f 1).1 = 3) (ys : List Int) (f1 : Int) (hys : (takeP xs f 1).2 = (ys, f1)) (zf : List Int × Int) (hzf : (textP ys f1 4096).2 = zf) (hf2 : zf.2 = 0) (hr : rightV 3 0 (strOfNums (textP ys f1 4096).1) = false) :
    Calls Try.prog 34 #[.pointer (some ⟨g, 0, none⟩)] w fun e w' => e = .returned (.agg #[.int .u8 0, .int .i64 0, .string ByteArray.empty]) ∧ Rd w' B g zf.1 10 ∧ Fr (· = g) w w' := by
  have hnum := fun o => number_calls B g xs f 1 (w.alloc o) (h.below (below_alloc (Below.refl _ _) o)) hl hbs
  rw [show sizeP 1 = 1 from rfl] at hnum
  have htb := (takeP_bs hbs f 1).2
  have htf := takeP_left xs f 1
  generalize ht : takeP xs f 1 = t at *
  obtain ⟨bs, t2⟩ := t
  simp only at hnum htb htf hk hys
  subst hys
  rw [hk] at hnum
  have NUM := fun o => Lib.hid (hnum o)
  clear hnum ht hk
  simp only at htb htf
  have hyl : ys.length ≤ 140737488355328 := by omega
  have hgw : w.heap.size ≠ g := by have := h.lt; omega
  have hvB : ∀ k, k < B → ¬ k = w.heap.size := by omega
  have HV0 := hvB
  have HRT := Lib.hid ((rightV_some 3 0 (strOfNums (textP ys f1 4096).1)).trans (congrArg some hr))
  clear hr
  obtain ⟨zs, f2⟩ := zf
  simp only at hf2 ⊢
  have HZ := Lib.hid hzf
  clear hzf
  subst hf2
  go_enter Try.func34, Try.ntmps34
  go_wp2_with (first
    | (go_at_call 33; refine (text_calls B g ys f1 4096 _ (hr.below (below_alloc (Below.refl _ _) _)) hyl htb).mono ?_; rintro e w2 ⟨rfl, hr2, hf2⟩; rw [HZ.out] at hr2; simp only at hr2; have hv2 := hf2.blk (blk_new w1 _) hg1; have hu2 := hf2.blk (blk_alloc hv _) hgw; have c0 := blk_cell hv2 0; have c1 := blk_cell hv2 1; have c2 := blk_cell hv2 2; have z0 := blk_frozen hv2 0; have z1 := blk_frozen hv2 1; have z2 := blk_frozen hv2 2; have d0 := blk_cell hu2 0; have d1 := blk_cell hu2 1; have d2 := blk_cell hu2 2; have y0 := blk_frozen hu2 0; have y1 := blk_frozen hu2 1; have y2 := blk_frozen hu2 2)
    | (go_at_call 32; refine (NUM _).out.mono ?_; rintro e w1 ⟨rfl, hr, hf⟩; have hv := hf.blk (blk_new w _) hgw; have hw1 : w.heap.size < w1.heap.size := blk_lt hv; have hg1 : w1.heap.size ≠ g := (by have := hr.lt; omega); have hvB1 : ∀ k, k < B → ¬ k = w1.heap.size := (by omega); have hww : ¬ (w.heap.size = w1.heap.size) := (by omega))
    | (go_at_call 75; refine (value_Value_Right.calls _ _ _ _ _ HRT.out).mono ?_; rintro e w3 ⟨rfl, hB3⟩; have hr3 := (hr2.fr (Fr.set w1.heap.size 2 (.string (strOfNums (textP ys f1 4096).1))) hvB1).below hB3; have hv3 := blk_below (blk_put hv2 2 (.string (strOfNums (textP ys f1 4096).1)) rfl) hB3; have hu3 := blk_below (blk_far hu2 (p := ⟨w1.heap.size, 2, none⟩) hww (.string (strOfNums (textP ys f1 4096).1))) hB3; have c0 := blk_cell hv3 0; have c1 := blk_cell hv3 1; have c2 := blk_cell hv3 2; have z0 := blk_frozen hv3 0; have z1 := blk_frozen hv3 1; have z2 := blk_frozen hv3 2; have d0 := blk_cell hu3 0; have d1 := blk_cell hu3 1; have d2 := blk_cell hu3 2; have y0 := blk_frozen hu3 0; have y1 := blk_frozen hu3 1; have y2 := blk_frozen hu3 2; have e1 := hr3.cell1; have e2 := hr3.frozen1)
    | (go_at_call 36; refine (failed_calls B g _ _ _ (hr2.fr (Fr.set w1.heap.size 2 (.string (strOfNums (textP ys f1 4096).1))) hvB1)).mono ?_; rintro e w4 ⟨rfl, rfl⟩)
    | (go_at_call 36; refine (failed_calls B g _ _ _ (hr3.fail 10)).mono ?_; rintro e w4 ⟨rfl, rfl⟩))
  refine bodyPost_ret (results_cell_row rfl _ _ w.heap.size 54 #[.int .u8 0, .int .i64 0, .string ByteArray.empty] (0, 0) _ rfl (ret3 (blk_far hu3 (p := ⟨g, 1, none⟩) hgw _) _ _ _) Try.underlying54 rfl (by kernel_rfl)) rfl ?_
  exact ⟨rfl, (((hr3.fail 10).put (p := ⟨w.heap.size, 0, none⟩) HV0 _).put (p := ⟨w.heap.size, 1, none⟩) HV0 _).put (p := ⟨w.heap.size, 2, none⟩) HV0 _, (((((((((Fr.alloc (S := (· = g)) _).trans hf).new _).trans hf2).put (p := ⟨w1.heap.size, 2, none⟩) (.inr (Nat.le_of_lt hw1)) (.string (strOfNums (textP ys f1 4096).1))).more hB3).put (p := ⟨g, 1, none⟩) (.inl rfl) _).put (p := ⟨w.heap.size, 0, none⟩) (.inr (Nat.le_refl _)) _).put (p := ⟨w.heap.size, 1, none⟩) (.inr (Nat.le_refl _)) _).put (p := ⟨w.heap.size, 2, none⟩) (.inr (Nat.le_refl _)) _⟩
set_option maxHeartbeats 4000000 in
set_option maxRecDepth 100000 in
theorem value_3_bad (B g : Nat) (xs : List Int) (f : Int) (w : World) (h : Rd w B g xs f) (hB : B ≤ w.heap.size) (hl : xs.length ≤ 140737488355328) (hbs : Bs xs) (hk : numB (takeP xs f 1).1 = 3) (ys : List Int) (f1 : Int) (hys : (takeP xs f 1).2 = (ys, f1)) (zf : List Int × Int) (hzf : (textP ys f1 4096).2 = zf) (hf2 : zf.2 ≠ 0) :
    Calls Try.prog 34 #[.pointer (some ⟨g, 0, none⟩)] w fun e w' => e = .returned (.agg #[.int .u8 0, .int .i64 0, .string ByteArray.empty]) ∧ Rd w' B g zf.1 zf.2 ∧ Fr (· = g) w w' := by
  have hnum := fun o => number_calls B g xs f 1 (w.alloc o) (h.below (below_alloc (Below.refl _ _) o)) hl hbs
  rw [show sizeP 1 = 1 from rfl] at hnum
  have htb := (takeP_bs hbs f 1).2
  have htf := takeP_left xs f 1
  generalize ht : takeP xs f 1 = t at *
  obtain ⟨bs, t2⟩ := t
  simp only at hnum htb htf hk hys
  subst hys
  rw [hk] at hnum
  have NUM := fun o => Lib.hid (hnum o)
  clear hnum ht hk
  simp only at htb htf
  have hyl : ys.length ≤ 140737488355328 := by omega
  have hgw : w.heap.size ≠ g := by have := h.lt; omega
  have hvB : ∀ k, k < B → ¬ k = w.heap.size := by omega
  have HV0 := hvB
  obtain ⟨zs, f2⟩ := zf
  simp only at hf2 ⊢
  have HZ := Lib.hid hzf
  clear hzf
  have bf : (f2 == 0) = false := by rw [beq_eq_false_iff_ne]; exact hf2
  go_enter Try.func34, Try.ntmps34
  go_wp2_with (first
    | (go_at_call 33; refine (text_calls B g ys f1 4096 _ (hr.below (below_alloc (Below.refl _ _) _)) hyl htb).mono ?_; rintro e w2 ⟨rfl, hr2, hf2⟩; rw [HZ.out] at hr2; simp only at hr2; have hv2 := hf2.blk (blk_new w1 _) hg1; have hu2 := hf2.blk (blk_alloc hv _) hgw; have c0 := blk_cell hv2 0; have c1 := blk_cell hv2 1; have c2 := blk_cell hv2 2; have z0 := blk_frozen hv2 0; have z1 := blk_frozen hv2 1; have z2 := blk_frozen hv2 2; have d0 := blk_cell hu2 0; have d1 := blk_cell hu2 1; have d2 := blk_cell hu2 2; have y0 := blk_frozen hu2 0; have y1 := blk_frozen hu2 1; have y2 := blk_frozen hu2 2)
    | (go_at_call 32; refine (NUM _).out.mono ?_; rintro e w1 ⟨rfl, hr, hf⟩; have hv := hf.blk (blk_new w _) hgw; have hw1 : w.heap.size < w1.heap.size := blk_lt hv; have hg1 : w1.heap.size ≠ g := (by have := hr.lt; omega); have hvB1 : ∀ k, k < B → ¬ k = w1.heap.size := (by omega); have hww : ¬ (w.heap.size = w1.heap.size) := (by omega))
    | (go_at_call 36; refine (failed_calls B g _ _ _ (hr2.fr (Fr.set w1.heap.size 2 (.string (strOfNums (textP ys f1 4096).1))) hvB1)).mono ?_; rintro e w4 ⟨rfl, rfl⟩))
  refine bodyPost_ret (results_cell_row rfl _ _ w.heap.size 54 #[.int .u8 0, .int .i64 0, .string ByteArray.empty] (0, 0) _ rfl (ret3 (blk_far hu2 (p := ⟨w1.heap.size, 2, none⟩) hww (.string (strOfNums (textP ys f1 4096).1))) _ _ _) Try.underlying54 rfl (by kernel_rfl)) rfl ?_
  exact ⟨rfl, (((hr2.fr (Fr.set w1.heap.size 2 (.string (strOfNums (textP ys f1 4096).1))) hvB1).put (p := ⟨w.heap.size, 0, none⟩) HV0 _).put (p := ⟨w.heap.size, 1, none⟩) HV0 _).put (p := ⟨w.heap.size, 2, none⟩) HV0 _, (((((((Fr.alloc (S := (· = g)) _).trans hf).new _).trans hf2).put (p := ⟨w1.heap.size, 2, none⟩) (.inr (Nat.le_of_lt hw1)) (.string (strOfNums (textP ys f1 4096).1))).put (p := ⟨w.heap.size, 0, none⟩) (.inr (Nat.le_refl _)) _).put (p := ⟨w.heap.size, 1, none⟩) (.inr (Nat.le_refl _)) _).put (p := ⟨w.heap.size, 2, none⟩) (.inr (Nat.le_refl _)) _⟩
set_option maxHeartbeats 4000000 in
set_option maxRecDepth 100000 in
theorem value_0_ok (B g : Nat) (xs : List Int) (f : Int) (w : World) (h : Rd w B g xs f) (hB : B ≤ w.heap.size) (hl : xs.length ≤ 140737488355328) (hbs : Bs xs) (k : Int) (hk : numB (takeP xs f 1).1 = k) (hk0 : 0 ≤ k) (hk255 : k ≤ 255) (hk1 : k ≠ 1) (hk2 : k ≠ 2) (hk3 : k ≠ 3) (ys : List Int) (f1 : Int) (hys : (takeP xs f 1).2 = (ys, f1)) (zf : List Int × Int) (hzf : (ys, f1) = zf) (hf2 : zf.2 = 0) (hr : rightV k 0 ByteArray.empty = true) :
    Calls Try.prog 34 #[.pointer (some ⟨g, 0, none⟩)] w fun e w' => e = .returned (.agg #[.int .u8 k, .int .i64 0, .string ByteArray.empty]) ∧ Rd w' B g zf.1 0 ∧ Fr (· = g) w w' := by
  have hnum := fun o => number_calls B g xs f 1 (w.alloc o) (h.below (below_alloc (Below.refl _ _) o)) hl hbs
  rw [show sizeP 1 = 1 from rfl] at hnum
  have htb := (takeP_bs hbs f 1).2
  have htf := takeP_left xs f 1
  generalize ht : takeP xs f 1 = t at *
  obtain ⟨bs, t2⟩ := t
  simp only at hnum htb htf hk hys
  subst hys
  rw [hk] at hnum
  have NUM := fun o => Lib.hid (hnum o)
  clear hnum ht hk
  simp only at htb htf
  have hyl : ys.length ≤ 140737488355328 := by omega
  have hgw : w.heap.size ≠ g := by have := h.lt; omega
  have hvB : ∀ k, k < B → ¬ k = w.heap.size := by omega
  have HV0 := hvB
  have HRT := Lib.hid ((rightV_some k 0 ByteArray.empty).trans (congrArg some hr))
  clear hr
  have bk1 : (k == 1) = false := by rw [beq_eq_false_iff_ne]; exact hk1
  have bk2 : (k == 2) = false := by rw [beq_eq_false_iff_ne]; exact hk2
  have bk3 : (k == 3) = false := by rw [beq_eq_false_iff_ne]; exact hk3
  have ek : k % 256 = k := by omega
  clear hk1 hk2 hk3
  subst hzf
  simp only at hf2 ⊢
  subst hf2
  go_enter Try.func34, Try.ntmps34
  go_wp2_with (first
    | (go_at_call 32; refine (NUM _).out.mono ?_; rintro e w1 ⟨rfl, hr, hf⟩; have hv := hf.blk (blk_new w _) hgw; have hw1 : w.heap.size < w1.heap.size := blk_lt hv; have hg1 : w1.heap.size ≠ g := (by have := hr.lt; omega); have hvB1 : ∀ k, k < B → ¬ k = w1.heap.size := (by omega); have hww : ¬ (w.heap.size = w1.heap.size) := (by omega); have hw2 := hr.below (below_alloc (Below.refl w1.heap.size w1) (.cells #[.int .u8 k, .int .i64 0, .string (⟨#[]⟩ : ByteArray)] 54)); have hv2 := blk_new w1 (.cells #[.int .u8 k, .int .i64 0, .string (⟨#[]⟩ : ByteArray)] 54); have hu2 := blk_alloc hv (.cells #[.int .u8 k, .int .i64 0, .string (⟨#[]⟩ : ByteArray)] 54); have c0 := blk_cell hv2 0; have c1 := blk_cell hv2 1; have c2 := blk_cell hv2 2; have z0 := blk_frozen hv2 0; have z1 := blk_frozen hv2 1; have z2 := blk_frozen hv2 2; have d0 := blk_cell hu2 0; have d1 := blk_cell hu2 1; have d2 := blk_cell hu2 2; have y0 := blk_frozen hu2 0; have y1 := blk_frozen hu2 1; have y2 := blk_frozen hu2 2; have q0 := blk_cell hv 0; have q1 := blk_cell hv 1; have q2 := blk_cell hv 2; have p0 := blk_frozen hv 0; have p1 := blk_frozen hv 1; have p2 := blk_frozen hv 2)
    | (go_at_call 75; refine (value_Value_Right.calls _ _ _ _ _ HRT.out).mono ?_; rintro e w3 ⟨rfl, hB3⟩; have hr3 := hw2.below hB3; have hv3 := blk_below hv2 hB3; have hu3 := blk_below hu2 hB3; have c0 := blk_cell hv3 0; have c1 := blk_cell hv3 1; have c2 := blk_cell hv3 2; have z0 := blk_frozen hv3 0; have z1 := blk_frozen hv3 1; have z2 := blk_frozen hv3 2; have d0 := blk_cell hu3 0; have d1 := blk_cell hu3 1; have d2 := blk_cell hu3 2; have y0 := blk_frozen hu3 0; have y1 := blk_frozen hu3 1; have y2 := blk_frozen hu3 2; have e1 := hr3.cell1; have e2 := hr3.frozen1)
    | (go_at_call 36; refine (failed_calls B g _ _ _ hw2).mono ?_; rintro e w4 ⟨rfl, rfl⟩)
    | (go_at_call 36; refine (failed_calls B g _ _ _ hr3).mono ?_; rintro e w4 ⟨rfl, rfl⟩))
  refine bodyPost_ret (results_cell_row rfl _ _ w.heap.size 54 #[.int .u8 k, .int .i64 0, .string ByteArray.empty] (0, 0) _ rfl (ret3 hu3 _ _ _) Try.underlying54 rfl (by kernel_rfl)) rfl ?_
  exact ⟨rfl, ((hr3.put (p := ⟨w.heap.size, 0, none⟩) HV0 _).put (p := ⟨w.heap.size, 1, none⟩) HV0 _).put (p := ⟨w.heap.size, 2, none⟩) HV0 _, ((((((Fr.alloc (S := (· = g)) _).trans hf).new _).more hB3).put (p := ⟨w.heap.size, 0, none⟩) (.inr (Nat.le_refl _)) _).put (p := ⟨w.heap.size, 1, none⟩) (.inr (Nat.le_refl _)) _).put (p := ⟨w.heap.size, 2, none⟩) (.inr (Nat.le_refl _)) _⟩
set_option maxHeartbeats 4000000 in
set_option maxRecDepth 100000 in
theorem value_0_form (B g : Nat) (xs : List Int) (f : Int) (w : World) (h : Rd w B g xs f) (hB : B ≤ w.heap.size) (hl : xs.length ≤ 140737488355328) (hbs : Bs xs) (k : Int) (hk : numB (takeP xs f 1).1 = k) (hk0 : 0 ≤ k) (hk255 : k ≤ 255) (hk1 : k ≠ 1) (hk2 : k ≠ 2) (hk3 : k ≠ 3) (ys : List Int) (f1 : Int) (hys : (takeP xs f 1).2 = (ys, f1)) (zf : List Int × Int) (hzf : (ys, f1) = zf) (hf2 : zf.2 = 0) (hr : rightV k 0 ByteArray.empty = false) :
    Calls Try.prog 34 #[.pointer (some ⟨g, 0, none⟩)] w fun e w' => e = .returned (.agg #[.int .u8 0, .int .i64 0, .string ByteArray.empty]) ∧ Rd w' B g zf.1 10 ∧ Fr (· = g) w w' := by
  have hnum := fun o => number_calls B g xs f 1 (w.alloc o) (h.below (below_alloc (Below.refl _ _) o)) hl hbs
  rw [show sizeP 1 = 1 from rfl] at hnum
  have htb := (takeP_bs hbs f 1).2
  have htf := takeP_left xs f 1
  generalize ht : takeP xs f 1 = t at *
  obtain ⟨bs, t2⟩ := t
  simp only at hnum htb htf hk hys
  subst hys
  rw [hk] at hnum
  have NUM := fun o => Lib.hid (hnum o)
  clear hnum ht hk
  simp only at htb htf
  have hyl : ys.length ≤ 140737488355328 := by omega
  have hgw : w.heap.size ≠ g := by have := h.lt; omega
  have hvB : ∀ k, k < B → ¬ k = w.heap.size := by omega
  have HV0 := hvB
  have HRT := Lib.hid ((rightV_some k 0 ByteArray.empty).trans (congrArg some hr))
  clear hr
  have bk1 : (k == 1) = false := by rw [beq_eq_false_iff_ne]; exact hk1
  have bk2 : (k == 2) = false := by rw [beq_eq_false_iff_ne]; exact hk2
  have bk3 : (k == 3) = false := by rw [beq_eq_false_iff_ne]; exact hk3
  have ek : k % 256 = k := by omega
  clear hk1 hk2 hk3
  subst hzf
  simp only at hf2 ⊢
  subst hf2
  go_enter Try.func34, Try.ntmps34
  go_wp2_with (first
    | (go_at_call 32; refine (NUM _).out.mono ?_; rintro e w1 ⟨rfl, hr, hf⟩; have hv := hf.blk (blk_new w _) hgw; have hw1 : w.heap.size < w1.heap.size := blk_lt hv; have hg1 : w1.heap.size ≠ g := (by have := hr.lt; omega); have hvB1 : ∀ k, k < B → ¬ k = w1.heap.size := (by omega); have hww : ¬ (w.heap.size = w1.heap.size) := (by omega); have hw2 := hr.below (below_alloc (Below.refl w1.heap.size w1) (.cells #[.int .u8 k, .int .i64 0, .string (⟨#[]⟩ : ByteArray)] 54)); have hv2 := blk_new w1 (.cells #[.int .u8 k, .int .i64 0, .string (⟨#[]⟩ : ByteArray)] 54); have hu2 := blk_alloc hv (.cells #[.int .u8 k, .int .i64 0, .string (⟨#[]⟩ : ByteArray)] 54); have c0 := blk_cell hv2 0; have c1 := blk_cell hv2 1; have c2 := blk_cell hv2 2; have z0 := blk_frozen hv2 0; have z1 := blk_frozen hv2 1; have z2 := blk_frozen hv2 2; have d0 := blk_cell hu2 0; have d1 := blk_cell hu2 1; have d2 := blk_cell hu2 2; have y0 := blk_frozen hu2 0; have y1 := blk_frozen hu2 1; have y2 := blk_frozen hu2 2; have q0 := blk_cell hv 0; have q1 := blk_cell hv 1; have q2 := blk_cell hv 2; have p0 := blk_frozen hv 0; have p1 := blk_frozen hv 1; have p2 := blk_frozen hv 2)
    | (go_at_call 75; refine (value_Value_Right.calls _ _ _ _ _ HRT.out).mono ?_; rintro e w3 ⟨rfl, hB3⟩; have hr3 := hw2.below hB3; have hv3 := blk_below hv2 hB3; have hu3 := blk_below hu2 hB3; have c0 := blk_cell hv3 0; have c1 := blk_cell hv3 1; have c2 := blk_cell hv3 2; have z0 := blk_frozen hv3 0; have z1 := blk_frozen hv3 1; have z2 := blk_frozen hv3 2; have d0 := blk_cell hu3 0; have d1 := blk_cell hu3 1; have d2 := blk_cell hu3 2; have y0 := blk_frozen hu3 0; have y1 := blk_frozen hu3 1; have y2 := blk_frozen hu3 2; have e1 := hr3.cell1; have e2 := hr3.frozen1)
    | (go_at_call 36; refine (failed_calls B g _ _ _ hw2).mono ?_; rintro e w4 ⟨rfl, rfl⟩)
    | (go_at_call 36; refine (failed_calls B g _ _ _ (hr3.fail 10)).mono ?_; rintro e w4 ⟨rfl, rfl⟩))
  refine bodyPost_ret (results_cell_row rfl _ _ w.heap.size 54 #[.int .u8 0, .int .i64 0, .string ByteArray.empty] (0, 0) _ rfl (ret3 (blk_far hu3 (p := ⟨g, 1, none⟩) hgw _) _ _ _) Try.underlying54 rfl (by kernel_rfl)) rfl ?_
  exact ⟨rfl, (((hr3.fail 10).put (p := ⟨w.heap.size, 0, none⟩) HV0 _).put (p := ⟨w.heap.size, 1, none⟩) HV0 _).put (p := ⟨w.heap.size, 2, none⟩) HV0 _, (((((((Fr.alloc (S := (· = g)) _).trans hf).new _).more hB3).put (p := ⟨g, 1, none⟩) (.inl rfl) _).put (p := ⟨w.heap.size, 0, none⟩) (.inr (Nat.le_refl _)) _).put (p := ⟨w.heap.size, 1, none⟩) (.inr (Nat.le_refl _)) _).put (p := ⟨w.heap.size, 2, none⟩) (.inr (Nat.le_refl _)) _⟩
set_option maxHeartbeats 4000000 in
set_option maxRecDepth 100000 in
theorem value_0_bad (B g : Nat) (xs : List Int) (f : Int) (w : World) (h : Rd w B g xs f) (hB : B ≤ w.heap.size) (hl : xs.length ≤ 140737488355328) (hbs : Bs xs) (k : Int) (hk : numB (takeP xs f 1).1 = k) (hk0 : 0 ≤ k) (hk255 : k ≤ 255) (hk1 : k ≠ 1) (hk2 : k ≠ 2) (hk3 : k ≠ 3) (ys : List Int) (f1 : Int) (hys : (takeP xs f 1).2 = (ys, f1)) (zf : List Int × Int) (hzf : (ys, f1) = zf) (hf2 : zf.2 ≠ 0) :
    Calls Try.prog 34 #[.pointer (some ⟨g, 0, none⟩)] w fun e w' => e = .returned (.agg #[.int .u8 0, .int .i64 0, .string ByteArray.empty]) ∧ Rd w' B g zf.1 zf.2 ∧ Fr (· = g) w w' := by
  have hnum := fun o => number_calls B g xs f 1 (w.alloc o) (h.below (below_alloc (Below.refl _ _) o)) hl hbs
  rw [show sizeP 1 = 1 from rfl] at hnum
  have htb := (takeP_bs hbs f 1).2
  have htf := takeP_left xs f 1
  generalize ht : takeP xs f 1 = t at *
  obtain ⟨bs, t2⟩ := t
  simp only at hnum htb htf hk hys
  subst hys
  rw [hk] at hnum
  have NUM := fun o => Lib.hid (hnum o)
  clear hnum ht hk
  simp only at htb htf
  have hyl : ys.length ≤ 140737488355328 := by omega
  have hgw : w.heap.size ≠ g := by have := h.lt; omega
  have hvB : ∀ k, k < B → ¬ k = w.heap.size := by omega
  have HV0 := hvB
  have bk1 : (k == 1) = false := by rw [beq_eq_false_iff_ne]; exact hk1
  have bk2 : (k == 2) = false := by rw [beq_eq_false_iff_ne]; exact hk2
  have bk3 : (k == 3) = false := by rw [beq_eq_false_iff_ne]; exact hk3
  have ek : k % 256 = k := by omega
  clear hk1 hk2 hk3
  subst hzf
  simp only at hf2 ⊢
  have bf : (f1 == 0) = false := by rw [beq_eq_false_iff_ne]; exact hf2
  go_enter Try.func34, Try.ntmps34
  go_wp2_with (first
    | (go_at_call 32; refine (NUM _).out.mono ?_; rintro e w1 ⟨rfl, hr, hf⟩; have hv := hf.blk (blk_new w _) hgw; have hw1 : w.heap.size < w1.heap.size := blk_lt hv; have hg1 : w1.heap.size ≠ g := (by have := hr.lt; omega); have hvB1 : ∀ k, k < B → ¬ k = w1.heap.size := (by omega); have hww : ¬ (w.heap.size = w1.heap.size) := (by omega); have hw2 := hr.below (below_alloc (Below.refl w1.heap.size w1) (.cells #[.int .u8 k, .int .i64 0, .string (⟨#[]⟩ : ByteArray)] 54)); have hv2 := blk_new w1 (.cells #[.int .u8 k, .int .i64 0, .string (⟨#[]⟩ : ByteArray)] 54); have hu2 := blk_alloc hv (.cells #[.int .u8 k, .int .i64 0, .string (⟨#[]⟩ : ByteArray)] 54); have c0 := blk_cell hv2 0; have c1 := blk_cell hv2 1; have c2 := blk_cell hv2 2; have z0 := blk_frozen hv2 0; have z1 := blk_frozen hv2 1; have z2 := blk_frozen hv2 2; have d0 := blk_cell hu2 0; have d1 := blk_cell hu2 1; have d2 := blk_cell hu2 2; have y0 := blk_frozen hu2 0; have y1 := blk_frozen hu2 1; have y2 := blk_frozen hu2 2; have q0 := blk_cell hv 0; have q1 := blk_cell hv 1; have q2 := blk_cell hv 2; have p0 := blk_frozen hv 0; have p1 := blk_frozen hv 1; have p2 := blk_frozen hv 2)
    | (go_at_call 36; refine (failed_calls B g _ _ _ hw2).mono ?_; rintro e w4 ⟨rfl, rfl⟩))
  refine bodyPost_ret (results_cell_row rfl _ _ w.heap.size 54 #[.int .u8 0, .int .i64 0, .string ByteArray.empty] (0, 0) _ rfl (blk_alloc (ret3 hv _ _ _) _) Try.underlying54 rfl (by kernel_rfl)) rfl ?_
  exact ⟨rfl, (((hr.put (p := ⟨w.heap.size, 0, none⟩) HV0 _).put (p := ⟨w.heap.size, 1, none⟩) HV0 _).put (p := ⟨w.heap.size, 2, none⟩) HV0 _).below (below_alloc (Below.refl _ _) _), ((((((Fr.alloc (S := (· = g)) _).trans hf).put (p := ⟨w.heap.size, 0, none⟩) (.inr (Nat.le_refl _)) _).put (p := ⟨w.heap.size, 1, none⟩) (.inr (Nat.le_refl _)) _).put (p := ⟨w.heap.size, 2, none⟩) (.inr (Nat.le_refl _)) _).new _)⟩
end Go.Proofs.Ytaoacibahdbdkaa.Pr
