/- packed: a value put behind bytes, as a contract. -/
import Derived.Test.YtaoacibahdbdkaaPackW
namespace Go.Proofs.Ytaoacibahdbdkaa.Pk
open Go.RowKit Go Go.Proofs.YtaoacibahdbdkaaW.PrintWords Go.Proofs.YtaoacibahdbdkaaW.PrintMore Go.Proofs.Ytaoacibahdbdkaa.Bts
attribute [local go_sem] max2_int min2_int max_two min_two
/-- A value's bytes. -/
def valB (k n : Int) (s : ByteArray) : List Int :=
  k % 256 :: (if k = 1 then leB (n % 18446744073709551616) 1 else if k = 2 then leB (n % 18446744073709551616) 8 else if k = 3 then leB s.size 2 ++ bytesOf s else [])
theorem leB_one (n : Int) : leB n 1 = [n % 256] := by simp [leB]
set_option maxHeartbeats 4000000 in
set_option maxRecDepth 100000 in
theorem value_calls (v : Value) (xs : List Int) (k n : Int) (s : ByteArray) (w : World) (h : Byt w v xs) (hk0 : 0 ≤ k) (hk1 : k ≤ 255) (hl : xs.length ≤ 35184372088832) (hs : s.size ≤ 35184372088832) :
    Calls Try.prog 69 #[v, .agg #[.int .u8 k, .int .i64 n, .string s]] w fun e w' => ∃ v', e = .returned v' ∧ Made w w' v' (xs ++ valB k n s) := by
  have H := Lib.hid h
  clear h
  have hu : 0 ≤ n % 18446744073709551616 := by omega
  have HLK := Lib.hid (show (xs ++ leB k 1).length = xs.length + 1 by rw [List.length_append, leB_length])
  have hbox : ∀ (W : World) (o : Obj), W.heap.size ≤ (W.alloc o).heap.size := fun W o => by simp
  have out : ∀ {w1 w2 : World} {v2 : Value} {ys zs : List Int} {o : Obj}, Below (w.alloc o).heap.size (w.alloc o) w1 → Made w1 w2 v2 ys → ys = zs → Made w w2 v2 zs := by
    intro w1 w2 v2 ys zs o hB h e
    subst e
    have h1 : w.heap.size ≤ w1.heap.size := Nat.le_trans (by simp) hB.size
    have h2 : Below w.heap.size w w1 := below_step (below_alloc (Below.refl _ _) o) hB
    exact ⟨own_weaken h.1 h1, below_then h2 h2.size h.2⟩
  have out0 : ∀ {w1 : World} {v1 : Value} {ys zs : List Int} {o : Obj}, Below (w.alloc o).heap.size (w.alloc o) w1 → w1.ownsRow (w.alloc o).heap.size 5 1 v1 ys.length (nums .u8 ys) → ys = zs → Made w w1 v1 zs := by
    intro w1 v1 ys zs o hB h e
    subst e
    exact ⟨own_weaken h (by simp), below_step (below_alloc (Below.refl _ _) o) hB⟩
  have e0 : k % 256 = k := by omega
  by_cases k1 : k = 1
  · have hv : valB k n s = leB k 1 ++ leB (n % 18446744073709551616) 1 := by unfold valB; rw [if_pos k1, leB_one k]; rfl
    have b1 : (k == 1) = true := by rw [beq_iff_eq]; exact k1
    clear k1
    have HV := Lib.hid hv
    clear hv e0
    go_enter Try.func69, Try.ntmps69
    go_wp2_with (first
      | (go_at_call_of 67 v; refine (put_pos _ xs k 1 _ (H.out.below (below_alloc (Below.refl _ _) _)) (by omega) (by omega) (by omega) (by omega)).mono ?_; rintro e w1 ⟨v1, rfl, hown, hB⟩; have hc0 := pw_cell_below hB (a := ⟨w.heap.size, 0, none⟩) (v := .int .u8 k) (by go_simp); have hc1 := pw_cell_below hB (a := ⟨w.heap.size, 1, none⟩) (v := .int .i64 n) (by go_simp); have hc2 := pw_cell_below hB (a := ⟨w.heap.size, 2, none⟩) (v := .string s) (by go_simp))
      | (go_at_call_of 67 v1; refine (put_pos _ (xs ++ leB k 1) _ 1 _ (SlR.of_own hown) (by rw [HLK.out]; omega) hu (by omega) (by omega)).mono ?_; rintro e w2 ⟨v2, rfl, hM⟩))
    go_ret
    exact ⟨_, rfl, out hB hM (by rw [HV.out, List.append_assoc])⟩
  by_cases k2 : k = 2
  · have hv : valB k n s = leB k 1 ++ leB (n % 18446744073709551616) 8 := by unfold valB; rw [if_neg k1, if_pos k2, leB_one k]; rfl
    have b1 : (k == 1) = false := by rw [beq_eq_false_iff_ne]; exact k1
    have b2 : (k == 2) = true := by rw [beq_iff_eq]; exact k2
    clear k1 k2
    have HV := Lib.hid hv
    clear hv e0
    go_enter Try.func69, Try.ntmps69
    go_wp2_with (first
      | (go_at_call_of 67 v; refine (put_pos _ xs k 1 _ (H.out.below (below_alloc (Below.refl _ _) _)) (by omega) (by omega) (by omega) (by omega)).mono ?_; rintro e w1 ⟨v1, rfl, hown, hB⟩; have hc0 := pw_cell_below hB (a := ⟨w.heap.size, 0, none⟩) (v := .int .u8 k) (by go_simp); have hc1 := pw_cell_below hB (a := ⟨w.heap.size, 1, none⟩) (v := .int .i64 n) (by go_simp); have hc2 := pw_cell_below hB (a := ⟨w.heap.size, 2, none⟩) (v := .string s) (by go_simp))
      | (go_at_call_of 67 v1; refine (put_pos _ (xs ++ leB k 1) _ 8 _ (SlR.of_own hown) (by rw [HLK.out]; omega) hu (by omega) (by omega)).mono ?_; rintro e w2 ⟨v2, rfl, hM⟩))
    go_ret
    exact ⟨_, rfl, out hB hM (by rw [HV.out, List.append_assoc])⟩
  by_cases k3 : k = 3
  · have hv : valB k n s = leB k 1 ++ (leB s.size 2 ++ bytesOf s) := by unfold valB; rw [if_neg k1, if_neg k2, if_pos k3, leB_one k]; rfl
    have b1 : (k == 1) = false := by rw [beq_eq_false_iff_ne]; exact k1
    have b2 : (k == 2) = false := by rw [beq_eq_false_iff_ne]; exact k2
    have b3 : (k == 3) = true := by rw [beq_iff_eq]; exact k3
    clear k1 k2 k3
    have HV := Lib.hid hv
    clear hv e0
    go_enter Try.func69, Try.ntmps69
    go_wp2_with (first
      | (go_at_call_of 67 v; refine (put_pos _ xs k 1 _ (H.out.below (below_alloc (Below.refl _ _) _)) (by omega) (by omega) (by omega) (by omega)).mono ?_; rintro e w1 ⟨v1, rfl, hown, hB⟩; have hc0 := pw_cell_below hB (a := ⟨w.heap.size, 0, none⟩) (v := .int .u8 k) (by go_simp); have hc1 := pw_cell_below hB (a := ⟨w.heap.size, 1, none⟩) (v := .int .i64 n) (by go_simp); have hc2 := pw_cell_below hB (a := ⟨w.heap.size, 2, none⟩) (v := .string s) (by go_simp))
      | (go_at_call_of 68 v1; refine (text_calls _ (xs ++ leB k 1) s _ (SlR.of_own hown) (by rw [HLK.out]; omega) (by omega)).mono ?_; rintro e w2 ⟨v2, rfl, hM⟩))
    go_ret
    exact ⟨_, rfl, out hB hM (by rw [HV.out, List.append_assoc, List.append_assoc])⟩
  · have hv : valB k n s = leB k 1 := by unfold valB; rw [if_neg k1, if_neg k2, if_neg k3, leB_one k]
    have b1 : (k == 1) = false := by rw [beq_eq_false_iff_ne]; exact k1
    have b2 : (k == 2) = false := by rw [beq_eq_false_iff_ne]; exact k2
    have b3 : (k == 3) = false := by rw [beq_eq_false_iff_ne]; exact k3
    clear k1 k2 k3
    have HV := Lib.hid hv
    clear hv e0
    go_enter Try.func69, Try.ntmps69
    go_wp2_with (first
      | (go_at_call_of 67 v; refine (put_pos _ xs k 1 _ (H.out.below (below_alloc (Below.refl _ _) _)) (by omega) (by omega) (by omega) (by omega)).mono ?_; rintro e w1 ⟨v1, rfl, hown, hB⟩; have hc0 := pw_cell_below hB (a := ⟨w.heap.size, 0, none⟩) (v := .int .u8 k) (by go_simp); have hc1 := pw_cell_below hB (a := ⟨w.heap.size, 1, none⟩) (v := .int .i64 n) (by go_simp); have hc2 := pw_cell_below hB (a := ⟨w.heap.size, 2, none⟩) (v := .string s) (by go_simp))      )
    go_ret
    exact ⟨_, rfl, out0 hB hown (by rw [HV.out])⟩
end Go.Proofs.Ytaoacibahdbdkaa.Pk
