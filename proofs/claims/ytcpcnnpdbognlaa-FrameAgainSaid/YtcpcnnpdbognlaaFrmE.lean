/- frame: the bytes of frames, by the program and by the document, as contracts. -/
import Derived.Test.YtcpcnnpdbognlaaFrmW
import Derived.Test.YtcpcnnpdbognlaaPackA
namespace Go.Proofs.Ytcpcnnpdbognlaa.Frm
open Go.RowKit Go Go.Proofs.YtcpcnnpdbognlaaW.PrintWords Go.Proofs.YtcpcnnpdbognlaaW.PrintMore Go.Proofs.YtcpcnnpdbognlaaW.PrintLast Go.Proofs.Ytcpcnnpdbognlaa.Bts Go.Proofs.Ytcpcnnpdbognlaa.Fra Go.Proofs.Ytcpcnnpdbognlaa.Pk
def encB (l : List (List Int)) : List Int := l.flatMap fun x => leB x.length 2 ++ x
theorem encB_snoc (l : List (List Int)) (x : List Int) : encB (l ++ [x]) = encB l ++ leB x.length 2 ++ x := by simp [encB]
theorem encB_len : ∀ (l : List (List Int)), (∀ x ∈ l, x.length ≤ 20000) → (encB l).length ≤ l.length * 20002
  | [], _ => Nat.le_refl _
  | x :: l, h => by
    have ih := encB_len l (fun y hy => h y (List.mem_cons_of_mem _ hy))
    have hx := h x List.mem_cons_self
    have e : encB (x :: l) = (leB x.length 2 ++ x) ++ encB l := rfl
    rw [e, List.length_append, List.length_append, leB_length, List.length_cons, Nat.succ_mul]
    omega
theorem leB2 (n : Nat) : leB (n : Int) 2 = [(n : Int) % 256, (n : Int) / 256 % 256] := by simp [leB, List.range_succ]
theorem encB_take (l : List (List Int)) (j : Nat) (h : j < l.length) (x : List Int) (hx : l.getD j [] = x) : encB (l.take (j + 1)) = encB (l.take j) ++ leB x.length 2 ++ x := by
  have e : l.getD j [] = l[j] := by simp [List.getD, h]
  rw [← List.take_append_getElem h, ← e, hx, encB_snoc]
/-- The frames in frames' bytes. -/
theorem fr_enc : ∀ (l : List (List Int)), (∀ x ∈ l, x.length ≤ 9000) → fr (encB l) = (l, [], false)
  | [], _ => rfl
  | x :: l, h => by
    have hx := h x List.mem_cons_self
    have e : encB (x :: l) = (x.length : Int) % 256 :: (x.length : Int) / 256 % 256 :: (x ++ encB l) := by
      show (leB x.length 2 ++ x) ++ encB l = _
      rw [leB2]; simp
    have h2 : len2 (encB (x :: l)) = x.length := by
      rw [e]
      show ((x.length : Int) % 256 + 256 * ((x.length : Int) / 256 % 256)).toNat = x.length
      omega
    rw [fr_step (encB (x :: l)) (by rw [h2]; exact hx) (by rw [h2, e]; simp; omega), h2]
    have e1 : (encB (x :: l)).drop (2 + x.length) = encB l := by rw [e, Nat.add_comm 2]; simp
    have e2 : ((encB (x :: l)).drop 2).take x.length = x := by rw [e]; simp
    rw [e1, e2, fr_enc l (fun y hy => h y (List.mem_cons_of_mem _ hy))]
def EncPost (l : List (List Int)) (w : World) (e : Ending) (w' : World) : Prop :=
  ((∃ x ∈ l, 9000 < x.length) ∧ e = .returned (.tuple #[.slice none 0 0, .int .i64 12]) ∧ Below w.heap.size w w') ∨
    ((∀ x ∈ l, x.length ≤ 9000) ∧ ∃ v, e = .returned (.tuple #[v, .int .i64 0]) ∧ Made w w' v (encB l))
theorem mem_getD {l : List (List Int)} {j : Nat} (h : j < l.length) {x : List Int} (hx : l.getD j [] = x) : x ∈ l := by
  have e : l.getD j [] = l[j] := by simp [List.getD, h]
  rw [← hx, e]; exact List.getElem_mem h
set_option maxHeartbeats 1000000 in
set_option maxRecDepth 100000 in
theorem enc_calls (A : Option Addr) (c : Nat) (l : List (List Int)) (w : World) (hC : kF.C w A l.length l) (hl : l.length ≤ 30) (hx : ∀ x ∈ l, x.length ≤ 20000) :
    Calls Try.prog 43 #[.slice A l.length c] w (EncPost l w) := by
  have HC := Lib.hid hC
  have HX := Lib.hid hx
  clear hC hx
  go_enter Try.func43, Try.ntmps43
  go_wp2
  go_loopw [4, 9] (fun v i wr => ∃ j : Nat, j ≤ l.length ∧ i = .int .i64 j ∧ (∀ x ∈ l.take j, x.length ≤ 9000) ∧ Made w wr v (encB (l.take j))) (fun _ i _ => l.length - (intOf i).toNat)
  case atStart => exact ⟨0, by omega, rfl, fun x h => by simp at h, own_nil _ _ _ _, Below.refl _ _⟩
  case round =>
    obtain ⟨j, hj, rfl, hs, hM⟩ := hrel
    have HS := Lib.hid hs
    have HM := Lib.hid hM
    clear hs hM
    by_cases hlt : j < l.length
    · obtain ⟨x, hx⟩ : ∃ x, l.getD j [] = x := ⟨_, rfl⟩
      obtain ⟨ad, A2, c2, rfl, a0, _, a2⟩ := at_row (Kd.C_below HC.out HM.out.2) j hlt x hx
      have HA2 := Lib.hid a2
      have hxm := mem_getD hlt hx
      have hxl := HX.out x hxm
      have HXM := Lib.hid hxm
      have HET := Lib.hid (encB_take l j hlt x hx)
      have hel : (encB (l.take j)).length ≤ 600060 := by
        have h := encB_len (l.take j) (fun y hy => HX.out y (List.mem_of_mem_take hy))
        rw [List.length_take] at h
        have : min j l.length * 20002 ≤ 30 * 20002 := Nat.mul_le_mul_right _ (by omega)
        omega
      have HTS := Lib.hid (show l.take (j + 1) = l.take j ++ [x] by
        have e : l.getD j [] = l[j] := by simp [List.getD, hlt]
        rw [← List.take_append_getElem hlt, ← e, hx])
      clear hx hxm a2
      by_cases h9 : 9000 < x.length
      · have h9i : (9000 : Int) < (x.length : Int) := by omega
        go_wp2
        go_ret2
        exact .inl ⟨⟨x, HXM.out, h9⟩, rfl, HM.out.2⟩
      · have h9i : (x.length : Int) ≤ 9000 := by omega
        go_wp2_with (first
          | (at_builtin; go_loud (refine print_append_row (w0 := w) w.heap.size rfl (.tmp 20) (.tmp 21) 36 5 .u8 1 rfl Try.underlying36 infoByte (by decide) _ (encB (l.take j) ++ leB x.length 2) x A2 x.length c2 rfl rfl (own_weaken HP.out.1 HM.out.2.size) (readsInt_of.2 (Kd.reads_of_C (enc := Value.int .u8) (d := (0 : Int)) (h1 := fun _ => rfl) (Kd.C_below HA2.out HP.out.2))) (below_step HM.out.2 HP.out.2) (Nat.le_trans HM.out.2.size HP.out.2.size) (by rw [List.length_append, leB_length]; omega) ?_; intro v3 w3 hown3 hB3 _ _; have HO3 := Lib.hid hown3; have HB3 := Lib.hid hB3; clear hown3 hB3))
          | (go_at_call 73; go_loud (refine (put_pos _ (encB (l.take j)) x.length 2 _ (SlR.of_own HM.out.1) (by omega) (by omega) (by omega) (by omega)).mono ?_; rintro e w1 ⟨v1, rfl, hP⟩; have HP := Lib.hid hP; clear hP)))
        go_roundw
        case rel =>
          refine ⟨j + 1, by omega, by simp, ?_, by rw [HET.out]; exact HO3.out, HB3.out⟩
          intro y hy
          rw [HTS.out] at hy
          rcases List.mem_append.1 hy with h | h
          · exact HS.out y h
          · rw [List.mem_singleton.1 h]; omega
        case measure => simp [intOf]; omega
    · obtain rfl : j = l.length := by omega
      have hM := HM.out
      have hs := HS.out
      rw [List.take_length] at hM hs
      have HM' := Lib.hid hM
      have HS' := Lib.hid hs
      clear hM hs
      go_wp2
      go_ret2
      exact .inr ⟨HS'.out, _, rfl, HM'.out⟩
end Go.Proofs.Ytcpcnnpdbognlaa.Frm
