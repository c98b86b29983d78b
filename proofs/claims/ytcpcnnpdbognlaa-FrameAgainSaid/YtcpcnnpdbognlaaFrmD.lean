/- frame: the document's Encode, as a contract. -/
import Derived.Test.YtcpcnnpdbognlaaFrmE
namespace Go.Proofs.Ytcpcnnpdbognlaa.Frm
open Go.RowKit Go Go.Proofs.YtcpcnnpdbognlaaW.PrintWords Go.Proofs.YtcpcnnpdbognlaaW.PrintMore Go.Proofs.YtcpcnnpdbognlaaW.PrintLast Go.Proofs.Ytcpcnnpdbognlaa.Bts Go.Proofs.Ytcpcnnpdbognlaa.Fra Go.Proofs.Ytcpcnnpdbognlaa.Pk
set_option maxHeartbeats 1000000 in
set_option maxRecDepth 100000 in
theorem refEnc_calls (A : Option Addr) (c : Nat) (l : List (List Int)) (w : World) (hC : kF.C w A l.length l) (hl : l.length ≤ 30) (hx : ∀ x ∈ l, x.length ≤ 20000) :
    Calls Try.prog 44 #[.slice A l.length c] w fun e w' => ∃ v, e = .returned v ∧ Made w w' v (encB l) := by
  have HC := Lib.hid hC
  have HX := Lib.hid hx
  clear hC hx
  go_enter Try.func44, Try.ntmps44
  go_wp2
  go_loopw [3, 4] (fun v i wr => ∃ j : Nat, j ≤ l.length ∧ i = .int .i64 j ∧ Made w wr v (encB (l.take j))) (fun _ i _ => l.length - (intOf i).toNat)
  case atStart => exact ⟨0, by omega, rfl, own_nil _ _ _ _, Below.refl _ _⟩
  case round =>
    obtain ⟨j, hj, rfl, hM⟩ := hrel
    have HM := Lib.hid hM
    clear hM
    by_cases hlt : j < l.length
    · obtain ⟨x, hx⟩ : ∃ x, l.getD j [] = x := ⟨_, rfl⟩
      obtain ⟨ad, A2, c2, rfl, a0, _, a2⟩ := at_row HC.out j hlt x hx
      have HA2 := Lib.hid a2
      have HA0 := Lib.hid a0
      have a1 := pw_cell_below HM.out.2 a0
      have hxl := HX.out x (mem_getD hlt hx)
      have HET := Lib.hid (encB_take l j hlt x hx)
      have hel : (encB (l.take j)).length ≤ 600060 := by
        have h := encB_len (l.take j) (fun y hy => HX.out y (List.mem_of_mem_take hy))
        rw [List.length_take] at h
        have : min j l.length * 20002 ≤ 30 * 20002 := Nat.mul_le_mul_right _ (by omega)
        omega
      have hm1 : 0 ≤ (x.length : Int) % 256 ∧ (x.length : Int) % 256 ≤ 255 := by omega
      have hm2 : 0 ≤ (x.length : Int) / 256 ∧ (x.length : Int) / 256 ≤ 255 := by omega
      obtain ⟨m10, m11⟩ := hm1
      obtain ⟨m20, m21⟩ := hm2
      have hsz := HM.out.2.size
      clear hx a2
      go_wp2_with (first
        | (at_builtin; go_loud (refine print_append_row (w0 := w) w.heap.size rfl (.tmp 31) (.tmp 35) 36 5 .u8 1 rfl Try.underlying36 infoByte (by decide) _ (encB (l.take j) ++ [(x.length : Int) % 256] ++ [(x.length : Int) / 256]) x A2 x.length c2 rfl rfl HO4.out (readsInt_of.2 (Kd.reads_of_C (enc := Value.int .u8) (d := (0 : Int)) (h1 := fun _ => rfl) (Kd.C_below HA2.out HB4.out))) HB4.out HB4.out.size (by simp only [List.length_append, List.length_singleton]; omega) ?_; intro v5 w5 hown5 hB5 _ _; have HO5 := Lib.hid hown5; have HB5 := Lib.hid hB5; clear hown5 hB5))
        | (at_builtin; go_loud (refine print_append_num (w0 := w) w.heap.size rfl (.tmp 21) (.tmp 29) 36 5 .u8 1 rfl Try.underlying36 infoByte (by decide) _ (encB (l.take j) ++ [(x.length : Int) % 256]) ((x.length : Int) / 256) rfl rfl HO3.out HB3.out HB3.out.size (by simp only [List.length_append, List.length_singleton]; omega) ?_; intro v4 w4 hown4 hB4 hg4 _; have HO4 := Lib.hid hown4; have HB4 := Lib.hid hB4; have a4 := pw_cell_below hB4 HA0.out; clear hown4 hB4))
        | (at_builtin; go_loud (refine print_append_num (w0 := w) w.heap.size rfl (.tmp 11) (.tmp 19) 36 5 .u8 1 rfl Try.underlying36 infoByte (by decide) _ (encB (l.take j)) ((x.length : Int) % 256) rfl rfl HM.out.1 HM.out.2 hsz (by omega) ?_; intro v3 w3 hown3 hB3 hg3 _; have HO3 := Lib.hid hown3; have HB3 := Lib.hid hB3; have a3 := pw_cell_below hB3 HA0.out; clear hown3 hB3)))
      go_roundw
      case rel =>
        refine ⟨j + 1, by omega, by simp, ?_, HB5.out⟩
        rw [HET.out, leB2]
        have e : (x.length : Int) / 256 % 256 = (x.length : Int) / 256 := by omega
        rw [e]
        have h := HO5.out
        rwa [List.append_assoc (encB (l.take j))] at h
      case measure => simp [intOf]; omega
    · obtain rfl : j = l.length := by omega
      have hM := HM.out
      rw [List.take_length] at hM
      have HM' := Lib.hid hM
      clear hM
      go_wp2
      go_ret
      exact ⟨_, rfl, HM'.out⟩
end Go.Proofs.Ytcpcnnpdbognlaa.Frm
