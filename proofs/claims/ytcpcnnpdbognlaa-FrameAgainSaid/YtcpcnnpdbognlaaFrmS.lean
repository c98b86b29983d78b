/- frame: two lists of rows that are one. -/
import Derived.Test.YtcpcnnpdbognlaaFrmR
namespace Go.Proofs.Ytcpcnnpdbognlaa.Frm
open Go.RowKit Go Go.Proofs.YtcpcnnpdbognlaaW.PrintWords Go.Proofs.YtcpcnnpdbognlaaW.PrintMore Go.Proofs.YtcpcnnpdbognlaaW.PrintLast Go.Proofs.Ytcpcnnpdbognlaa.Bts Go.Proofs.Ytcpcnnpdbognlaa.Fra
set_option maxHeartbeats 2000000 in
theorem same_calls (A B : Option Addr) (c d : Nat) (l : List (List Int)) (w : World) (hA : kF.C w A l.length l) (hB : kF.C w B l.length l) (hl : l.length ≤ 9223372036854775807) :
    Calls Try.prog 29 #[.slice A l.length c, .slice B l.length d] w fun e w' => e = .returned (.bool true) ∧ Below w.heap.size w w' := by
  have HA := Lib.hid hA
  have HB := Lib.hid hB
  clear hA hB
  go_enter Try.func29, Try.ntmps29
  go_wp2
  go_loopw [13] (fun i wr => ∃ j : Nat, j ≤ l.length ∧ i = .int .i64 j ∧ Below w.heap.size w wr) (fun i _ => l.length - (intOf i).toNat)
  case atStart => exact ⟨0, by omega, rfl, Below.refl _ _⟩
  case round =>
    obtain ⟨j, hj, rfl, hW⟩ := hrel
    have HW := Lib.hid hW
    clear hW
    by_cases hlt : j < l.length
    · obtain ⟨x, hx⟩ : ∃ x, l.getD j [] = x := ⟨_, rfl⟩
      obtain ⟨ad, A2, c2, rfl, a0, _, a2⟩ := at_row (Kd.C_below HA.out HW.out) j hlt x hx
      obtain ⟨bd, B2, d2, rfl, b0, _, b2⟩ := at_row (Kd.C_below HB.out HW.out) j hlt x hx
      have cv1 := fun n => conv_C (c := c2) (Kd.C_below a2 (pw_below_drewN (Below.refl wr.heap.size wr) n))
      have cv2 := fun n => conv_C (c := d2) (Kd.C_below b2 (pw_below_drewN (Below.refl wr.heap.size wr) n))
      clear hx a2 b2
      go_wp2
      go_quiet (fail)
      go_wp2
      go_roundw
      case rel => exact ⟨j + 1, by omega, by simp, below_step HW.out (pw_below_drewN (Below.refl _ _) _)⟩
      case measure => simp [intOf]; omega
    · go_wp2
      go_ret
      exact ⟨rfl, HW.out⟩
end Go.Proofs.Ytcpcnnpdbognlaa.Frm
