/- hash: the number of a value, and of values, as contracts. -/
import Derived.Test.YtaoacibahdbdkaaHashPure
import Derived.Test.YtaoacibahdbdkaaPackP
namespace Go.Proofs.Ytaoacibahdbdkaa.Hsh
open Go.RowKit Go Go.Proofs.YtaoacibahdbdkaaW.PrintWords Go.Proofs.YtaoacibahdbdkaaW.PrintMore Go.Proofs.YtaoacibahdbdkaaW.PrintLast Go.Proofs.Ytaoacibahdbdkaa.Bts Go.Proofs.Ytaoacibahdbdkaa.Fra Go.Proofs.Ytaoacibahdbdkaa.Pk Go.Proofs.Ytaoacibahdbdkaa.Pr
/-- A value's number. -/
def ofI (seed k n : Int) (s : ByteArray) : Int := mixI (bytesI seed (valB k n s))
theorem of_nil (v : Value) (hv : ∃ a b c, v = .agg #[a, b, c]) (w : World) : Calls Try.prog 42 #[.pointer none, v] w fun e w' => e = .returned (.int .u64 0) ∧ Below w.heap.size w w' := by
  obtain ⟨a, b, c, rfl⟩ := hv
  go_enter Try.func42, Try.ntmps42
  go_wp2
  go_ret
  exact ⟨rfl, below_alloc (Below.refl _ _) _⟩
theorem all_nil (v : Value) (w : World) : Calls Try.prog 44 #[.pointer none, v] w fun e w' => e = .returned (.int .u64 0) ∧ w = w' := by
  go_enter Try.func44, Try.ntmps44
  go_wp2
  go_ret
  exact ⟨rfl, rfl⟩
set_option maxHeartbeats 4000000 in
set_option maxRecDepth 100000 in
theorem of_calls (g : Nat) (seed k n : Int) (s : ByteArray) (w : World) (h : Hr w g seed) (hk0 : 0 ≤ k) (hk1 : k ≤ 255) (hs : s.size ≤ 35184372088832) :
    Calls Try.prog 42 #[.pointer (some ⟨g, 0, none⟩), .agg #[.int .u8 k, .int .i64 n, .string s]] w fun e w' => e = .returned (.int .u64 (ofI seed k n s)) ∧ Hr w' g seed ∧ Fr (· = g) w w' := by
  have hlt := h.lt
  have hne : ¬ w.heap.size = g := by omega
  have H := Lib.hid (h.below (below_alloc (Below.refl _ _) (.cells #[.int .u8 k, .int .i64 n, .string s] 54)))
  have hvl := valB_len k n s
  clear h
  go_enter Try.func42, Try.ntmps42
  go_wp2_with (first
    | (go_at_call 77; go_loud (refine (start_calls g seed _ H.out).mono ?_; rintro e w1 ⟨rfl, h1, hF1⟩; have hv := hF1.blk (blk_new w _) hne; have c0 := blk_cell hv 0; have c1 := blk_cell hv 1; have c2 := blk_cell hv 2; have H1 := Lib.hid h1; have HF1 := Lib.hid ((Fr.alloc (S := (· = g)) _).trans hF1); clear h1 hF1 hv))
    | (go_at_call 69; go_loud (refine (value_calls _ [] k n s _ (SlR.nil _ _) hk0 hk1 (by decide) hs).mono ?_; rintro e w2 ⟨v2, rfl, hM⟩; have hb := hM.byt; rw [List.nil_append] at hb; obtain ⟨A, c, rfl, hc, hn, hC⟩ := hb.C (by omega); have HF2 := Lib.hid (HF1.out.more hM.2); have H2 := Lib.hid (H1.out.below hM.2); clear hM hb)))
  go_loopw [5, 15] (fun v i wr => ∃ j : Nat, j ≤ (valB k n s).length ∧ i = .int .i64 j ∧ v = .int .u64 (bytesI seed ((valB k n s).take j)) ∧ wr = w2) (fun _ i _ => (valB k n s).length - (intOf i).toNat)
  case atStart => exact ⟨0, by omega, rfl, rfl, rfl⟩
  case round =>
    obtain ⟨j, hj, rfl, rfl, rfl⟩ := hrel
    by_cases hl : j < (valB k n s).length
    · obtain ⟨ad, rfl, hx⟩ := Kd.at_int hC (j : Int) (by omega) (by omega)
      rw [Int.toNat_natCast] at hx
      go_wp2
      go_roundw
      case rel =>
        refine ⟨j + 1, by omega, by simp, ?_, trivial⟩
        have ht := List.take_append_getElem (l := valB k n s) (i := j) hl
        have hrd : rd (valB k n s) (j : Int) = (valB k n s)[j] := by simp [rd, hl]
        rw [← ht, bytesI_snoc, hrd]
        rfl
      case measure => simp [intOf]; omega
    · have hbd := bytesI_bd seed ((valB k n s).take j)
      have HBD := Lib.hid hbd
      clear hbd
      go_wp2_with (go_at_call 29; refine (mix_calls _ _ HBD.out.1 HBD.out.2).mono ?_; rintro e w3 ⟨rfl, rfl⟩)
      go_ret
      obtain rfl : j = (valB k n s).length := by omega
      rw [List.take_length]
      exact ⟨rfl, H2.out, HF2.out⟩
end Go.Proofs.Ytaoacibahdbdkaa.Hsh
