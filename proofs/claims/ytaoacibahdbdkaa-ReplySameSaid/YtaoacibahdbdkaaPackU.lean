/- packed.Reader.Value: its kinds and ends in one contract. -/
import Derived.Test.YtaoacibahdbdkaaPackT
namespace Go.Proofs.Ytaoacibahdbdkaa.Pr
open Go.RowKit Go Go.Proofs.YtaoacibahdbdkaaW.PrintWords Go.Proofs.YtaoacibahdbdkaaW.PrintMore Go.Proofs.Ytaoacibahdbdkaa.Bts Go.Proofs.Ytaoacibahdbdkaa.Pk Go.Proofs.Ytaoacibahdbdkaa.Fra Go.Proofs.Ytaoacibahdbdkaa.QPackedPuts

/-- The value of a middle state. -/
def endV (m : Int × Int × ByteArray × List Int × Int) : (Int × Int × ByteArray) × List Int × Int :=
  let f' := if m.2.2.2.2 = 0 ∧ rightV m.1 m.2.1 m.2.2.1 = false then 10 else m.2.2.2.2
  (if f' = 0 then (m.1, m.2.1, m.2.2.1) else (0, 0, ByteArray.empty), m.2.2.2.1, f')
theorem valueP_eq (xs : List Int) (f : Int) : valueP xs f = endV (valM xs f) := rfl
abbrev ValPost (B g : Nat) (w : World) (r : (Int × Int × ByteArray) × List Int × Int) (e : Ending) (w' : World) : Prop :=
  e = .returned (.agg #[.int .u8 r.1.1, .int .i64 r.1.2.1, .string r.1.2.2]) ∧ Rd w' B g r.2.1 r.2.2 ∧ Fr (· = g) w w'
theorem end_ok {k n : Int} {s : ByteArray} {zf : List Int × Int} (h0 : zf.2 = 0) (hr : rightV k n s = true) : endV (k, n, s, zf) = ((k, n, s), zf.1, 0) := by
  unfold endV; simp [h0, hr]
theorem end_form {k n : Int} {s : ByteArray} {zf : List Int × Int} (h0 : zf.2 = 0) (hr : rightV k n s = false) : endV (k, n, s, zf) = ((0, 0, ByteArray.empty), zf.1, 10) := by
  unfold endV; simp [h0, hr]
theorem end_bad {k n : Int} {s : ByteArray} {zf : List Int × Int} (h0 : zf.2 ≠ 0) : endV (k, n, s, zf) = ((0, 0, ByteArray.empty), zf.1, zf.2) := by
  unfold endV; simp [h0]
theorem value_reads (B g : Nat) (xs : List Int) (f : Int) (w : World) (h : Rd w B g xs f) (hB : B ≤ w.heap.size) (hl : xs.length ≤ 140737488355328) (hbs : Bs xs) :
    Calls Try.prog 34 #[.pointer (some ⟨g, 0, none⟩)] w (ValPost B g w (valueP xs f)) := by
  rw [valueP_eq]
  unfold valM
  have htl := takeP_len xs f 1
  have htb := (takeP_bs hbs f 1).1
  have hn1 := numB_nn _ htb
  have hn2 : (256 : Int) ^ (takeP xs f 1).1.length ≤ 256 := by
    have : (takeP xs f 1).1.length = 0 ∨ (takeP xs f 1).1.length = 1 := by omega
    rcases this with e | e <;> rw [e] <;> decide
  by_cases k1 : numB (takeP xs f 1).1 = 1
  · simp only [k1, if_true]
    by_cases f0 : (takeP (takeP xs f 1).2.1 (takeP xs f 1).2.2 1).2.2 = 0
    · cases hr : rightV 1 (wrap64 (numB (takeP (takeP xs f 1).2.1 (takeP xs f 1).2.2 1).1)) ByteArray.empty
      · rw [end_form f0 hr]
        exact value_1_form B g xs f w h hB hl hbs k1 (takeP xs f 1).2.1 (takeP xs f 1).2.2 rfl (takeP (takeP xs f 1).2.1 (takeP xs f 1).2.2 1).2 rfl f0 hr
      · rw [end_ok f0 hr]
        exact value_1_ok B g xs f w h hB hl hbs k1 (takeP xs f 1).2.1 (takeP xs f 1).2.2 rfl (takeP (takeP xs f 1).2.1 (takeP xs f 1).2.2 1).2 rfl f0 hr
    · rw [end_bad f0]
      exact value_1_bad B g xs f w h hB hl hbs k1 (takeP xs f 1).2.1 (takeP xs f 1).2.2 rfl (takeP (takeP xs f 1).2.1 (takeP xs f 1).2.2 1).2 rfl f0
  · simp only [if_neg k1]
    by_cases k2 : numB (takeP xs f 1).1 = 2
    · rw [if_pos k2, k2]
      by_cases f0 : (takeP (takeP xs f 1).2.1 (takeP xs f 1).2.2 8).2.2 = 0
      · cases hr : rightV 2 (wrap64 (numB (takeP (takeP xs f 1).2.1 (takeP xs f 1).2.2 8).1)) ByteArray.empty
        · rw [end_form f0 hr]
          exact value_2_form B g xs f w h hB hl hbs k2 (takeP xs f 1).2.1 (takeP xs f 1).2.2 rfl (takeP (takeP xs f 1).2.1 (takeP xs f 1).2.2 8).2 rfl f0 hr
        · rw [end_ok f0 hr]
          exact value_2_ok B g xs f w h hB hl hbs k2 (takeP xs f 1).2.1 (takeP xs f 1).2.2 rfl (takeP (takeP xs f 1).2.1 (takeP xs f 1).2.2 8).2 rfl f0 hr
      · rw [end_bad f0]
        exact value_2_bad B g xs f w h hB hl hbs k2 (takeP xs f 1).2.1 (takeP xs f 1).2.2 rfl (takeP (takeP xs f 1).2.1 (takeP xs f 1).2.2 8).2 rfl f0
    · rw [if_neg k2]
      by_cases k3 : numB (takeP xs f 1).1 = 3
      · rw [if_pos k3, k3]
        by_cases f0 : (textP (takeP xs f 1).2.1 (takeP xs f 1).2.2 4096).2.2 = 0
        · cases hr : rightV 3 0 (strOfNums (textP (takeP xs f 1).2.1 (takeP xs f 1).2.2 4096).1)
          · rw [end_form f0 hr]
            exact value_3_form B g xs f w h hB hl hbs k3 (takeP xs f 1).2.1 (takeP xs f 1).2.2 rfl (textP (takeP xs f 1).2.1 (takeP xs f 1).2.2 4096).2 rfl f0 hr
          · rw [end_ok f0 hr]
            exact value_3_ok B g xs f w h hB hl hbs k3 (takeP xs f 1).2.1 (takeP xs f 1).2.2 rfl (textP (takeP xs f 1).2.1 (takeP xs f 1).2.2 4096).2 rfl f0 hr
        · rw [end_bad f0]
          exact value_3_bad B g xs f w h hB hl hbs k3 (takeP xs f 1).2.1 (takeP xs f 1).2.2 rfl (textP (takeP xs f 1).2.1 (takeP xs f 1).2.2 4096).2 rfl f0
      · rw [if_neg k3]
        by_cases f0 : (takeP xs f 1).2.2 = 0
        · cases hr : rightV (numB (takeP xs f 1).1) 0 ByteArray.empty
          · rw [end_form f0 hr]
            exact value_0_form B g xs f w h hB hl hbs _ rfl (by omega) (by omega) k1 k2 k3 (takeP xs f 1).2.1 (takeP xs f 1).2.2 rfl ((takeP xs f 1).2.1, (takeP xs f 1).2.2) rfl f0 hr
          · rw [end_ok f0 hr]
            exact value_0_ok B g xs f w h hB hl hbs _ rfl (by omega) (by omega) k1 k2 k3 (takeP xs f 1).2.1 (takeP xs f 1).2.2 rfl ((takeP xs f 1).2.1, (takeP xs f 1).2.2) rfl f0 hr
        · rw [end_bad f0]
          exact value_0_bad B g xs f w h hB hl hbs _ rfl (by omega) (by omega) k1 k2 k3 (takeP xs f 1).2.1 (takeP xs f 1).2.2 rfl ((takeP xs f 1).2.1, (takeP xs f 1).2.2) rfl f0
end Go.Proofs.Ytaoacibahdbdkaa.Pr
