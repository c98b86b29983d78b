/- packed.Reader: texts, values, and what is wrong, as contracts. -/
import Derived.Test.YtaoacibahdbdkaaPackR
import Derived.Lib.ConvBytes
namespace Go.Proofs.Ytaoacibahdbdkaa.Pr
open Go.RowKit Go Go.Proofs.YtaoacibahdbdkaaW.PrintWords Go.Proofs.YtaoacibahdbdkaaW.PrintMore Go.Proofs.Ytaoacibahdbdkaa.Bts Go.Proofs.Ytaoacibahdbdkaa.Pk Go.Proofs.Ytaoacibahdbdkaa.Fra

theorem failed_calls (B g : Nat) (xs : List Int) (f : Int) (w : World) (h : Rd w B g xs f) :
    Calls Try.prog 36 #[.pointer (some ⟨g, 0, none⟩)] w fun e w' => e = .returned (.int .i64 f) ∧ w = w' := by
  obtain ⟨A, c, hg, hb, hA⟩ := h
  have hc1 : w.cell? ⟨g, 1, none⟩ = some (.int .i64 f) := blk_cell hg 1
  go_enter Try.func36, Try.ntmps36
  go_wp2
  go_ret
  exact ⟨rfl, rfl⟩
theorem left_calls (B g : Nat) (xs : List Int) (f : Int) (w : World) (h : Rd w B g xs f) :
    Calls Try.prog 35 #[.pointer (some ⟨g, 0, none⟩)] w fun e w' => e = .returned (.int .i64 xs.length) ∧ w = w' := by
  obtain ⟨A, c, hg, hb, hA⟩ := h
  have hc0 : w.cell? ⟨g, 0, none⟩ = some (.slice A xs.length c) := blk_cell hg 0
  go_enter Try.func35, Try.ntmps35
  go_wp2
  go_ret
  exact ⟨rfl, rfl⟩
/-- What was wrong first; 12, if bytes are left. -/
def endP (xs : List Int) (f : Int) : Int := if f = 0 then (if xs = [] then 0 else 12) else f
set_option maxHeartbeats 1000000 in
theorem end_calls (B g : Nat) (xs : List Int) (f : Int) (w : World) (h : Rd w B g xs f) :
    Calls Try.prog 37 #[.pointer (some ⟨g, 0, none⟩)] w fun e w' => e = .returned (.int .i64 (endP xs f)) ∧ w = w' := by
  have H := Lib.hid h
  obtain ⟨A, c, hg, hb, hA⟩ := h
  have hc0 : w.cell? ⟨g, 0, none⟩ = some (.slice A xs.length c) := blk_cell hg 0
  clear hg hb hA
  by_cases f0 : f = 0
  · subst f0
    by_cases x0 : xs = []
    · subst x0
      go_enter Try.func37, Try.ntmps37
      go_wp2_with (go_at_call 36; refine (failed_calls B g _ _ _ H.out).mono ?_; rintro e w1 ⟨rfl, rfl⟩)
      go_ret
      exact ⟨rfl, rfl⟩
    · have hl : 0 < xs.length := List.length_pos_iff.2 x0
      have b1 : decide ((0 : Int) < (xs.length : Int)) = true := by simp; omega
      go_enter Try.func37, Try.ntmps37
      go_wp2_with (go_at_call 36; refine (failed_calls B g _ _ _ H.out).mono ?_; rintro e w1 ⟨rfl, rfl⟩)
      go_ret
      exact ⟨by unfold endP; rw [if_pos rfl, if_neg x0]; rfl, rfl⟩
  · have b0 : (f == 0) = false := by rw [beq_eq_false_iff_ne]; exact f0
    go_enter Try.func37, Try.ntmps37
    go_wp2_with (go_at_call 36; refine (failed_calls B g _ _ _ H.out).mono ?_; rintro e w1 ⟨rfl, rfl⟩)
    go_ret
    exact ⟨by unfold endP; rw [if_neg f0]; rfl, rfl⟩
/-- Bytes, at most so many. -/
def textP (xs : List Int) (f most : Int) : List Int × List Int × Int :=
  let t := takeP xs f 2
  takeP t.2.1 (if t.2.2 = 0 ∧ most < numB t.1 then 12 else t.2.2) (numB t.1).toNat
theorem takeP_wrong (xs : List Int) (f : Int) (n : Nat) (h : (takeP xs f n).2.2 ≠ 0) : (takeP xs f n).1 = [] := by
  unfold takeP at *
  split
  · rename_i h0
    rw [if_pos h0] at h
    split
    · rfl
    · rename_i h1; rw [if_neg h1] at h; exact absurd rfl h
  · rfl
theorem takeP_left (xs : List Int) (f : Int) (n : Nat) : (takeP xs f n).2.1.length ≤ xs.length := by
  unfold takeP; split
  · split
    · simp
    · simp
  · simp
set_option maxHeartbeats 4000000 in
set_option maxRecDepth 100000 in
theorem text_calls (B g : Nat) (xs : List Int) (f most : Int) (w : World) (h : Rd w B g xs f) (hl : xs.length ≤ 140737488355328) (hbs : Bs xs) :
    Calls Try.prog 33 #[.pointer (some ⟨g, 0, none⟩), .int .i64 most] w fun e w' => e = .returned (.string (strOfNums (textP xs f most).1)) ∧ Rd w' B g (textP xs f most).2.1 (textP xs f most).2.2 ∧ Fr (· = g) w w' := by
  have H := Lib.hid h
  clear h
  have hs2 : sizeP 2 = 2 := rfl
  have htl := takeP_len xs f 2
  have htb := (takeP_bs hbs f 2).1
  have htf := takeP_left xs f 2
  have hdef : textP xs f most = takeP (takeP xs f 2).2.1 (if (takeP xs f 2).2.2 = 0 ∧ most < numB (takeP xs f 2).1 then 12 else (takeP xs f 2).2.2) (numB (takeP xs f 2).1).toNat := rfl
  have hnum := number_calls B g xs f 2 w H.out hl hbs
  rw [hs2] at hnum
  rw [hdef]
  clear hdef
  generalize ht : takeP xs f 2 = t at *
  obtain ⟨bs, ys, f1⟩ := t
  simp only at htl htb htf hnum ⊢
  have hn1 := numB_nn bs htb
  have hn2 : (256 : Int) ^ bs.length ≤ 65536 := by
    have : bs.length = 0 ∨ bs.length = 1 ∨ bs.length = 2 := by omega
    rcases this with e | e | e <;> rw [e] <;> decide
  obtain ⟨nn, hnn⟩ : ∃ nn : Nat, numB bs = nn := ⟨(numB bs).toNat, by omega⟩
  rw [hnn] at hnum hn1 ⊢
  rw [Int.toNat_natCast]
  have hw : IntKind.i64.wrap (nn : Int) = nn := by rw [IntKind.wrap_i64]; omega
  have NUM := Lib.hid hnum
  clear hnum ht hnn
  have hyl : ys.length ≤ 140737488355328 := by omega
  by_cases f0 : f1 = 0
  · subst f0
    by_cases hm : most < nn
    · rw [if_pos ⟨rfl, hm⟩]
      go_enter Try.func33, Try.ntmps33
      go_wp2_with (first
        | (go_at_call 32; refine NUM.out.mono ?_; rintro e w1 ⟨rfl, hr, hf⟩; have hc1 := hr.cell1; have hf1 := hr.frozen1)
        | (go_at_call 36; refine (failed_calls B g _ _ _ hr).mono ?_; rintro e w2 ⟨rfl, rfl⟩)
        | (go_at_call 74; refine (take_calls B g ys 12 nn _ (hr.fail 12) hyl).mono ?_; rintro e w3 ⟨v, rfl, hb, hr3, hf3⟩; obtain ⟨A, c, rfl, hc, hn, hC⟩ := hb.C (by have := takeP_len ys 12 nn; omega); have hstr := Kd.C_string (c := c) (src := 56) (dst := 9) (e := 5) Try.underlying56 Try.underlying5 Try.underlying9 hC))
      go_ret
      exact ⟨rfl, hr3, (hf.trans (Fr.set g 1 _)).trans hf3⟩
    · rw [if_neg (fun h => hm h.2)]
      have bm : decide (most < (nn : Int)) = false := by rw [decide_eq_false_iff_not]; exact hm
      go_enter Try.func33, Try.ntmps33
      go_wp2_with (first
        | (go_at_call 32; refine NUM.out.mono ?_; rintro e w1 ⟨rfl, hr, hf⟩)
        | (go_at_call 36; refine (failed_calls B g _ _ _ hr).mono ?_; rintro e w2 ⟨rfl, rfl⟩)
        | (go_at_call 74; refine (take_calls B g ys 0 nn _ hr hyl).mono ?_; rintro e w3 ⟨v, rfl, hb, hr3, hf3⟩; obtain ⟨A, c, rfl, hc, hn, hC⟩ := hb.C (by have := takeP_len ys 0 nn; omega); have hstr := Kd.C_string (c := c) (src := 56) (dst := 9) (e := 5) Try.underlying56 Try.underlying5 Try.underlying9 hC))
      go_ret
      exact ⟨rfl, hr3, hf.trans hf3⟩
  · rw [if_neg (fun h => f0 h.1)]
    have b0 : (f1 == 0) = false := by rw [beq_eq_false_iff_ne]; exact f0
    go_enter Try.func33, Try.ntmps33
    go_wp2_with (first
      | (go_at_call 32; refine NUM.out.mono ?_; rintro e w1 ⟨rfl, hr, hf⟩)
      | (go_at_call 36; refine (failed_calls B g _ _ _ hr).mono ?_; rintro e w2 ⟨rfl, rfl⟩)
      | (go_at_call 74; refine (take_calls B g ys f1 nn _ hr hyl).mono ?_; rintro e w3 ⟨v, rfl, hb, hr3, hf3⟩; obtain ⟨A, c, rfl, hc, hn, hC⟩ := hb.C (by have := takeP_len ys f1 nn; omega); have hstr := Kd.C_string (c := c) (src := 56) (dst := 9) (e := 5) Try.underlying56 Try.underlying5 Try.underlying9 hC))
    go_ret
    exact ⟨rfl, hr3, hf.trans hf3⟩
end Go.Proofs.Ytaoacibahdbdkaa.Pr
