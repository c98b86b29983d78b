/- Texts of this claim, laid together: ReqK. -/
import Derived.Test.YtaoacibahdbdkaaOe
import Derived.Test.YtaoacibahdbdkaaOf
import Derived.Test.YtaoacibahdbdkaaOg
import Derived.Test.YtaoacibahdbdkaaOh
import Derived.Test.YtaoacibahdbdkaaOc
/-! request: the chapter's example, and the reference's Parse in one contract. Printed by wip/tools/gen_reqk.py. -/
namespace Go.Proofs.Ytaoacibahdbdkaa.Req
open Go.RowKit Go Go.Proofs.Ytaoacibahdbdkaa.QRequestParses Go.Proofs.YtaoacibahdbdkaaW.PrintWords Go.Proofs.YtaoacibahdbdkaaW.PrintLast Go.Proofs.YtaoacibahdbdkaaW.PrintMore Go.Proofs.Ytaoacibahdbdkaa.Fra Go.Proofs.Ytaoacibahdbdkaa.Pk Go.Proofs.Ytaoacibahdbdkaa.Bts Go.Proofs.Ytaoacibahdbdkaa.Pr Go.Proofs.Ytaoacibahdbdkaa.Rep
attribute [local go_sem] is_req_new is_ref_new World.setRow_alloc_new store_req run_loadAll ofRow_some rowOf_alloc rowOf_drew rowOf_new
attribute [local go_sem high] all_req
attribute [local go_sem ↓ high] all_load
theorem reqP_12 : reqP [1, 2] = ({k := 1, o := 2}, 0) := by rfl
set_option maxHeartbeats 2000000 in
set_option maxRecDepth 100000 in
theorem lives_calls (w : World) : Calls Try.prog 54 #[] w fun e w' => e = .returned (.bool true) ∧ Below w.heap.size w w' := by
  have HP := Lib.hid (show Calls Try.prog 55 #[.slice (some ⟨w.heap.size, 0, none⟩) 2 2] (w.alloc (.cells #[.int .u8 1, .int .u8 2] 5)) _ from parse_calls _ [1, 2] _ (SlR.of_own (own_lit w w.heap.size 5 .u8 [1, 2] (Nat.le_refl _) (by simp))) (by simp) (by intro x hx; simp at hx; omega))
  go_enter Try.func54, Try.ntmps54
  go_wp2_with (go_at_call 55; go_loud (refine HP.out.mono ?_; rw [reqP_12]; rintro e w1 ⟨rfl, hB1⟩; have HB1 := Lib.hid (below_step (below_alloc (Below.refl w.heap.size w) _) hB1); clear hB1))
  go_ret
  exact ⟨rfl, below_alloc HB1.out _⟩
theorem ref_calls (A0 : Option Addr) (c0 : Nat) (xs0 : List Int) (w : World) (hv : Byt w (.slice A0 xs0.length c0) xs0) (hlt : ∀ ad, A0 = some ad → 0 < xs0.length → ad.block < w.heap.size) (hl : xs0.length ≤ 100000) (hb : Bs xs0) :
    Calls Try.prog 56 #[.slice A0 xs0.length c0] w (RefP w xs0) := by
  obtain ⟨bs, ys, f1, ht⟩ : ∃ a b c, takeP xs0 0 1 = (a, b, c) := ⟨_, _, _, rfl⟩
  by_cases hf : f1 = 0
  · subst hf
    obtain ⟨k, hk⟩ : ∃ k, numB bs = k := ⟨_, rfl⟩
    cases hok : okK k
    · exact ref_none A0 c0 xs0 w hv hlt hl hb bs ys k ht hk hok
    · unfold okK at hok
      simp only [Bool.and_eq_true, decide_eq_true_eq] at hok
      rcases (by omega : k = 1 ∨ k = 2 ∨ k = 3 ∨ k = 5 ∨ k = 7 ∨ k = 8 ∨ (k = 4 ∨ k = 6 ∨ k = 9 ∨ k = 10)) with h | h | h | h | h | h | h
      · exact ref_1 A0 c0 xs0 w hv hlt hl hb bs ys ht (hk.trans h)
      · exact ref_2 A0 c0 xs0 w hv hlt hl hb bs ys ht (hk.trans h)
      · exact ref_3 A0 c0 xs0 w hv hlt hl hb bs ys ht (hk.trans h)
      · exact ref_5 A0 c0 xs0 w hv hlt hl hb bs ys ht (hk.trans h)
      · exact ref_7 A0 c0 xs0 w hv hlt hl hb bs ys ht (hk.trans h)
      · exact ref_8 A0 c0 xs0 w hv hlt hl hb bs ys ht (hk.trans h)
      · exact ref_4 A0 c0 xs0 w hv hlt hl hb bs ys k ht hk h
  · exact ref_fail A0 c0 xs0 w hv hlt hl hb bs ys f1 ht hf
theorem ok_zero : Ok {} := by
  have e0 : ((⟨#[]⟩ : ByteArray).size) = 0 := rfl
  constructor <;> dsimp only <;> omega
theorem reqP_zero {xs : List Int} {q : Q} {e : Int} (h : reqP xs = (q, e)) (he : e ≠ 0) : q = {} := by
  unfold reqP at h
  dsimp only at h
  split at h
  · simp only [Prod.mk.injEq] at h; exact h.1.symm
  · split at h
    · simp only [Prod.mk.injEq] at h; exact absurd h.2.symm he
    · simp only [Prod.mk.injEq] at h; exact h.1.symm
theorem reqP_Ok {xs : List Int} {q : Q} {e : Int} (hb : Bs xs) (h : reqP xs = (q, e)) : Ok q := by
  by_cases he : e = 0
  · subst he; exact (reqP_ok hb h).2.2.2.1
  · rw [reqP_zero h he]; exact ok_zero
end Go.Proofs.Ytaoacibahdbdkaa.Req
