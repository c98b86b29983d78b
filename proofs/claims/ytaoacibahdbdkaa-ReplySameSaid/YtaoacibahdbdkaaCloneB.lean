/- slices.Clone of bytes: a new row that reads the same. -/
import Derived.Test.YtaoacibahdbdkaaProg
import Derived.Test.YtaoacibahdbdkaaWWords
import Derived.Test.YtaoacibahdbdkaaWLast
import Derived.Test.YtaoacibahdbdkaaWMore
import Derived.Test.YtaoacibahdbdkaaWKept
import Derived.WalkKit
import Derived.WalkSpells
import Derived.OwnWalk
import Derived.KernelRfl
import Derived.Lib.Hide
import Derived.Lib.SliceRun
namespace Go.Proofs.Ytaoacibahdbdkaa.Cl
open Go.RowKit Go Go.Proofs.YtaoacibahdbdkaaW.PrintWords Go.Proofs.YtaoacibahdbdkaaW.PrintMore

theorem infoByte : (Try.prog.info? 5).map (fun i => (i.zero, i.size, i.bytes)) = some (some (.int .u8 0), 1, 1) := by kernel_rfl
/-- A new row of no elements. -/
theorem R_empty (w : World) : (Kd.int .u8).R 5 (w.alloc (.cells #[] 5)) w.heap.size (fun _ => True) (.slice (some ⟨w.heap.size, 0, none⟩) 0 0) [] :=
  ⟨fun _ _ => trivial, [], ⟨rfl, .inr ⟨w.heap.size, 0, #[], rfl, Nat.le_refl _, heap_alloc_new w _, Nat.le_refl _, by unfold maxLen; omega, rfl, rfl⟩⟩, Reps.none _ _⟩
set_option maxHeartbeats 2000000 in
set_option maxRecDepth 100000 in
theorem clone_bytes (A : Option Addr) (c : Nat) (xs : List Int) (w : World) (hC : (Kd.int .u8).C w A xs.length xs) (hl : xs.length ≤ 140737488355328) (hn : A = none → xs = [] ∧ c = 0) :
    Calls Try.prog 93 #[.slice A xs.length c] w fun e w' => ∃ v, e = .returned v ∧ (Kd.int .u8).R 5 w' w.heap.size (fun _ => True) v xs ∧ Below w.heap.size w w' := by
  have eq0 := fun (w : World) (a : Option Addr) (n c : Nat) => Lib.run_eql_slice_nil (P := Try.prog) w 56 5 a n c 0 0 Try.underlying56
  cases A with
  | none =>
    obtain ⟨rfl, rfl⟩ := hn rfl
    go_enter Try.func93, Try.ntmps93
    go_wp2
    go_ret
    exact ⟨_, rfl, Kd.R_nil _ _ _ _ _, Below.refl _ _⟩
  | some ad =>
    have HC := Lib.hid hC
    clear hC hn
    go_enter Try.func93, Try.ntmps93
    go_wp2_with (at_builtin; refine Kd.R_append_rows (Kd.int .u8) (Rr := (Kd.int .u8).K w) (w0 := w) w.heap.size rfl (.tmp 5) (.tmp 6) 56 5 (.int .u8 0) 1 rfl Try.underlying56 infoByte rfl (by decide) (by decide) (.slice (some ⟨w.heap.size, 0, none⟩) 0 0) [] xs (some ad) xs.length c (fun _ => True) (fun k => False) rfl rfl ?r1 ?r2 (fun _ _ h => h) (fun _ h => h.elim) (fun _ _ => trivial) ?r6 ?r7 ?r8 ?_)
    case r1 => exact R_empty w
    case r2 => exact Kd.C_below HC.out (below_alloc (Below.refl _ _) _)
    case r6 => exact below_alloc (Below.refl _ _) _
    case r7 => simp
    case r8 => simp; omega
    intro v1 w1 hR hB _ _
    go_wp2
    go_ret
    exact ⟨_, rfl, hR, hB⟩
/-- A row of whole numbers, read as its cells. -/
theorem own_of_R {k : IntKind} {e : Nat} {w : World} {base : Nat} {ok : Nat → Prop} {v : Value} {xs : List Int} (h : (Kd.int k).R e w base ok v xs) : w.ownsRow base e 1 v xs.length (nums k xs) := by
  obtain ⟨_, cs, ho, hr⟩ := h
  have e1 : cs = nums k xs := by
    apply List.ext_getElem?
    intro j
    rcases Nat.lt_or_ge j xs.length with hj | hj
    · have h1 := hr.2 j xs[j] (List.getElem?_eq_getElem hj)
      have h2 : cs[j]? = some (.int k xs[j]) := by
        have h3 : (List.take 1 (List.drop (j * 1) cs)) = [.int k xs[j]] := h1
        have h4 : (List.take 1 (List.drop (j * 1) cs))[0]? = cs[j]? := by simp [List.getElem?_take]
        rw [← h4, h3]; rfl
      rw [h2]; simp [nums, hj]
    · have h1 : cs.length = xs.length * 1 := hr.1
      rw [List.getElem?_eq_none (by omega), List.getElem?_eq_none (by rw [nums_length]; exact hj)]
  subst e1
  exact ho
end Go.Proofs.Ytaoacibahdbdkaa.Cl
