/- A range over a method value: the statement, where the iterator's function gives a list that is told. -/
import Derived.RangeFuncNested
import Derived.RangeFuncBound
import Derived.RangeFuncCalls
import Derived.RangeFuncLeaves
import Derived.Test.YtnipbfhfaefieaaDgP
namespace Go.Proofs.Ytnipbfhfaefieaa.Dig
open Go.RowKit Go
section
variable {F : Fence} {n : Nat} {P : Program}
/-- The iterator g, at first arguments lf, gives the list xs, or a first part of it. -/
def Gives {α : Type} (F : Fence) (n : Nat) (P : Program) (g : Nat) (lf : Array Value) (encs : α → Array Value) (xs : List α) : Prop :=
  ∀ (l : Nat) (J Jx : List α → World → Prop) (W : World), AbidesFrom W.heap.size J → AbidesFrom W.heap.size Jx →
    (∀ pre x post W1, xs = pre ++ x :: post → J pre W1 → YieldAt F (n - 1) P l (encs x) W1 fun e W' => (e = .returned (.bool true) ∧ J (pre ++ [x]) W') ∨ (e = .returned (.bool false) ∧ Jx (pre ++ [x]) W')) →
    J [] W → CallsIn F n P g (lf ++ #[.func (.yield l) #[] #[]]) W fun e W' => (∃ v, e = .returned v) ∧ (J xs W' ∨ ∃ pre, Jx pre W')
/-- What is pending when a round's body is left so. -/
def jumpOf : Exit → Option (Option Code)
  | .normal => some none
  | .ret => some (some .ret)
  | .exit id => some (some (.exit id))
  | .goto t => some (some (.goto t))
  | .panic _ => none
  | .outgrown => none
/-- How a body may be left. -/
def leftBy {α : Type} (I : List α → World → Prop) (Ix : Code → List α → World → Prop) (xs : List α) (W : World) : Exit → Act → World → Prop := fun e _ W' => ∃ j, jumpOf e = some j ∧ KeepsOthers W W' ∧ match j with
  | none => I xs W'
  | some c => Ix c xs W'
theorem round_of {l : Nat} {R : Ending → World → Prop} {e : Exit} {j : Option Code} {a : Act} {w : World} (h : jumpOf e = some j) (hr : ∃ v w', (Instr.endRound l j).run P w = .ok v w' ∧ R (.returned v) w') : roundPost P l R e a w := by
  cases e <;> cases h <;> exact hr
/-- The loop's record, and the block for its rounds' deferred calls. -/
def Laid (B : Nat) (rec : LoopState → Option Code → Loop) (s : LoopState) (j : Option Code) (W : World) : Prop := W.heap[B + 1]? = some (.loop (rec s j)) ∧ W.heap[B]? = some (.deferred (some []))
theorem Laid.own {B C : Nat} {rec : LoopState → Option Code → Loop} {s : LoopState} {j : Option Code} {A A' : World} {row : Option Nat} (h : Laid B rec s j A) (hg : A.grownBy A' row) (hr : ∀ r, row = some r → C ≤ r ∧ ∃ o : Obj, A.heap[r]? = some o ∧ o.isWalk = true) : Laid B rec s j A' :=
  ⟨(grownBy_keeps hg (fun r e => (hr r e).2) h.1 rfl).trans h.1, (grownBy_keeps hg (fun r e => (hr r e).2) h.2 rfl).trans h.2⟩
theorem Laid.put {B : Nat} {rec : LoopState → Option Code → Loop} {s s' : LoopState} {j j' : Option Code} {A : World} (h : Laid B rec s j A) : Laid B rec s' j' (A.putObj (B + 1) (.loop (rec s' j'))) :=
  ⟨World.putObj_heap_same (Array.getElem?_eq_some_iff.1 h.1).1, (World.putObj_heap_other (by omega)).trans h.2⟩
theorem range_of {α : Type} {g : Operand} {ps : Array Tmp} {assign body : Code} {Q : Exit → Act → World → Prop} {a : Act} {w : World}
    (hro : F.round = none) (h1 : 1 ≤ n) {gf : Nat} {lf : Array Value} (hg : a.eval g = .func (.func gf) lf #[]) (hFg : F.fn gf) (eg : ∀ args w, (callFunc gf args).run P w = .ok (.enter gf args) w)
    {encs : α → Array Value} {xs : List α} (hs : Gives F (n - 1) P gf lf encs xs) (hps : ∀ x, (encs x).size = ps.size)
    (I : List α → World → Prop) (Ix : Code → List α → World → Prop) (hI : OwnFrom w.heap.size I) (hIx : ∀ c, OwnFrom w.heap.size (Ix c)) (h0 : I [] w) (a₁ : α → Act)
    (hassign : ∀ (l : Nat) (x : α) (W : World) (K : Act → World → Prop), K (a₁ x) W → assign.wpIn (F.inRound l) (n - 1 - 1) P (Exit.then K (fun _ _ _ => False)) { tmps := (ps.zip (encs x)).foldl (fun t (p, v) => t.setIfInBounds p v) a.tmps, defers := [] } W)
    (hbody : ∀ (l : Nat) (pre : List α) (x : α) (post : List α) (W : World), xs = pre ++ x :: post → I pre W → body.wpIn (F.inRound l) (n - 1 - 1) P (leftBy I Ix (pre ++ [x]) W) (a₁ x) W)
    (hdone : ∀ (D : Nat) (W : World), w.heap.size ≤ D → I xs W → W.heap[D]? = some (.deferred (some [])) → Q .normal { a with defers := { target := .collected D, args := #[] } :: a.defers } W)
    (hstop : ∀ (D : Nat) (c : Code) (pre : List α) (W : World), w.heap.size ≤ D → Ix c pre W → W.heap[D]? = some (.deferred (some [])) → c.wpIn F n P Q { a with defers := { target := .collected D, args := #[] } :: a.defers } W) :
    (Code.rangeFunc g ps assign body).wpIn F n P Q a w := by
  refine wpIn_rangeFunc (fun fn hfn => ?_)
  rw [hro]
  obtain ⟨B, hB⟩ : ∃ B, w.heap.size = B := ⟨_, rfl⟩
  obtain ⟨rec, hrec⟩ : ∃ rec : LoopState → Option Code → Loop, rec = fun s j => { state := s, pending := j, fn, tmps := a.tmps, params := ps, assign, body, defers := B } := ⟨_, rfl⟩
  obtain ⟨W1, hW1⟩ : ∃ W1, (w.alloc (.deferred (some []))).alloc (.loop (rec .ready none)) = W1 := ⟨_, rfl⟩
  have hz1 : W1.heap.size = B + 2 := by rw [← hW1, World.size_alloc, World.size_alloc, hB]
  have hL : Laid B rec .ready none W1 := by
    rw [← hW1, ← hB]
    have h2 := World.alloc_heap_new (w.alloc (.deferred (some []))) (.loop (rec .ready none))
    rw [World.size_alloc] at h2
    exact ⟨h2, (Below.heap_alloc _ _ _ (by simp)).trans (World.alloc_heap_new w _)⟩
  have hI1 : I [] W1 := by rw [← hW1]; exact hI.alloc _ (hI.alloc _ h0)
  rw [hB] at hI hIx hdone hstop
  refine ⟨B + 1, [{ target := .collected B, args := #[] }], W1, { target := .fn (.func gf) #[], args := lf ++ #[.func (.yield (B + 1)) #[] #[]] }, W1, gf, lf ++ #[.func (.yield (B + 1)) #[] #[]], W1, ?_, ?_, ?_, ?_, fun _ => h1, ?_⟩
  · rw [← hW1, hrec, ← hB]
    exact run_enterLoop_outer _ _ _ _ _
  · simp only [resolve, hg]
    simp [go_sem]
  · intro f' hf'
    simp [Target.leads] at hf'
    subst hf'
    exact hFg
  · simp [invoke, go_sem, eg]
  · have hnc : ∀ {A : World} {row : Option Nat}, (∀ r, row = some r → W1.heap.size ≤ r ∧ ∃ o : Obj, A.heap[r]? = some o ∧ o.isWalk = true) → ∀ r, row = some r → B ≤ r ∧ ∃ o : Obj, A.heap[r]? = some o ∧ o.isCells = false := fun hr r e => by
      obtain ⟨hb, o, ho, hw⟩ := hr r e
      exact ⟨by omega, o, ho, Obj.not_cells_of_walk hw⟩
    refine (hs (B + 1) (fun pre W => I pre W ∧ Laid B rec .ready none W) (fun pre W => ∃ c, Ix c pre W ∧ Laid B rec .done (some c) W) W1 (fun s A A' row h hgr hr => ⟨hI s A A' row h.1 hgr (hnc hr), h.2.own hgr hr⟩) (fun s A A' row h hgr hr => ?_) ?_ ⟨hI1, hL⟩).mono ?_
    · obtain ⟨c, hc, hl⟩ := h
      exact ⟨c, hIx c s A A' row hc hgr (hnc hr), hl.own hgr hr⟩
    · rintro pre x post W hx ⟨hi, hl⟩
      have hy := run_yield (P := P) (args := encs x) hl.1 (by rw [hrec]; exact hps x)
      rw [hrec] at hy
      refine ⟨fn, _, assign, body, hy, roundIn_of_wpIn hfn (hassign _ x W _ ⟨W.putObj (B + 1) (.loop (rec .busy none)), ?_, ?_⟩)⟩
      · have h2 := run_beginRound (P := P) hl.1 (by rw [hrec])
        rw [hrec] at h2 ⊢
        exact h2
      · refine wpIn_mono (hbody _ pre x post _ hx (hI.putObj _ hi (by omega) hl.1 rfl)) ?_
        rintro e a3 W3 ⟨j, hj, hk, hp⟩
        have hl2 : Laid B rec .busy none W3 := ⟨hk.same _ _ (Laid.put hl).1 rfl, hk.same _ _ (Laid.put hl (s' := .busy) (j' := none)).2 rfl⟩
        have hr := run_endRound (P := P) j hl2.1
        refine round_of hj ⟨_, _, hr, ?_⟩
        cases j with
        | none =>
          refine .inl ⟨rfl, hI.putObj _ hp (by omega) hl2.1 rfl, ?_⟩
          have h3 := Laid.put hl2 (s' := .ready) (j' := none)
          rw [hrec] at h3 ⊢
          exact h3
        | some c =>
          refine .inr ⟨rfl, c, (hIx c).putObj _ hp (by omega) hl2.1 rfl, ?_⟩
          have h3 := Laid.put hl2 (s' := .done) (j' := some c)
          rw [hrec] at h3 ⊢
          exact h3
    · rintro e W2 ⟨⟨v, rfl⟩, ⟨hi, hl⟩ | ⟨pre, c, hi, hl⟩⟩
      · have h3 := run_endLoop (P := P) hl.1 (by rw [hrec]; simp)
        have h4 := Laid.put hl (s' := .exhausted) (j' := none)
        rw [hrec] at h3 h4
        exact ⟨none, _, h3, hdone B _ (Nat.le_refl _) (hI.putObj _ hi (by omega) hl.1 rfl) h4.2⟩
      · have h3 := run_endLoop (P := P) hl.1 (by rw [hrec]; simp)
        have h4 := Laid.put hl (s' := .exhausted) (j' := some c)
        rw [hrec] at h3 h4
        exact ⟨some c, _, h3, hstop B c pre _ (Nat.le_refl _) ((hIx c).putObj _ hi (by omega) hl.1 rfl) h4.2⟩
/-- The same; the loop's left sides are told by what they change of the temporaries. -/
theorem range_up {α : Type} {g : Operand} {ps : Array Tmp} {assign body : Code} {Q : Exit → Act → World → Prop} {a : Act} {w : World}
    (hro : F.round = none) (h1 : 1 ≤ n) {gf : Nat} {lf : Array Value} (hg : a.eval g = .func (.func gf) lf #[]) (hFg : F.fn gf) (eg : ∀ args w, (callFunc gf args).run P w = .ok (.enter gf args) w)
    {encs : α → Array Value} {xs : List α} (hs : Gives F (n - 1) P gf lf encs xs) (hps : ∀ x, (encs x).size = ps.size)
    (I : List α → World → Prop) (Ix : Code → List α → World → Prop) (hI : OwnFrom w.heap.size I) (hIx : ∀ c, OwnFrom w.heap.size (Ix c)) (h0 : I [] w) (up : α → Array Value → Array Value)
    (hassign : ∀ (l : Nat) (x : α) (W : World) (K : Act → World → Prop), K { tmps := up x a.tmps, defers := [] } W → assign.wpIn (F.inRound l) (n - 1 - 1) P (Exit.then K (fun _ _ _ => False)) { tmps := (ps.zip (encs x)).foldl (fun t (p, v) => t.setIfInBounds p v) a.tmps, defers := [] } W)
    (hbody : ∀ (l : Nat) (pre : List α) (x : α) (post : List α) (W : World), xs = pre ++ x :: post → I pre W → body.wpIn (F.inRound l) (n - 1 - 1) P (leftBy I Ix (pre ++ [x]) W) { tmps := up x a.tmps, defers := [] } W)
    (hdone : ∀ (D : Nat) (W : World), w.heap.size ≤ D → I xs W → W.heap[D]? = some (.deferred (some [])) → Q .normal { a with defers := { target := .collected D, args := #[] } :: a.defers } W)
    (hstop : ∀ (D : Nat) (c : Code) (pre : List α) (W : World), w.heap.size ≤ D → Ix c pre W → W.heap[D]? = some (.deferred (some [])) → c.wpIn F n P Q { a with defers := { target := .collected D, args := #[] } :: a.defers } W) :
    (Code.rangeFunc g ps assign body).wpIn F n P Q a w :=
  range_of hro h1 hg hFg eg hs hps I Ix hI hIx h0 (fun x => { tmps := up x a.tmps, defers := [] }) hassign hbody hdone hstop
end
end Go.Proofs.Ytnipbfhfaefieaa.Dig
