/- forest: what its map says, changed. -/
import Derived.Test.YtojbheiicmcnjaaFsD
namespace Go.Proofs.Ytojbheiicmcnjaa.Fst
open Go.RowKit Go Go.Proofs.YtojbheiicmcnjaaW.PrintWords Go.Proofs.YtojbheiicmcnjaaW.PrintMore Go.Proofs.YtojbheiicmcnjaaW.PrintLast Go.Proofs.Ytojbheiicmcnjaa.Bts Go.Proofs.Ytojbheiicmcnjaa.Fra Go.Maps
section
variable {D : DM} {L : List E} {next : Int} {w w' : World} {g b n : Nat}
theorem E.k_ne {e f : E} (he : e.wf) (hf : f.wf) (h : ¬ (e.hi = f.hi ∧ e.lo = f.lo)) : e.k ≠ f.k := fun hk => h (kl_inj (u64_wf he.hi0 he.hi1) (u64_wf he.lo0 he.lo1) (u64_wf hf.hi0 hf.hi1) (u64_wf hf.lo0 hf.lo1) hk)
theorem Rep.add (hD : IsMap D) (h : Rep D L next) {e : E} (he : e.wf) (hn : find L e.hi e.lo = none) (ho : e.ord = next) (h0 : 0 ≤ next) : Rep (D.put e.k (.held e)) (L ++ [e]) (next + 1) := by
  have hne : ∀ f ∈ L, f.k ≠ e.k := fun f hf => E.k_ne (h.wf f hf) he (find_none hn f hf)
  refine ⟨fun f hf => ?_, fun f hf z => ?_, fun f hf => ?_, fun l hl => ?_, ?_, fun f hf => ?_, ?_⟩
  · rw [List.mem_append, List.mem_singleton] at hf
    rcases hf with hf | rfl
    · exact h.wf f hf
    · exact he
  · rw [List.mem_append, List.mem_singleton] at hf
    rcases hf with hf | rfl
    · rw [atKey_put_other (hne f hf)]
      exact h.at_ f hf z
    · exact atKey_put_same hD (kl_key _ _) _ _
  · rw [List.mem_append, List.mem_singleton] at hf
    rcases hf with hf | rfl
    · rw [has_put_other (hne f hf)]
      exact h.has_ f hf
    · exact has_put_same hD (kl_key _ _) _
  · by_cases hk : l = e.k
    · exact ⟨e, by simp, hk⟩
    · rw [has_put_other hk] at hl
      obtain ⟨f, hf, hk2⟩ := h.only l hl
      exact ⟨f, by simp [hf], hk2⟩
  · rw [List.pairwise_append]
    refine ⟨h.ord, List.pairwise_singleton _ _, fun f hf f' hf' => ?_⟩
    rw [List.mem_singleton] at hf'
    subst hf'
    rw [ho]
    exact (h.lt f hf).2
  · rw [List.mem_append, List.mem_singleton] at hf
    rcases hf with hf | rfl
    · have := h.lt f hf
      omega
    · omega
  · rw [List.pairwise_append]
    refine ⟨h.key, List.pairwise_singleton _ _, fun f hf f' hf' => ?_⟩
    rw [List.mem_singleton] at hf'
    subst hf'
    exact hne f hf
/-- The last one is said once more, otherwise. -/
theorem Rep.again (hD : IsMap D) {e e' : E} (h : Rep D (L ++ [e]) next) (he : e'.wf) (hh : e'.hi = e.hi) (hl : e'.lo = e.lo) (ho : e'.ord = e.ord) : Rep (D.put e'.k (.held e')) (L ++ [e']) next := by
  have hk : e'.k = e.k := by unfold E.k; rw [hh, hl]
  have hkey := List.pairwise_append.1 h.key
  have hne : ∀ f ∈ L, f.k ≠ e'.k := fun f hf => by rw [hk]; exact hkey.2.2 f hf e (by simp)
  have hord := List.pairwise_append.1 h.ord
  refine ⟨fun f hf => ?_, fun f hf z => ?_, fun f hf => ?_, fun l hl => ?_, ?_, fun f hf => ?_, ?_⟩
  · rw [List.mem_append, List.mem_singleton] at hf
    rcases hf with hf | rfl
    · exact h.wf f (by simp [hf])
    · exact he
  · rw [List.mem_append, List.mem_singleton] at hf
    rcases hf with hf | rfl
    · rw [atKey_put_other (hne f hf)]
      exact h.at_ f (by simp [hf]) z
    · exact atKey_put_same hD (kl_key _ _) _ _
  · rw [List.mem_append, List.mem_singleton] at hf
    rcases hf with hf | rfl
    · rw [has_put_other (hne f hf)]
      exact h.has_ f (by simp [hf])
    · exact has_put_same hD (kl_key _ _) _
  · by_cases hk2 : l = e'.k
    · exact ⟨e', by simp, hk2⟩
    · rw [has_put_other hk2] at hl
      obtain ⟨f, hf, hk3⟩ := h.only l hl
      rw [List.mem_append, List.mem_singleton] at hf
      rcases hf with hf | rfl
      · exact ⟨f, by simp [hf], hk3⟩
      · exact absurd (hk3.trans hk.symm) hk2
  · rw [List.pairwise_append]
    refine ⟨hord.1, List.pairwise_singleton _ _, fun f hf f' hf' => ?_⟩
    rw [List.mem_singleton] at hf'
    subst hf'
    rw [ho]
    exact hord.2.2 f hf e (by simp)
  · rw [List.mem_append, List.mem_singleton] at hf
    rcases hf with hf | rfl
    · exact h.lt f (by simp [hf])
    · rw [ho]
      exact h.lt e (by simp)
  · rw [List.pairwise_append]
    refine ⟨hkey.1, List.pairwise_singleton _ _, fun f hf f' hf' => ?_⟩
    rw [List.mem_singleton] at hf'
    subst hf'
    exact hne f hf
/-- A handle is no more. -/
theorem Rep.del (h : Rep D L next) {x y : Int} (hx : U64 x) (hy : U64 y) : Rep (D.del (kl x y)) (L.filter fun e => !decide (e.hi = x ∧ e.lo = y)) next := by
  have hm : ∀ e, e ∈ (L.filter fun e => !decide (e.hi = x ∧ e.lo = y)) ↔ e ∈ L ∧ ¬ (e.hi = x ∧ e.lo = y) := fun e => by rw [List.mem_filter]; simp only [Bool.not_eq_true', decide_eq_false_iff_not]
  have hne : ∀ f ∈ L, ¬ (f.hi = x ∧ f.lo = y) → f.k ≠ kl x y := fun f hf hn hk => hn (kl_inj (u64_wf (h.wf f hf).hi0 (h.wf f hf).hi1) (u64_wf (h.wf f hf).lo0 (h.wf f hf).lo1) hx.wf hy.wf hk)
  refine ⟨fun f hf => h.wf f ((hm f).1 hf).1, fun f hf z => ?_, fun f hf => ?_, fun l hl => ?_, h.ord.filter _, fun f hf => h.lt f ((hm f).1 hf).1, h.key.filter _⟩
  · obtain ⟨h1, h2⟩ := (hm f).1 hf
    rw [atKey_del_other (hne f h1 h2)]
    exact h.at_ f h1 z
  · obtain ⟨h1, h2⟩ := (hm f).1 hf
    rw [has_del_other (hne f h1 h2)]
    exact h.has_ f h1
  · have hk : l ≠ kl x y := fun e => by rw [e, has_del_same] at hl; cases hl
    rw [has_del_other hk] at hl
    obtain ⟨f, hf, rfl⟩ := h.only l hl
    exact ⟨f, (hm f).2 ⟨hf, fun e => hk (by unfold E.k; rw [e.1, e.2])⟩, rfl⟩
theorem fr_of_grown {w w' : World} {b : Nat} (h : w.grownBy w' (some b)) : Fr (· = b) w w' := ⟨h.os, h.tape, h.output, h.size, fun i hi hne => h.block i hi (fun e => hne (Option.some.inj e))⟩
theorem ret8 {w : World} {g : Nat} {t : TypeId} {a b c d e f i j : Value} (h : w.heap[g]? = some (.cells #[a, b, c, d, e, f, i, j] t (0, 0))) (x0 x1 x2 x3 x4 x5 x6 x7 : Value) :
    ((((((((w.setCell ⟨g, 0, none⟩ x0).setCell ⟨g, 1, none⟩ x1).setCell ⟨g, 2, none⟩ x2).setCell ⟨g, 3, none⟩ x3).setCell ⟨g, 4, none⟩ x4).setCell ⟨g, 5, none⟩ x5).setCell ⟨g, 6, none⟩ x6).setCell ⟨g, 7, none⟩ x7).heap[g]? = some (.cells #[x0, x1, x2, x3, x4, x5, x6, x7] t (0, 0)) := by
  have h0 : (w.setCell ⟨g, 0, none⟩ x0).heap[g]? = some (.cells #[x0, b, c, d, e, f, i, j] t (0, 0)) := blk_put h 0 x0 rfl
  have h1 : ((w.setCell ⟨g, 0, none⟩ x0).setCell ⟨g, 1, none⟩ x1).heap[g]? = some (.cells #[x0, x1, c, d, e, f, i, j] t (0, 0)) := blk_put h0 1 x1 rfl
  have h2 : (((w.setCell ⟨g, 0, none⟩ x0).setCell ⟨g, 1, none⟩ x1).setCell ⟨g, 2, none⟩ x2).heap[g]? = some (.cells #[x0, x1, x2, d, e, f, i, j] t (0, 0)) := blk_put h1 2 x2 rfl
  have h3 : ((((w.setCell ⟨g, 0, none⟩ x0).setCell ⟨g, 1, none⟩ x1).setCell ⟨g, 2, none⟩ x2).setCell ⟨g, 3, none⟩ x3).heap[g]? = some (.cells #[x0, x1, x2, x3, e, f, i, j] t (0, 0)) := blk_put h2 3 x3 rfl
  have h4 : (((((w.setCell ⟨g, 0, none⟩ x0).setCell ⟨g, 1, none⟩ x1).setCell ⟨g, 2, none⟩ x2).setCell ⟨g, 3, none⟩ x3).setCell ⟨g, 4, none⟩ x4).heap[g]? = some (.cells #[x0, x1, x2, x3, x4, f, i, j] t (0, 0)) := blk_put h3 4 x4 rfl
  have h5 : ((((((w.setCell ⟨g, 0, none⟩ x0).setCell ⟨g, 1, none⟩ x1).setCell ⟨g, 2, none⟩ x2).setCell ⟨g, 3, none⟩ x3).setCell ⟨g, 4, none⟩ x4).setCell ⟨g, 5, none⟩ x5).heap[g]? = some (.cells #[x0, x1, x2, x3, x4, x5, i, j] t (0, 0)) := blk_put h4 5 x5 rfl
  have h6 : (((((((w.setCell ⟨g, 0, none⟩ x0).setCell ⟨g, 1, none⟩ x1).setCell ⟨g, 2, none⟩ x2).setCell ⟨g, 3, none⟩ x3).setCell ⟨g, 4, none⟩ x4).setCell ⟨g, 5, none⟩ x5).setCell ⟨g, 6, none⟩ x6).heap[g]? = some (.cells #[x0, x1, x2, x3, x4, x5, x6, j] t (0, 0)) := blk_put h5 6 x6 rfl
  have h7 : ((((((((w.setCell ⟨g, 0, none⟩ x0).setCell ⟨g, 1, none⟩ x1).setCell ⟨g, 2, none⟩ x2).setCell ⟨g, 3, none⟩ x3).setCell ⟨g, 4, none⟩ x4).setCell ⟨g, 5, none⟩ x5).setCell ⟨g, 6, none⟩ x6).setCell ⟨g, 7, none⟩ x7).heap[g]? = some (.cells #[x0, x1, x2, x3, x4, x5, x6, x7] t (0, 0)) := blk_put h6 7 x7 rfl
  exact h7
theorem fr8 (w : World) (g : Nat) (x0 x1 x2 x3 x4 x5 x6 x7 : Value) : Fr (· = g) w ((((((((w.setCell ⟨g, 0, none⟩ x0).setCell ⟨g, 1, none⟩ x1).setCell ⟨g, 2, none⟩ x2).setCell ⟨g, 3, none⟩ x3).setCell ⟨g, 4, none⟩ x4).setCell ⟨g, 5, none⟩ x5).setCell ⟨g, 6, none⟩ x6).setCell ⟨g, 7, none⟩ x7) :=
  Fr.put (S := fun k => k = g) (Fr.put (S := fun k => k = g) (Fr.put (S := fun k => k = g) (Fr.put (S := fun k => k = g) (Fr.put (S := fun k => k = g) (Fr.put (S := fun k => k = g) (Fr.put (S := fun k => k = g) (Fr.put (S := fun k => k = g) (Fr.refl (fun k => k = g) w) (p := ⟨g, 0, none⟩) (.inl rfl) x0) (p := ⟨g, 1, none⟩) (.inl rfl) x1) (p := ⟨g, 2, none⟩) (.inl rfl) x2) (p := ⟨g, 3, none⟩) (.inl rfl) x3) (p := ⟨g, 4, none⟩) (.inl rfl) x4) (p := ⟨g, 5, none⟩) (.inl rfl) x5) (p := ⟨g, 6, none⟩) (.inl rfl) x6) (p := ⟨g, 7, none⟩) (.inl rfl) x7
end
end Go.Proofs.Ytojbheiicmcnjaa.Fst
