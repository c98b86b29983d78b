/- Rows that are read: what a slice's value leads to, kept while nobody writes its block. No program is named here. -/
import Derived.Test.YtnipbfhfaefieaaWWords
import Derived.Test.YtnipbfhfaefieaaWLast
import Derived.Test.YtnipbfhfaefieaaWMore
import Derived.Test.YtnipbfhfaefieaaWKept
import Derived.DataElems
namespace Go.Proofs.Ytnipbfhfaefieaa.Bts
open Go.RowKit Go Go.Proofs.YtnipbfhfaefieaaW.PrintWords

/-- The slice v holds n elements, of size sz, whose cells are cs. -/
def SlR (w : World) (sz : Nat) (v : Value) (n : Nat) (cs : List Value) : Prop :=
  cs.length = n * sz ∧ ∃ A c, v = .slice A n c ∧ n ≤ c ∧ (A = none → c = 0) ∧ ∀ ad, A = some ad → ∀ j u, cs[j]? = some u → w.cell? (ad.add j) = some u
abbrev Byt (w : World) (v : Value) (xs : List Int) : Prop := SlR w 1 v xs.length (nums .u8 xs)

section
variable {w w' : World} {sz n : Nat} {v : Value} {cs : List Value} {S : Nat → Prop}
theorem SlR.nil (w : World) (sz : Nat) : SlR w sz (.slice none 0 0) 0 [] := ⟨by simp, none, 0, rfl, Nat.le_refl _, fun _ => rfl, fun ad h => by cases h⟩
theorem SlR.kept (h : SlR w sz v n cs) (hk : Kept w w' S) (hS : ∀ k, v.ownBlock = some k → ¬ S k) : SlR w' sz v n cs := by
  obtain ⟨h1, A, c, rfl, h2, h3, h4⟩ := h
  refine ⟨h1, A, c, rfl, h2, h3, fun ad hA j u hj => ?_⟩
  have hb : (ad.add j).block = ad.block := by unfold Addr.add; split <;> rfl
  exact cell_kept (h4 ad hA j u hj) hk (by rw [hb]; exact hS ad.block (by rw [hA]; rfl))
theorem SlR.below (h : SlR w sz v n cs) (hb : Below w.heap.size w w') : SlR w' sz v n cs := h.kept (Kept.of_below hb (fun _ => False)) (fun _ _ h => h)
theorem SlR.of_own {base : Nat} {e : TypeId} (h : w.ownsRow base e sz v n cs) : SlR w sz v n cs := by
  obtain ⟨h1, h2⟩ := h
  rcases h2 with ⟨rfl, rfl⟩ | ⟨g, cap, cur, rfl, hg, hh, hn, hm, hc, ht⟩
  · have : cs = [] := by cases cs with
      | nil => rfl
      | cons => simp at h1
    subst this
    exact SlR.nil _ _
  · refine ⟨h1, some ⟨g, 0, none⟩, cap, rfl, hn, fun h => (by cases h), fun ad hA j u hj => ?_⟩
    cases hA
    have hlt : j < cs.length := (List.getElem?_eq_some_iff.1 hj).1
    rw [add_plain, blk_cell hh]
    rw [← ht, List.getElem?_take] at hj
    split at hj
    · simpa using hj
    · cases hj
theorem SlR.of_C {A : Option Addr} {c : Nat} {k : IntKind} {xs : List Int} (h : (Kd.int k).C w A xs.length xs) (hl : xs.length ≤ c) (hn : A = none → c = 0) : SlR w 1 (.slice A xs.length c) xs.length (nums k xs) := by
  refine ⟨by rw [nums_length]; simp, A, c, rfl, hl, hn, fun ad hA j u hj => ?_⟩
  have hlt : j < xs.length := by have := (List.getElem?_eq_some_iff.1 hj).1; rw [nums_length] at this; exact this
  obtain ⟨ad', e, hx⟩ := Kd.at_int h (j : Int) (by omega) (by omega)
  rw [hA] at e
  cases e
  rw [Int.toNat_natCast] at hx
  rw [hx]
  have : (nums k xs)[j]? = some (.int k (rd xs (j : Int))) := by simp [nums, rd, List.getD, hlt]
  rw [this] at hj
  exact hj
theorem SlR.C {k : IntKind} {xs : List Int} (h : SlR w 1 v xs.length (nums k xs)) (hm : xs.length ≤ 9223372036854775807) : ∃ A c, v = .slice A xs.length c ∧ xs.length ≤ c ∧ (A = none → c = 0) ∧ (Kd.int k).C w A xs.length xs := by
  obtain ⟨_, A, c, rfl, h2, h3, h4⟩ := h
  refine ⟨A, c, rfl, h2, h3, rfl, hm, fun hn => ?_⟩
  cases A with
  | none => have := h3 rfl; omega
  | some ad =>
    refine ⟨ad, rfl, fun j p hj => ⟨[.int k p], rfl, rfl, fun i u hi => ?_⟩⟩
    have hi0 : i = 0 := by
      have := (List.getElem?_eq_some_iff.1 hi).1
      simpa using this
    subst hi0
    refine h4 ad rfl _ u ?_
    show (nums k xs)[j * 1 + 0]? = some u
    have hj' : (nums k xs)[j]? = some (.int k p) := by simp [nums, hj]
    rw [Nat.mul_one, Nat.add_zero, hj']
    simpa using hi
theorem SlR.at_ (h : SlR w 1 v n cs) (i : Nat) (hi : i < n) : ∃ ad c, v = .slice (some ad) n c ∧ n ≤ c ∧ ∀ u, cs[i]? = some u → w.cell? (ad.add i) = some u := by
  obtain ⟨h1, A, c, rfl, h2, h3, h4⟩ := h
  cases A with
  | none => have := h3 rfl; omega
  | some ad => exact ⟨ad, c, rfl, h2, fun u hu => h4 ad rfl i u hu⟩
theorem SlR.take_ {A : Option Addr} {c : Nat} (h : SlR w sz (.slice A n c) n cs) (m : Nat) (hm : m ≤ n) : SlR w sz (.slice A m c) m (cs.take (m * sz)) := by
  obtain ⟨h1, A', c', e, h2, h3, h4⟩ := h
  cases e
  refine ⟨by rw [List.length_take, h1]; exact Nat.min_eq_left (Nat.mul_le_mul_right _ hm), A, c, rfl, by omega, h3, fun ad hA j u hj => ?_⟩
  rw [List.getElem?_take] at hj
  split at hj
  · exact h4 ad hA j u hj
  · cases hj
theorem SlR.drop_ {A : Option Addr} {c : Nat} (h : SlR w sz (.slice A n c) n cs) (m : Nat) (hm : m ≤ n) : SlR w sz (.slice (if c = m then A else A.map (·.add (m * sz))) (n - m) (c - m)) (n - m) (cs.drop (m * sz)) := by
  obtain ⟨h1, A', c', e, h2, h3, h4⟩ := h
  cases e
  refine ⟨by rw [List.length_drop, h1, Nat.sub_mul], _, _, rfl, by omega, fun hA => ?_, fun ad hA j u hj => ?_⟩
  · split at hA
    · omega
    · cases A with
      | none => have := h3 rfl; omega
      | some ad => cases hA
  · rw [List.getElem?_drop] at hj
    split at hA
    · rename_i hcm
      have hlt := (List.getElem?_eq_some_iff.1 hj).1
      have : n = m := by omega
      rw [h1, this] at hlt
      omega
    · cases A with
      | none => cases hA
      | some a0 =>
        cases hA
        rw [Go.Addr.add_add]
        exact h4 a0 rfl _ u hj
theorem SlR.len (h : SlR w sz v n cs) : cs.length = n * sz := h.1
end
theorem nums_take (k : IntKind) (xs : List Int) (m : Nat) : nums k (xs.take m) = (nums k xs).take m := by simp [nums, List.map_take]
theorem nums_drop (k : IntKind) (xs : List Int) (m : Nat) : nums k (xs.drop m) = (nums k xs).drop m := by simp [nums, List.map_drop]
theorem nums_get (k : IntKind) (xs : List Int) (i : Nat) (h : i < xs.length) : (nums k xs)[i]? = some (.int k (xs.getD i 0)) := by simp [nums, List.getD, h]
theorem byt_take {w : World} {A : Option Addr} {c : Nat} {xs : List Int} (h : Byt w (.slice A xs.length c) xs) (m : Nat) (hm : m ≤ xs.length) : Byt w (.slice A m c) (xs.take m) := by
  have := h.take_ m hm
  rw [Nat.mul_one, ← nums_take] at this
  have hl : (xs.take m).length = m := by rw [List.length_take]; omega
  unfold Byt
  rw [hl]; exact this
theorem byt_drop {w : World} {A : Option Addr} {c : Nat} {xs : List Int} (h : Byt w (.slice A xs.length c) xs) (m : Nat) (hm : m ≤ xs.length) : Byt w (.slice (if c = m then A else A.map (·.add m)) (xs.length - m) (c - m)) (xs.drop m) := by
  have := h.drop_ m hm
  rw [Nat.mul_one, ← nums_drop] at this
  have hl : (xs.drop m).length = xs.length - m := by rw [List.length_drop]
  unfold Byt
  rw [hl]; exact this
end Go.Proofs.Ytnipbfhfaefieaa.Bts
