/- arena: the same holds told by names and by numbers (for the law ArenaActs). -/
import Derived.Test.YtnipbfhfaefieaaArnW
namespace Go.Proofs.Ytnipbfhfaefieaa.Arn
open Go.RowKit Go Go.Proofs.Ytnipbfhfaefieaa.ArnP
theorem sm_zero {f : Nat → Nat} : ∀ n, (∀ y, y < n → f y = 0) → sm f n = 0
  | 0, _ => rfl
  | n + 1, h => by simp only [sm]; rw [sm_zero n (fun y hy => h y (by omega)), h n (by omega)]
theorem sm_add {f h : Nat → Nat} : ∀ n, sm (fun y => f y + h y) n = sm f n + sm h n
  | 0 => rfl
  | n + 1 => by simp only [sm]; rw [sm_add n]; omega
/-- One term alone. -/
theorem sm_one {n i v : Nat} (hi : i < n) : sm (fun y => if y = i then v else 0) n = v := by
  have h := sm_upd (f := fun y => if y = i then v else 0) (h := fun _ => 0) i n hi (fun y _ hn => by simp [hn])
  have hz : sm (fun _ => 0) n = 0 := sm_zero n (fun _ _ => rfl)
  rw [hz, if_pos rfl] at h
  omega
/-- Names are dealt to numbers: the sum over numbers of what their names bear is the sum over the names. -/
theorem sm_deal {n : Nat} (p : Nat → Prop) [DecidablePred p] (nm w : Nat → Nat) : ∀ m, (∀ k, k < m → p k → nm k < n) → sm (fun y => sm (fun k => if p k ∧ nm k = y then w k else 0) m) n = sm (fun k => if p k then w k else 0) m
  | 0, _ => sm_zero n (fun _ _ => rfl)
  | m + 1, h => by
    simp only [sm]
    rw [sm_add, sm_deal p nm w m (fun k hk => h k (by omega))]
    congr 1
    by_cases c : p m
    · rw [if_pos c]
      have : sm (fun y => if p m ∧ nm m = y then w m else 0) n = sm (fun y => if y = nm m then w m else 0) n := sm_congr n (fun y _ => by
        by_cases e : y = nm m
        · rw [if_pos ⟨c, e.symm⟩, if_pos e]
        · rw [if_neg (fun q => e q.2.symm), if_neg e])
      rw [this, sm_one (h m (by omega) c)]
    · rw [if_neg c]
      exact sm_zero n (fun y _ => if_neg (fun q => c q.1))
/-- A number that one name alone bears. -/
theorem sm_bear {p : Nat → Prop} [DecidablePred p] {nm w : Nat → Nat} {m k : Nat} (hk : k < m) (hp : p k) (inj : ∀ j, j < m → p j → nm j = nm k → j = k) : sm (fun j => if p j ∧ nm j = nm k then w j else 0) m = w k := by
  have : sm (fun j => if p j ∧ nm j = nm k then w j else 0) m = sm (fun j => if j = k then w k else 0) m := sm_congr m (fun j hj => by
    by_cases e : j = k
    · subst e; rw [if_pos ⟨hp, rfl⟩, if_pos rfl]
    · rw [if_neg (fun q => e (inj j hj q.1 q.2)), if_neg e])
  rw [this, sm_one hk]
/-- A number that no name bears. -/
theorem sm_bare {p : Nat → Prop} [DecidablePred p] {nm w : Nat → Nat} {m y : Nat} (h : ∀ j, j < m → p j → nm j ≠ y) : sm (fun j => if p j ∧ nm j = y then w j else 0) m = 0 :=
  sm_zero m (fun j hj => if_neg (fun q => h j hj q.1 q.2))
end Go.Proofs.Ytnipbfhfaefieaa.Arn
