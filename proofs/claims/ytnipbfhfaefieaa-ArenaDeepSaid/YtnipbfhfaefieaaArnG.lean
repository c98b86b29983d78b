/- arena: a list of cells, and who holds whom in it. -/
import Derived.Test.YtnipbfhfaefieaaArnM
import Derived.Test.YtnipbfhfaefieaaArnP
namespace Go.Proofs.Ytnipbfhfaefieaa.Arn
open Go.RowKit Go Go.Proofs.Ytnipbfhfaefieaa.ArnP
/-- Nobody's cell. -/
def nobC : Cell := {}
/-- The others that a cell holds. -/
def kidsOf (l : List Int) : List Nat := (l.filter fun y => decide (y ≠ 0)).map Int.toNat
def gOf (cl : List Cell) : G := ⟨fun x => (cl.getD x nobC).r.toNat, fun x => kidsOf (cl.getD x nobC).kids⟩
theorem getD_at {cl : List Cell} {i : Nat} {c : Cell} (h : cl[i]? = some c) : cl.getD i nobC = c := by simp [List.getD, h]
theorem getD_set {cl : List Cell} {i : Nat} (c : Cell) (hi : i < cl.length) (x : Nat) : (cl.set i c).getD x nobC = if x = i then c else cl.getD x nobC := by
  unfold List.getD
  by_cases e : x = i
  · subst e; rw [List.getElem?_set_self hi, if_pos rfl]; rfl
  · rw [List.getElem?_set_ne (fun h => e h.symm), if_neg e]
theorem gOf_r {cl : List Cell} {i : Nat} {c : Cell} (h : cl[i]? = some c) (r : Int) : gOf (cl.set i {c with r := r}) = setR (gOf cl) i r.toNat := by
  have hi : i < cl.length := (List.getElem?_eq_some_iff.1 h).1
  unfold gOf setR
  congr 1
  · funext x
    rw [getD_set _ hi]
    split <;> rfl
  · funext x
    rw [getD_set _ hi]
    split
    · rename_i e
      subst e
      show kidsOf c.kids = kidsOf (cl.getD x nobC).kids
      rw [getD_at h]
    · rfl
theorem gOf_c {cl : List Cell} {i : Nat} (hi : i < cl.length) (c : Cell) : gOf (cl.set i c) = setC (gOf cl) i c.r.toNat (kidsOf c.kids) := by
  unfold gOf setC
  congr 1
  · funext x; rw [getD_set _ hi]; split <;> rfl
  · funext x; rw [getD_set _ hi]; split <;> rfl
/-- Who is dead holds nobody: his others may be anything. -/
theorem held_congr {g g' : G} {n : Nat} (hr : ∀ y, y < n → g.refs y = g'.refs y) (hk : ∀ y, y < n → 0 < g.refs y → g.kids y = g'.kids y) (x : Nat) : held g n x = held g' n x :=
  sm_congr n (fun y hy => by
    rw [hr y hy]
    by_cases p : 0 < g'.refs y
    · rw [if_pos p, if_pos p, hk y hy (by rw [hr y hy]; exact p)]
    · rw [if_neg p, if_neg p])
theorem Acc_congr {g g' : G} {n : Nat} {ext : Nat → Nat} {todo : List Nat} (h : Acc n g ext todo) (hr : ∀ y, y < n → g.refs y = g'.refs y) (hk : ∀ y, y < n → 0 < g.refs y → g.kids y = g'.kids y) : Acc n g' ext todo := by
  intro x hx hx0
  rw [← hr x hx, h x hx hx0, held_congr hr hk x]
/-- A cell that nobody holds any more becomes nobody's. -/
theorem Acc_kill {cl : List Cell} {i : Nat} {c : Cell} {ext : Nat → Nat} {todo : List Nat} (h : Acc cl.length (gOf (cl.set i {c with r := 0})) ext todo) (hi : cl[i]? = some c) : Acc cl.length (gOf (cl.set i nobC)) ext todo := by
  have hl : i < cl.length := (List.getElem?_eq_some_iff.1 hi).1
  refine Acc_congr h (fun y _ => ?_) (fun y _ hp => ?_)
  · show ((cl.set i _).getD y nobC).r.toNat = ((cl.set i _).getD y nobC).r.toNat
    rw [getD_set _ hl, getD_set _ hl]
    split <;> rfl
  · have hp : 0 < ((cl.set i {c with r := 0}).getD y nobC).r.toNat := hp
    rw [getD_set _ hl] at hp
    show kidsOf ((cl.set i _).getD y nobC).kids = kidsOf ((cl.set i _).getD y nobC).kids
    rw [getD_set _ hl, getD_set _ hl]
    split
    · rename_i e; rw [if_pos e] at hp; exact absurd hp (by simp)
    · rfl
/-- How many are live. -/
def liveN (cl : List Cell) : Nat := cl.countP fun c => decide (0 < c.r)
theorem liveN_set {cl : List Cell} {i : Nat} {c : Cell} (h : cl[i]? = some c) (c' : Cell) : liveN (cl.set i c') + (if 0 < c.r then 1 else 0) = liveN cl + (if 0 < c'.r then 1 else 0) := by
  induction cl generalizing i with
  | nil => simp at h
  | cons x l ih =>
    unfold liveN at ih ⊢
    cases i with
    | zero =>
      obtain rfl : x = c := by simpa using h
      rw [List.set_cons_zero, List.countP_cons, List.countP_cons]
      simp only [decide_eq_true_eq]
      omega
    | succ i =>
      have h' : l[i]? = some c := by simpa using h
      have := ih h'
      rw [List.set_cons_succ, List.countP_cons, List.countP_cons]
      omega
end Go.Proofs.Ytnipbfhfaefieaa.Arn
