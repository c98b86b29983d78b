/- arena: who holds whom, in plain words. -/
namespace Go.Proofs.Ytnipbfhfaefieaa.ArnP
/-- Cells: how often each is held, and whom each holds. -/
structure G where
  refs : Nat → Nat
  kids : Nat → List Nat
/-- A sum over the first ones. -/
def sm (f : Nat → Nat) : Nat → Nat
  | 0 => 0
  | n + 1 => sm f n + f n
theorem sm_congr {f h : Nat → Nat} : ∀ n, (∀ y, y < n → f y = h y) → sm f n = sm h n
  | 0, _ => rfl
  | n + 1, e => by simp only [sm]; rw [sm_congr n (fun y hy => e y (by omega)), e n (by omega)]
theorem sm_le {f : Nat → Nat} : ∀ n y, y < n → f y ≤ sm f n
  | 0, _, h => by omega
  | n + 1, y, h => by
    simp only [sm]
    by_cases e : y = n
    · subst e; omega
    · have := sm_le (f := f) n y (by omega); omega
/-- One term is another: the sum turns as it does. -/
theorem sm_upd {f h : Nat → Nat} (k : Nat) : ∀ n, k < n → (∀ y, y < n → y ≠ k → f y = h y) → sm f n + h k = sm h n + f k
  | 0, hk, _ => by omega
  | n + 1, hk, e => by
    simp only [sm]
    by_cases c : k = n
    · subst c
      rw [sm_congr k (fun y hy => e y (by omega) (by omega))]; omega
    · have ih := sm_upd k n (by omega) (fun y hy hn => e y (by omega) hn)
      have := e n (by omega) (fun h => c h.symm)
      omega
/-- How often live cells hold one. -/
def held (g : G) (n x : Nat) : Nat := sm (fun y => if 0 < g.refs y then (g.kids y).count x else 0) n
/-- Every hold is somebody's: the callers' (ext), the list's that is worked off, the live cells'. -/
def Acc (n : Nat) (g : G) (ext : Nat → Nat) (todo : List Nat) : Prop := ∀ x, x < n → 0 < x → g.refs x = ext x + todo.count x + held g n x
def setR (g : G) (k r : Nat) : G := ⟨fun x => if x = k then r else g.refs x, g.kids⟩
theorem held_set {g : G} {n k r : Nat} (x : Nat) (hk : k < n) : held (setR g k r) n x + (if 0 < g.refs k then (g.kids k).count x else 0) = held g n x + (if 0 < r then (g.kids k).count x else 0) := by
  have h := sm_upd (f := fun y => if 0 < (setR g k r).refs y then (g.kids y).count x else 0) (h := fun y => if 0 < g.refs y then (g.kids y).count x else 0) k n hk (fun y _ hn => by simp [setR, hn])
  simp only [setR, if_true] at h
  exact h
/-- One that is on the list is held at all. -/
theorem Acc.pos {n : Nat} {g : G} {ext : Nat → Nat} {k : Nat} {todo : List Nat} (h : Acc n g ext (k :: todo)) (hk : k < n) (h0 : 0 < k) : 0 < g.refs k := by
  have := h k hk h0
  rw [List.count_cons_self] at this
  omega
/-- One hold less; others are left. -/
theorem Acc.less {n : Nat} {g : G} {ext : Nat → Nat} {k : Nat} {todo : List Nat} (h : Acc n g ext (k :: todo)) (hk : k < n) (h0 : 0 < k) (hr : 1 < g.refs k) : Acc n (setR g k (g.refs k - 1)) ext todo := by
  intro x hx hx0
  have h1 := h x hx hx0
  have h2 := held_set (g := g) (r := g.refs k - 1) x hk
  rw [if_pos (show 0 < g.refs k by omega), if_pos (show 0 < g.refs k - 1 by omega)] at h2
  have h3 : (setR g k (g.refs k - 1)).refs x = if x = k then g.refs k - 1 else g.refs x := rfl
  by_cases e : x = k
  · subst e
    rw [h3, if_pos rfl]
    rw [List.count_cons_self] at h1
    omega
  · rw [h3, if_neg e]
    rw [List.count_cons_of_ne (fun h => e h.symm)] at h1
    omega
/-- The last hold goes: its own holds come onto the list. -/
theorem Acc.last {n : Nat} {g : G} {ext : Nat → Nat} {k : Nat} {todo : List Nat} (h : Acc n g ext (k :: todo)) (hk : k < n) (h0 : 0 < k) (hr : g.refs k = 1) : Acc n (setR g k 0) ext (todo ++ g.kids k) := by
  intro x hx hx0
  have h1 := h x hx hx0
  have h2 := held_set (g := g) (r := 0) x hk
  rw [if_pos (show 0 < g.refs k by omega), if_neg (Nat.lt_irrefl 0)] at h2
  have h3 : (setR g k 0).refs x = if x = k then 0 else g.refs x := rfl
  rw [List.count_append]
  by_cases e : x = k
  · subst e
    rw [h3, if_pos rfl]
    rw [List.count_cons_self] at h1
    omega
  · rw [h3, if_neg e]
    rw [List.count_cons_of_ne (fun h => e h.symm)] at h1
    omega
/-- All holds together. -/
def total (g : G) (n : Nat) : Nat := sm g.refs n
theorem total_set {g : G} {n k r : Nat} (hk : k < n) : total (setR g k r) n + g.refs k = total g n + r := by
  have h := sm_upd (f := (setR g k r).refs) (h := g.refs) k n hk (fun y _ hn => by simp [setR, hn])
  simp only [setR, if_true] at h
  exact h
/-- Two that hold the same, by the same callers, are one: who holds lies behind whom he holds (rank). -/
theorem acc_unique {n : Nat} {g g' : G} {ext : Nat → Nat} (rank : Nat → Nat) (h : Acc n g ext []) (h' : Acc n g' ext []) (z : g.refs 0 = 0) (z' : g'.refs 0 = 0)
    (hk : ∀ y, y < n → g.kids y = g'.kids y) (hr : ∀ y x, y < n → x ∈ g.kids y → (0 < g.refs y ∨ 0 < g'.refs y) → rank x < rank y) (B : Nat) (hB : ∀ y, y < n → rank y < B) :
    ∀ x, x < n → 0 < x → g.refs x = g'.refs x := by
  have key : ∀ d x, x < n → 0 < x → B ≤ rank x + d → g.refs x = g'.refs x := by
    intro d
    induction d with
    | zero => intro x hx _ hd; have := hB x hx; omega
    | succ d ih =>
      intro x hx hx0 hd
      rw [h x hx hx0, h' x hx hx0]
      congr 1
      refine sm_congr n (fun y hy => ?_)
      by_cases hm : x ∈ g.kids y
      · by_cases c : 0 < g.refs y ∨ 0 < g'.refs y
        · have hlt := hr y x hy hm c
          by_cases y0 : 0 < y
          · have := ih y hy y0 (by omega)
            rw [this, hk y hy]
          · obtain rfl : y = 0 := by omega
            omega
        · rw [if_neg (fun h => c (.inl h)), if_neg (fun h => c (.inr h))]
      · have h1 : (g.kids y).count x = 0 := List.count_eq_zero.2 hm
        have h2 : (g'.kids y).count x = 0 := by rw [← hk y hy]; exact h1
        simp only [h1, h2, ite_self]
  intro x hx hx0
  exact key B x hx hx0 (by omega)
/-- Less is left to do. -/
theorem total_less {g : G} {n k r : Nat} (hk : k < n) (hr : r < g.refs k) : total (setR g k r) n < total g n := by
  have := total_set (g := g) (r := r) hk
  omega
/-- One more place, that nobody holds. -/
theorem Acc.grow {n : Nat} {g : G} {ext : Nat → Nat} (h : Acc n g ext []) (hd : g.refs n = 0) (he : ext n = 0) (hk : ∀ y, y < n → 0 < g.refs y → n ∉ g.kids y) : Acc (n + 1) g ext [] := by
  intro x hx hx0
  have hh : held g (n + 1) x = held g n x := by
    unfold held
    simp only [sm]
    rw [hd, if_neg (Nat.lt_irrefl 0)]
    omega
  rw [hh]
  by_cases c : x = n
  · subst c
    rw [hd, he]
    have : held g x x = 0 := by
      unfold held
      have : ∀ m, m ≤ x → sm (fun y => if 0 < g.refs y then (g.kids y).count x else 0) m = 0 := by
        intro m
        induction m with
        | zero => intro _; rfl
        | succ m ih =>
          intro hm
          simp only [sm]
          rw [ih (by omega)]
          by_cases p : 0 < g.refs m
          · rw [if_pos p, List.count_eq_zero.2 (hk m (by omega) p)]
          · rw [if_neg p]
      exact this x (Nat.le_refl x)
    rw [this]
    rfl
  · exact h x (by omega) hx0
def setC (g : G) (k r : Nat) (l : List Nat) : G := ⟨fun x => if x = k then r else g.refs x, fun x => if x = k then l else g.kids x⟩
theorem held_setC {g : G} {n k r : Nat} {l : List Nat} (x : Nat) (hk : k < n) : held (setC g k r l) n x + (if 0 < g.refs k then (g.kids k).count x else 0) = held g n x + (if 0 < r then l.count x else 0) := by
  have h := sm_upd (f := fun y => if 0 < (setC g k r l).refs y then ((setC g k r l).kids y).count x else 0) (h := fun y => if 0 < g.refs y then (g.kids y).count x else 0) k n hk (fun y _ hn => by simp [setC, hn])
  simp only [setC, if_true] at h
  exact h
/-- A cell is made: it takes the callers' holds on its others over, and the caller holds it. -/
theorem Acc.make {n : Nat} {g : G} {ext : Nat → Nat} (h : Acc n g ext []) (i : Nat) (hi : i < n) (i0 : 0 < i) (hd : g.refs i = 0) (l : List Nat) (hl : ∀ x, 0 < x → l.count x ≤ ext x) :
    Acc n (setC g i 1 l) (fun x => if x = i then 1 else ext x - l.count x) [] := by
  intro x hx hx0
  have h1 := h x hx hx0
  have h2 := held_setC (g := g) (r := 1) (l := l) x hi
  rw [hd, if_neg (Nat.lt_irrefl 0), if_pos Nat.zero_lt_one] at h2
  have h3 : (setC g i 1 l).refs x = if x = i then 1 else g.refs x := rfl
  have hlx := hl x hx0
  rw [h3]
  by_cases e : x = i
  · subst e
    rw [if_pos rfl]
    dsimp only
    rw [if_pos rfl]
    simp only [List.count_nil] at h1 ⊢
    omega
  · rw [if_neg e]
    dsimp only
    rw [if_neg e]
    simp only [List.count_nil] at h1 ⊢
    omega
/-- One hold more, by the caller. -/
theorem Acc.keep {n : Nat} {g : G} {ext : Nat → Nat} (h : Acc n g ext []) (i : Nat) (hi : i < n) (hp : 0 < g.refs i) : Acc n (setR g i (g.refs i + 1)) (fun x => if x = i then ext x + 1 else ext x) [] := by
  intro x hx hx0
  have h1 := h x hx hx0
  have h2 := held_set (g := g) (r := g.refs i + 1) x hi
  rw [if_pos hp, if_pos (Nat.succ_pos _)] at h2
  have h3 : (setR g i (g.refs i + 1)).refs x = if x = i then g.refs i + 1 else g.refs x := rfl
  rw [h3]
  by_cases e : x = i
  · subst e
    rw [if_pos rfl]
    dsimp only
    rw [if_pos rfl]
    simp only [List.count_nil] at h1 ⊢
    omega
  · rw [if_neg e]
    dsimp only
    rw [if_neg e]
    simp only [List.count_nil] at h1 ⊢
    omega
/-- A caller's hold comes onto the list. -/
theorem Acc.drop {n : Nat} {g : G} {ext : Nat → Nat} (h : Acc n g ext []) (i : Nat) (he : 0 < ext i) : Acc n g (fun x => if x = i then ext x - 1 else ext x) [i] := by
  intro x hx hx0
  have h1 := h x hx hx0
  dsimp only
  by_cases e : x = i
  · subst e
    rw [if_pos rfl, List.count_cons_self]
    simp only [List.count_nil] at h1 ⊢
    omega
  · rw [if_neg e, List.count_cons_of_ne (fun h => e h.symm)]
    simp only [List.count_nil] at h1 ⊢
    omega
/-- A live cell becomes another one: the holds on its others change as they do. -/
theorem Acc.edit {n : Nat} {g : G} {ext : Nat → Nat} (h : Acc n g ext []) (i : Nat) (hi : i < n) (hp : 0 < g.refs i) (l : List Nat) (hl : ∀ x, 0 < x → l.count x ≤ ext x + (g.kids i).count x) :
    Acc n (setC g i (g.refs i) l) (fun x => ext x + (g.kids i).count x - l.count x) [] := by
  intro x hx hx0
  have h1 := h x hx hx0
  have h2 := held_setC (g := g) (r := g.refs i) (l := l) x hi
  rw [if_pos hp, if_pos hp] at h2
  have h3 : (setC g i (g.refs i) l).refs x = g.refs x := by
    show (if x = i then g.refs i else g.refs x) = _
    split
    · rename_i e; rw [e]
    · rfl
  have hlx := hl x hx0
  rw [h3]
  dsimp only
  simp only [List.count_nil] at h1 ⊢
  omega
end Go.Proofs.Ytnipbfhfaefieaa.ArnP
