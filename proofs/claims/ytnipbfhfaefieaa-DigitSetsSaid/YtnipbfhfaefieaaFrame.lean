/- What a call may write: blocks of S, and what is new. -/
import Derived.Test.YtnipbfhfaefieaaBytes
namespace Go.Proofs.Ytnipbfhfaefieaa.Fra
open Go.RowKit Go Go.Proofs.YtnipbfhfaefieaaW.PrintWords Go.Proofs.Ytnipbfhfaefieaa.Bts

structure Fr (S : Nat → Prop) (w w' : World) : Prop where
  os : w'.os = w.os
  tape : w'.tape = w.tape
  output : w'.output = w.output
  size : w.heap.size ≤ w'.heap.size
  block : ∀ k, k < w.heap.size → ¬ S k → w'.heap[k]? = w.heap[k]?
section
variable {S S' : Nat → Prop} {w w' w2 : World}
theorem Fr.refl (S : Nat → Prop) (w : World) : Fr S w w := ⟨rfl, rfl, rfl, Nat.le_refl _, fun _ _ _ => rfl⟩
theorem Fr.then_ (h : Fr S w w') (k : Fr S' w' w2) (hs : ∀ k, S' k → S k ∨ w.heap.size ≤ k) : Fr S w w2 :=
  ⟨k.os.trans h.os, k.tape.trans h.tape, k.output.trans h.output, Nat.le_trans h.size k.size, fun i hi hn => (k.block i (Nat.lt_of_lt_of_le hi h.size) (fun h2 => (hs i h2).elim hn (fun h3 => by omega))).trans (h.block i hi hn)⟩
theorem Fr.trans (h : Fr S w w') (k : Fr S w' w2) : Fr S w w2 := h.then_ k fun _ h => .inl h
theorem Fr.mono (h : Fr S w w') (hs : ∀ k, S k → S' k ∨ w.heap.size ≤ k) : Fr S' w w' := (Fr.refl S' w).then_ h hs
theorem Fr.of_below {B : Nat} (h : Below B w w') (hs : ∀ k, B ≤ k → S k ∨ w.heap.size ≤ k) : Fr S w w' :=
  ⟨h.os, h.tape, h.output, h.size, fun i hi hn => by
    by_cases hb : i < B
    · exact h.block i hb
    · exact ((hs i (by omega)).elim hn (fun h3 => by omega)).elim⟩
theorem Fr.of_new (h : Below w.heap.size w w') : Fr S w w' := Fr.of_below h fun _ h => .inr h
theorem Fr.below {B : Nat} (h : Fr S w w') (hs : ∀ k, S k → B ≤ k) (hB : B ≤ w.heap.size) : Below B w w' :=
  ⟨h.os, h.tape, h.output, h.size, fun i hi => h.block i (by omega) (fun h2 => by have := hs i h2; omega)⟩
theorem Fr.kept (h : Fr S w w') : Kept w w' S := ⟨h.size, h.block⟩
theorem Fr.setCell {p : Addr} (hp : S p.block ∨ w.heap.size ≤ p.block) (u : Value) : Fr S w (w.setCell p u) :=
  ⟨rfl, rfl, rfl, by simp [World.setCell], fun i hi hn => Below.heap_setCell w p u i (fun e => by subst e; exact hp.elim hn (fun h => by omega))⟩
theorem Fr.set (g i : Nat) (u : Value) : Fr (· = g) w (w.setCell ⟨g, i, none⟩ u) := Fr.setCell (S := (· = g)) (.inl rfl) u
theorem Fr.alloc (o : Obj) : Fr S w (w.alloc o) := Fr.of_new (below_alloc (Below.refl _ _) o)
theorem Fr.put (h : Fr S w w') {p : Addr} (hp : S p.block ∨ w.heap.size ≤ p.block) (u : Value) : Fr S w (w'.setCell p u) :=
  h.then_ (S' := fun k => k = p.block) (Fr.setCell (S := fun k => k = p.block) (.inl rfl) u) (fun k hk => by rw [hk]; exact hp)
theorem Fr.more (h : Fr S w w') (hb : Below w'.heap.size w' w2) : Fr S w w2 := h.then_ (S' := fun _ => False) (Fr.of_new hb) (fun _ hk => hk.elim)
theorem Fr.new (h : Fr S w w') (o : Obj) : Fr S w (w'.alloc o) := h.more (below_alloc (Below.refl _ _) o)
theorem ret3 {g : Nat} {t : TypeId} {a b c : Value} (h : w.heap[g]? = some (.cells #[a, b, c] t (0, 0))) (x y z : Value) :
    (((w.setCell ⟨g, 0, none⟩ x).setCell ⟨g, 1, none⟩ y).setCell ⟨g, 2, none⟩ z).heap[g]? = some (.cells #[x, y, z] t (0, 0)) :=
  blk_put (blk_put (blk_put h 0 x rfl) 1 y rfl) 2 z rfl
theorem Fr.blk {g : Nat} {o : Obj} (h : Fr S w w') (hb : w.heap[g]? = some o) (hg : ¬ S g) : w'.heap[g]? = some o := blk_kept hb h.kept hg
theorem Fr.cell {a : Addr} {v : Value} (h : Fr S w w') (hb : w.cell? a = some v) (hg : ¬ S a.block) : w'.cell? a = some v := cell_kept hb h.kept hg
theorem Fr.slr {sz n : Nat} {v : Value} {cs : List Value} (h : Fr S w w') (hb : SlR w sz v n cs) (hg : ∀ k, v.ownBlock = some k → ¬ S k) : SlR w' sz v n cs := hb.kept h.kept hg
end
end Go.Proofs.Ytnipbfhfaefieaa.Fra
