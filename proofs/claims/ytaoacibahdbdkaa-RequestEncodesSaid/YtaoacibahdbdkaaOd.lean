/- Texts of this claim, laid together: ReqF. -/
import Derived.Test.YtaoacibahdbdkaaOb
import Derived.Test.YtaoacibahdbdkaaRq1
/-! request: the reference's Parse, the state between two readings. Printed by wip/tools/gen_reqf.py. -/
namespace Go.Proofs.Ytaoacibahdbdkaa.Req
open Go.RowKit Go Go.Proofs.Ytaoacibahdbdkaa.QRequestParses Go.Proofs.YtaoacibahdbdkaaW.PrintWords Go.Proofs.YtaoacibahdbdkaaW.PrintLast Go.Proofs.YtaoacibahdbdkaaW.PrintMore Go.Proofs.Ytaoacibahdbdkaa.Fra Go.Proofs.Ytaoacibahdbdkaa.Pk Go.Proofs.Ytaoacibahdbdkaa.Bts Go.Proofs.Ytaoacibahdbdkaa.Pr Go.Proofs.Ytaoacibahdbdkaa.Rep
attribute [local go_sem] is_ref_new World.setRow_alloc_new store_ref
attribute [local go_sem high] all_ref
abbrev QF (w : World) (b : Nat) (q : Q) : Prop := w.heap[b]? = some (.cells q.cells 110 (0, 0))
/-- The reference's state between two readings. -/
structure XS (w wr : World) (b : Nat) (q : Q) (xs : List Int) (f : Int) : Prop where
  rd : Rf.Rx wr (w.heap.size + 2) (w.heap.size + 1) xs f
  qb : QF wr b q
  res : QF wr w.heap.size {}
  bel : Below w.heap.size w wr
  bs : Bs xs
  hl : xs.length ≤ 100000
  hb : w.heap.size + 2 ≤ b
theorem XS.num {w wr w' : World} {b : Nat} {q : Q} {xs ys : List Int} {f f' : Int} (h : XS w wr b q xs f) (hr : Rf.Rx w' (w.heap.size + 2) (w.heap.size + 1) ys f') (hf : Fr (· = w.heap.size + 1) wr w') (hbs : Bs ys) (hl : ys.length ≤ xs.length) : XS w w' b q ys f' := by
  have hb := h.hb
  exact ⟨hr, hf.blk h.qb (by omega), hf.blk h.res (by omega), fr_below h.bel hf (fun k hk => by omega) (Nat.le_refl _), hbs, Nat.le_trans hl h.hl, hb⟩
theorem XS.put {w wr : World} {b : Nat} {q : Q} {xs : List Int} {f : Int} (h : XS w wr b q xs f) (i : Nat) (v : Value) (q' : Q) (hq : q'.cells = q.cells.setIfInBounds i v) (hi : i < 17) : XS w (wr.setCell ⟨b, i, none⟩ v) b q' xs f := by
  have hb := h.hb
  refine ⟨h.rd.put (p := ⟨b, i, none⟩) (fun k hk => by show ¬ k = b; omega) v, ?_, blk_far h.res (by show w.heap.size ≠ b; omega) v, h.bel.setCell (p := ⟨b, i, none⟩) (by show w.heap.size ≤ b; omega) v, h.bs, h.hl, hb⟩
  show (wr.setCell ⟨b, i, none⟩ v).heap[b]? = _
  rw [hq]
  exact blk_set h.qb i v
theorem XS.size {w wr : World} {b : Nat} {q : Q} {xs : List Int} {f : Int} (h : XS w wr b q xs f) : w.heap.size + 2 ≤ wr.heap.size := by
  have := blk_lt h.qb
  have := h.hb
  omega
abbrev RefP (w : World) (xs : List Int) (e : Ending) (w' : World) : Prop := e = .returned (.tuple #[.agg (reqP xs).1.cells, .int .i64 (reqP xs).2]) ∧ Below w.heap.size w w'
theorem reqP_go {xs bs ys : List Int} {k : Int} (ht : takeP xs 0 1 = (bs, ys, 0)) (hk : numB bs = k) (ho : okK k = true) (q : Q) (zs : List Int) (f : Int) (hr : runP (partsOf k) ({k := k}, ys, 0) = (q, zs, f)) :
    reqP xs = if endP zs f = 0 then (q, 0) else ({}, endP zs f) := by
  unfold reqP
  rw [ht]
  dsimp only
  rw [hk, ho, if_neg (by simp), hr]
theorem reqP_fail {xs bs ys : List Int} {f : Int} (ht : takeP xs 0 1 = (bs, ys, f)) (hf : f ≠ 0) : reqP xs = ({}, f) := by
  have hbs : bs = [] := by have := takeP_wrong xs 0 1 (by rw [ht]; exact hf); rw [ht] at this; exact this
  have hp : partsOf (numB bs) = [] := by rw [hbs]; rfl
  have he : endP ys f = f := by unfold endP; rw [if_neg hf]
  unfold reqP
  rw [ht]
  dsimp only
  rw [if_neg (fun h => hf h.1), hp]
  show (if endP ys f = 0 then _ else _) = _
  rw [if_neg (by rw [he]; exact hf)]
  show (({} : Q), endP ys f) = _
  rw [he]
theorem reqP_none {xs bs ys : List Int} {k : Int} (ht : takeP xs 0 1 = (bs, ys, 0)) (hk : numB bs = k) (ho : okK k = false) : reqP xs = ({}, 10) := by
  unfold reqP
  rw [ht]
  dsimp only
  rw [hk, if_pos ⟨rfl, ho⟩]
end Go.Proofs.Ytaoacibahdbdkaa.Req
