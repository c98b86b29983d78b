/- forest: entries, and the forest in memory. -/
import Derived.Test.YtojbheiicmcnjaaFsA
import Derived.Test.YtojbheiicmcnjaaWQPut
namespace Go.Proofs.Ytojbheiicmcnjaa.Fst
open Go.RowKit Go Go.Proofs.YtojbheiicmcnjaaW.PrintWords Go.Proofs.YtojbheiicmcnjaaW.PrintMore Go.Proofs.YtojbheiicmcnjaaW.PrintLast Go.Proofs.Ytojbheiicmcnjaa.Bts Go.Proofs.Ytojbheiicmcnjaa.Fra Go.Maps
structure E where
  hi : Int
  lo : Int
  obj : Int
  rt : Int
  ow : Int
  ph : Int
  pl : Int
  ord : Int
deriving DecidableEq
def E.cs (e : E) : List Value := [.int .u64 e.hi, .int .u64 e.lo, .int .i64 e.obj, .int .u8 e.rt, .int .u32 e.ow, .int .u64 e.ph, .int .u64 e.pl, .int .i64 e.ord]
abbrev E.v (e : E) : Value := .agg #[.int .u64 e.hi, .int .u64 e.lo, .int .i64 e.obj, .int .u8 e.rt, .int .u32 e.ow, .int .u64 e.ph, .int .u64 e.pl, .int .i64 e.ord]
def e0 : E := ⟨0, 0, 0, 0, 0, 0, 0, 0⟩
def E.k (e : E) : Lit := kl e.hi e.lo
/-- In the bounds of its kinds. -/
structure E.wf (e : E) : Prop where
  hi0 : 0 ≤ e.hi
  hi1 : e.hi ≤ 18446744073709551615
  lo0 : 0 ≤ e.lo
  lo1 : e.lo ≤ 18446744073709551615
  ph0 : 0 ≤ e.ph
  ph1 : e.ph ≤ 18446744073709551615
  pl0 : 0 ≤ e.pl
  pl1 : e.pl ≤ 18446744073709551615
theorem E.key {e : E} (h : e.wf) : keyOf Try.prog 30 (.agg #[.int .u64 e.hi, .int .u64 e.lo]) = some e.k := kl_of (u64_wf h.hi0 h.hi1) (u64_wf h.lo0 h.lo1)
theorem kl_inj {a b c d : Int} (ha : (Lit.int .u64 a).wf = true) (hb : (Lit.int .u64 b).wf = true) (hc : (Lit.int .u64 c).wf = true) (hd : (Lit.int .u64 d).wf = true) (h : kl a b = kl c d) : a = c ∧ b = d := by
  have h1 := kl_of ha hb
  have h2 := kl_of hc hd
  rw [h] at h1
  have h3 := law.inj h1 h2
  injection h3 with h3
  injection h3 with h3
  injection h3 with h4 h5
  injection h4 with _ h6
  injection h5 with h5 _
  injection h5 with _ h7
  exact ⟨h6, h7⟩
theorem kl_key (a b : Int) : WideAt.IsKeyLit (kl a b) := by trivial
abbrev DM := DataW E
def entL : List Value → Option (DM × List MemPlace)
  | [.int .u64 a, .int .u64 b, .int .i64 c, .int .u8 d, .int .u32 e, .int .u64 f, .int .u64 g, .int .i64 h] => some (.held ⟨a, b, c, d, e, f, g, h⟩, [])
  | _ => none
def entElem : Value → Option (DM × List MemPlace)
  | .agg xs => entL xs.toList
  | _ => none
theorem entElem_v (e : E) : entElem e.v = some (.held e, []) := rfl
theorem entElem_ex {v : Value} {y : DM × List MemPlace} (h : entElem v = some y) : ∃ e : E, v = e.v ∧ y = (.held e, []) := by
  cases v with
  | agg xs =>
    have h : entL xs.toList = some y := h
    unfold entL at h
    split at h
    · rename_i hx
      cases h
      refine ⟨⟨_, _, _, _, _, _, _, _⟩, ?_, rfl⟩
      have := Array.toList_inj.1 (hx : xs.toList = (#[_, _, _, _, _, _, _, _] : Array Value).toList)
      rw [this]
    · cases h
  | _ => cases h
theorem entElem_inv {v : Value} {e : E} {ps : List MemPlace} (h : entElem v = some (.held e, ps)) : v = e.v := by
  obtain ⟨e', rfl, h2⟩ := entElem_ex h
  cases h2
  rfl
/-- The handles that are there, as they were made. -/
structure Rep (D : DM) (L : List E) (next : Int) : Prop where
  wf : ∀ e ∈ L, e.wf
  at_ : ∀ e ∈ L, ∀ z, D.atKey e.k z = .held e
  has_ : ∀ e ∈ L, has D e.k = true
  only : ∀ l, has D l = true → ∃ e ∈ L, l = e.k
  ord : L.Pairwise (fun a b => a.ord < b.ord)
  lt : ∀ e ∈ L, 0 ≤ e.ord ∧ e.ord < next
  key : L.Pairwise (fun a b => a.k ≠ b.k)
def find (L : List E) (a b : Int) : Option E := L.find? (fun e => decide (e.hi = a ∧ e.lo = b))
abbrev Ob (w : World) (g b : Nat) (next : Int) : Prop := w.heap[g]? = some (.cells #[.map (some b), .int .i64 next] 64 (0, 0))
structure FS (w : World) (g b n : Nat) (L : List E) (next : Int) : Prop where
  obj : Ob w g b next
  map : ∃ D, w.ownsMap Try.prog 30 entElem b n D ∧ Rep D L next
  n0 : 0 ≤ next
section
variable {D : DM} {L : List E} {next : Int} {w w' : World} {g b n : Nat}
theorem Rep.nil : Rep (.map []) [] 0 := ⟨fun _ h => by simp at h, fun _ h => by simp at h, fun _ h => by simp at h, fun l h => by simp [has] at h, List.Pairwise.nil, fun _ h => by simp at h, List.Pairwise.nil⟩
end
end Go.Proofs.Ytojbheiicmcnjaa.Fst
