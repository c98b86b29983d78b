/- ledger: a map of accounts, in plain words. -/
import Derived.Test.YtaoacibahdbdkaaLedS
import Derived.Maps.RangeWalk
import Derived.Maps.OwnSet
namespace Go.Proofs.Ytaoacibahdbdkaa.Led
open Go.RowKit Go Go.Proofs.YtaoacibahdbdkaaW.PrintWords Go.Proofs.YtaoacibahdbdkaaW.PrintMore Go.Proofs.YtaoacibahdbdkaaW.PrintLast Go.Proofs.Ytaoacibahdbdkaa.Bts Go.Proofs.Ytaoacibahdbdkaa.Fra Go.Maps
abbrev DM := DataW Nat
/-- A pointer to a whole block reads as the block's number. -/
def ptrElem : Value → Option (DM × List MemPlace)
  | .pointer none => some (.nil, [])
  | .pointer (some ⟨g, 0, none⟩) => some (.held g, [])
  | _ => none
theorem ptrElem_inv {v : Value} {g : Nat} {ps : List MemPlace} (h : ptrElem v = some (.held g, ps)) : v = .pointer (some ⟨g, 0, none⟩) := by
  unfold ptrElem at h
  split at h
  · cases h
  · cases h; rfl
  · cases h
theorem ptrElem_nil {v : Value} {ps : List MemPlace} (h : ptrElem v = some (.nil, ps)) : v = .pointer none := by
  unfold ptrElem at h
  split at h
  · rfl
  · cases h
  · cases h
theorem law : Keyed Try.prog 38 := int_keyed Try.underlying38
abbrev ky (k : Int) : Lit := .int .u32 k
theorem ky_wf {k : Int} (h0 : 0 ≤ k) (h1 : k ≤ 4294967295) : (ky k).wf = true := by unfold Lit.wf; simp only [decide_eq_true_eq, Bool.and_eq_true]; exact ⟨h0, h1⟩
theorem ky_key (k : Int) : WideAt.IsKeyLit (ky k) := by trivial
theorem ky_ne {k k' : Int} (h : k' ≠ k) : ky k' ≠ ky k := fun e => by cases e; exact h rfl
/-- What a call on a ledger may write: maps and accounts from B on. -/
def Lt (B : Nat) (w : World) (j : Nat) : Prop := B ≤ j ∧ ((∃ es c, w.heap[j]? = some (.map es c)) ∨ (∃ cs, w.heap[j]? = some (.cells cs 174 (0, 0))))
abbrev Fl (B : Nat) (w w' : World) : Prop := Fr (Lt B w) w w'
theorem Fl.trans {B : Nat} {w w' w2 : World} (h : Fl B w w') (k : Fl B w' w2) : Fl B w w2 := by
  refine Fr.then_ h k (fun j hj => ?_)
  by_cases hs : Lt B w j
  · exact .inl hs
  · by_cases hlt : j < w.heap.size
    · have e := h.block j hlt hs
      unfold Lt at hj hs
      rw [e] at hj
      exact absurd hj hs
    · exact .inr (by omega)
structure Led (B : Nat) (w : World) (g b n : Nat) (most : Int × Int × Int) (keys : List Int) (D : DM) (blk : Int → Nat) (f : Int → Int × Int × Int) : Prop where
  obj : w.heap[g]? = some (.cells #[.int .i64 most.1, .int .i64 most.2.1, .int .i64 most.2.2, .map (some b)] 120 (0, 0))
  map : w.ownsMap Try.prog 38 ptrElem b n D
  acc : ∀ k, has D (ky k) = true → D.atKey (ky k) .nil = .held (blk k) ∧ Acc w (blk k) (f k) ∧ B ≤ blk k ∧ k ∈ keys
  no : ∀ k, has D (ky k) = false → f k = (0, 0, 0)
  inj : ∀ k k', has D (ky k) = true → has D (ky k') = true → blk k = blk k' → k = k'
  low : B ≤ b
section
variable {B : Nat} {w w' : World} {g b n : Nat} {most : Int × Int × Int} {keys : List Int} {D : DM} {blk : Int → Nat} {f : Int → Int × Int × Int}
theorem grown_of_below (h : Below w.heap.size w w') : w.grownBy w' none := ⟨h.os, h.tape, h.output, h.size, fun i hi _ => h.block i hi⟩
theorem Led.below (h : Led B w g b n most keys D blk f) (hb : Below w.heap.size w w') : Led B w' g b n most keys D blk f :=
  ⟨blk_below h.obj hb, h.map.kept (grown_of_below hb) (by simp), fun k hk => let ⟨a1, a2, a3⟩ := h.acc k hk; ⟨a1, blk_below a2 hb, a3⟩, h.no, h.inj, h.low⟩
theorem Led.isMapBlk (h : Led B w g b n most keys D blk f) : ∃ es c, w.heap[b]? = some (.map es c) := by
  obtain ⟨es, c, hb, _⟩ := h.map
  exact ⟨es, c, hb⟩
theorem Led.b_ne_g (h : Led B w g b n most keys D blk f) : b ≠ g := fun e => by
  obtain ⟨es, c, hb⟩ := h.isMapBlk
  rw [e, h.obj] at hb
  cases hb
theorem Led.acc_ne_b (h : Led B w g b n most keys D blk f) {k : Int} (hk : has D (ky k) = true) : blk k ≠ b := fun e => by
  obtain ⟨es, c, hb⟩ := h.isMapBlk
  have := (h.acc k hk).2.1
  unfold Acc at this
  rw [e, hb] at this
  cases this
theorem Led.acc_ne_g (h : Led B w g b n most keys D blk f) {k : Int} (hk : has D (ky k) = true) : blk k ≠ g := fun e => by
  have := (h.acc k hk).2.1
  unfold Acc at this
  rw [e, h.obj] at this
  injection (Option.some.inj this) with _ h2
  exact absurd h2 (by decide)
theorem Led.lt_acc (h : Led B w g b n most keys D blk f) {k : Int} (hk : has D (ky k) = true) : Lt B w (blk k) :=
  ⟨(h.acc k hk).2.2.1, .inr ⟨_, (h.acc k hk).2.1⟩⟩
theorem Led.lt_b (h : Led B w g b n most keys D blk f) : Lt B w b := ⟨h.low, .inl h.isMapBlk⟩
theorem Led.kept {S : Nat → Prop} (h : Led B w g b n most keys D blk f) (hf : Fr S w w') (hg : ¬ S g) (hs : ∀ j, Lt B w j → ¬ S j) : Led B w' g b n most keys D blk f :=
  ⟨hf.blk h.obj hg, by
    obtain ⟨es, c, hb, hr⟩ := h.map
    exact ⟨es, c, (hf.block b h.map.lt (hs b h.lt_b)).trans hb, hr⟩, fun k hk => let ⟨a1, a2, a3⟩ := h.acc k hk; ⟨a1, hf.blk a2 (hs _ (h.lt_acc hk)), a3⟩, h.no, h.inj, h.low⟩
/-- An account is set. -/
theorem Led.set (h : Led B w g b n most keys D blk f) {k : Int} (hk : has D (ky k) = true) {x : Int × Int × Int} (ha : Acc w' (blk k) x) (hf : Fr (· = blk k) w w') :
    Led B w' g b n most keys D blk (fun j => if j = k then x else f j) ∧ Fl B w w' := by
  refine ⟨⟨hf.blk h.obj (fun e => h.acc_ne_g hk e.symm), ?_, fun j hj => ?_, fun j hj => ?_, h.inj, h.low⟩, hf.mono (fun j e => .inl (by rw [e]; exact h.lt_acc hk))⟩
  · exact h.map.kept (row := some (blk k)) ⟨hf.os, hf.tape, hf.output, hf.size, fun i hi hne => hf.block i hi (fun e => hne (by rw [e]))⟩ (fun e => h.acc_ne_b hk (Option.some.inj e).symm)
  · obtain ⟨a1, a2, a3⟩ := h.acc j hj
    by_cases e : j = k
    · subst e; rw [if_pos rfl]; exact ⟨a1, ha, a3⟩
    · rw [if_neg e]; exact ⟨a1, hf.blk a2 (fun e2 => e (h.inj _ _ hj hk e2)), a3⟩
  · have e : j ≠ k := fun e => by subst e; rw [hk] at hj; cases hj
    rw [if_neg e]; exact h.no j hj
/-- A new account, at a block that is new. -/
theorem Led.put (h : Led B w g b n most keys D blk f) {k : Int} (hk : has D (ky k) = false) (hkk : k ∈ keys) {a : Nat} {w1 : World} (ha : a = w.heap.size) (hB : B ≤ w.heap.size) (hA : Acc w' a (0, 0, 0)) (hb : Below w.heap.size w w') (hg : w'.grownBy w1 (some b))
    (hm : w1.ownsMap Try.prog 38 ptrElem b (n + 1) (D.put (ky k) (.held a))) :
    Led B w1 g b (n + 1) most keys (D.put (ky k) (.held a)) (fun j => if j = k then a else blk j) f ∧ Fl B w w1 := by
  have h' := h.below hb
  have hf : Fr (· = b) w' w1 := ⟨hg.os, hg.tape, hg.output, hg.size, fun i hi hne => hg.block i hi (fun e => hne (Option.some.inj e))⟩
  have hD := h.map.isMap
  have hab : a ≠ b := fun e => by have := h.map.lt; omega
  have hal : ∀ j, has D (ky j) = true → blk j ≠ a := fun j hj e => by have := blk_lt (h.acc j hj).2.1; omega
  refine ⟨⟨hf.blk h'.obj (fun e => h'.b_ne_g e.symm), hm, fun j hj => ?_, fun j hj => ?_, fun j j' hj hj' => ?_, h.low⟩, Fl.trans (Fr.of_new hb) (hf.mono fun j e => .inl (by rw [e]; exact h'.lt_b))⟩
  · by_cases e : j = k
    · subst e; rw [if_pos rfl, h.no j hk]; exact ⟨atKey_put_same hD (ky_key j) _ _, hf.blk hA hab, by omega, hkk⟩
    · rw [if_neg e]
      rw [has_put_other (ky_ne e)] at hj
      obtain ⟨a1, a2, a3⟩ := h'.acc j hj
      exact ⟨by rw [atKey_put_other (ky_ne e)]; exact a1, hf.blk a2 (fun e2 => h'.acc_ne_b hj e2), a3⟩
  · have e : j ≠ k := fun e => by subst e; rw [has_put_same hD (ky_key j)] at hj; cases hj
    rw [has_put_other (ky_ne e)] at hj
    exact h.no j hj
  · by_cases e : j = k <;> by_cases e' : j' = k
    · intro _; rw [e, e']
    · rw [if_pos e, if_neg e']
      rw [has_put_other (ky_ne e')] at hj'
      exact fun e2 => absurd e2.symm (hal j' hj')
    · rw [if_neg e, if_pos e']
      rw [has_put_other (ky_ne e)] at hj
      exact fun e2 => absurd e2 (hal j hj)
    · rw [if_neg e, if_neg e']
      rw [has_put_other (ky_ne e)] at hj
      rw [has_put_other (ky_ne e')] at hj'
      exact h.inj j j' hj hj'
/-- One is forgotten. -/
theorem Led.del (h : Led B w g b n most keys D blk f) (k : Int) (hm : w'.ownsMap Try.prog 38 ptrElem b n (D.del (ky k))) (hg : w.grownBy w' (some b)) :
    Led B w' g b n most keys (D.del (ky k)) blk (fun j => if j = k then (0, 0, 0) else f j) ∧ Fl B w w' := by
  have hf : Fr (· = b) w w' := ⟨hg.os, hg.tape, hg.output, hg.size, fun i hi hne => hg.block i hi (fun e => hne (Option.some.inj e))⟩
  have hn : ∀ j, has (D.del (ky k)) (ky j) = true → j ≠ k := fun j hj e => by subst e; rw [has_del_same] at hj; cases hj
  refine ⟨⟨hf.blk h.obj (fun e => h.b_ne_g e.symm), hm, fun j hj => ?_, fun j hj => ?_, fun j j' hj hj' => ?_, h.low⟩, hf.mono fun j e => .inl (by rw [e]; exact h.lt_b)⟩
  · have e := hn j hj
    rw [if_neg e]
    rw [has_del_other (ky_ne e)] at hj
    obtain ⟨a1, a2, a3⟩ := h.acc j hj
    exact ⟨by rw [atKey_del_other (ky_ne e)]; exact a1, hf.blk a2 (fun e2 => h.acc_ne_b hj e2), a3⟩
  · by_cases e : j = k
    · rw [if_pos e]
    · rw [if_neg e]
      rw [has_del_other (ky_ne e)] at hj
      exact h.no j hj
  · have e := hn j hj
    have e' := hn j' hj'
    rw [has_del_other (ky_ne e)] at hj
    rw [has_del_other (ky_ne e')] at hj'
    exact h.inj j j' hj hj'
end
end Go.Proofs.Ytaoacibahdbdkaa.Led
