/- ForestRights: what stays true of the handles. -/
import Derived.Test.YtojbheiicmcnjaaFsN
namespace Go.Proofs.Ytojbheiicmcnjaa.Fst
open Go.RowKit Go Go.Proofs.YtojbheiicmcnjaaW.PrintWords Go.Proofs.YtojbheiicmcnjaaW.PrintMore Go.Proofs.YtojbheiicmcnjaaW.PrintLast Go.Proofs.Ytojbheiicmcnjaa.Bts Go.Proofs.Ytojbheiicmcnjaa.Fra Go.Maps
abbrev U8 (a : Int) : Prop := 0 ≤ a ∧ a ≤ 255
theorem and_nat (a b : Nat) (ha : a < 256) (hb : b < 256) : Go.bits .and .u8 (a : Int) (b : Int) = ((a &&& b : Nat) : Int) := (bits_nat .u8 8 (by decide) wraps_u8 a b ha hb).1
theorem hasU_nat (a b : Nat) (ha : a < 256) (hb : b < 256) : hasU (a : Int) (b : Int) = true ↔ a &&& b = b := by
  unfold hasU
  rw [and_nat a b ha hb, beq_iff_eq]
  exact Int.ofNat_inj
theorem hasU_trans {s t u : Int} (hs : U8 s) (ht : U8 t) (hu : U8 u) (h1 : hasU s t = true) (h2 : hasU t u = true) : hasU s u = true := by
  obtain ⟨a, rfl⟩ := Int.eq_ofNat_of_zero_le hs.1
  obtain ⟨b, rfl⟩ := Int.eq_ofNat_of_zero_le ht.1
  obtain ⟨c, rfl⟩ := Int.eq_ofNat_of_zero_le hu.1
  have ha : a < 256 := by have := hs.2; omega
  have hb : b < 256 := by have := ht.2; omega
  have hc : c < 256 := by have := hu.2; omega
  rw [hasU_nat a b ha hb] at h1
  rw [hasU_nat b c hb hc] at h2
  rw [hasU_nat a c ha hc]
  rw [← h2, ← Nat.and_assoc, h1]
theorem hasU_self {s : Int} (hs : U8 s) : hasU s s = true := by
  obtain ⟨a, rfl⟩ := Int.eq_ofNat_of_zero_le hs.1
  have ha : a < 256 := by have := hs.2; omega
  rw [hasU_nat a a ha ha, Nat.and_self]
theorem right_mod (k : Nat) (hk : k < 32) : rightU (k : Int) = true := by
  have : ∀ k : Fin 32, rightU ((k.val : Nat) : Int) = true := by decide +kernel
  exact this ⟨k, hk⟩
theorem att_ok {s t : Int} (h : att s t = (t, 0)) : hasU s t = true := by
  unfold att at h
  split at h
  · split at h
    · rename_i h2
      exact h2.2
    · injection h with _ h2
      cases h2
  · injection h with _ h2
    cases h2
/-- The handles after i more. -/
structure Inv (f0 : Int) (L : List E) (i : Nat) (next : Int) : Prop where
  len1 : 1 ≤ L.length
  len2 : L.length ≤ i + 1
  nx : 1 ≤ next ∧ next ≤ i + 1
  hi : ∀ e ∈ L, e.hi = 0
  lo : ∀ e ∈ L, 1 ≤ e.lo ∧ e.lo ≤ i + 1
  ph : ∀ e ∈ L, e.ph = 0
  obj : ∀ e ∈ L, e.obj = 3
  u8 : ∀ e ∈ L, U8 e.rt
  has_ : ∀ e ∈ L, hasU f0 e.rt = true
  par : ∀ e ∈ L, 0 < e.ord → ∃ p ∈ L, p.hi = e.ph ∧ p.lo = e.pl ∧ hasU p.rt e.rt = true ∧ p.ord < e.ord
  root : ∀ e ∈ L, e.ord = 0 → e.lo = 1
theorem Inv.start {f0 : Int} (hf : U8 f0) : Inv f0 [⟨0, 1, 3, f0, 1, 0, 0, 0⟩] 0 1 := by
  refine ⟨by simp, by simp, ⟨by omega, by omega⟩, ?_, ?_, ?_, ?_, ?_, ?_, ?_, ?_⟩
  all_goals (intro e he; rw [List.mem_singleton] at he; subst he)
  · rfl
  · show (1 : Int) ≤ 1 ∧ (1 : Int) ≤ ((0 : Nat) : Int) + 1
    omega
  · rfl
  · rfl
  · exact hf
  · exact hasU_self hf
  · intro h
    have h : (0 : Int) < 0 := h
    omega
  · intro _
    rfl
theorem Inv.more {f0 next : Int} {L : List E} {i : Nat} (h : Inv f0 L i next) : Inv f0 L (i + 1) next :=
  ⟨h.len1, by have := h.len2; omega, by have := h.nx; omega, h.hi, fun e he => by have := h.lo e he; omega, h.ph, h.obj, h.u8, h.has_, h.par, h.root⟩
theorem Inv.add {f0 next want too : Int} {L : List E} {i : Nat} {p : E} (h : Inv f0 L i next) (hf : U8 f0) (hw : U8 want) (hp : p ∈ L) (ha : att p.rt want = (want, 0)) (hlt : ∀ e ∈ L, e.ord < next) : Inv f0 (L ++ [⟨0, i + 2, p.obj, want, too, 0, p.lo, next⟩]) (i + 1) (next + 1) := by
  have hmem : ∀ e, e ∈ L ++ [(⟨0, i + 2, p.obj, want, too, 0, p.lo, next⟩ : E)] ↔ e ∈ L ∨ e = ⟨0, i + 2, p.obj, want, too, 0, p.lo, next⟩ := fun e => by rw [List.mem_append, List.mem_singleton]
  refine ⟨by have := h.len1; rw [List.length_append]; omega, by have := h.len2; rw [List.length_append, List.length_singleton]; omega, by have := h.nx; omega, ?_, ?_, ?_, ?_, ?_, ?_, ?_, ?_⟩
  all_goals (
    intro e he
    rw [hmem] at he
    rcases he with he | rfl)
  · exact h.hi e he
  · rfl
  · have := h.lo e he
    omega
  · dsimp only
    omega
  · exact h.ph e he
  · rfl
  · exact h.obj e he
  · exact h.obj p hp
  · exact h.u8 e he
  · exact hw
  · exact h.has_ e he
  · exact hasU_trans hf (h.u8 p hp) hw (h.has_ p hp) (att_ok ha)
  · intro ho
    obtain ⟨q, hq, h2⟩ := h.par e he ho
    exact ⟨q, (hmem q).2 (.inl hq), h2⟩
  · intro _
    exact ⟨p, (hmem p).2 (.inl hp), h.hi p hp, rfl, att_ok ha, hlt p hp⟩
  · exact h.root e he
  · intro h0
    have h0 : next = 0 := h0
    have := h.nx
    omega
/-- All are under the first. -/
theorem Inv.under {f0 next : Int} {L : List E} {i : Nat} (h : Inv f0 L i next) (hord : L.Pairwise (fun a b => a.ord < b.ord)) (h0 : ∀ e ∈ L, 0 ≤ e.ord) : ∀ e ∈ L, underU L 0 1 e.hi e.lo = true := by
  have hb : ∀ j, underU (L.take j) 0 1 0 1 = true ∧ ∀ e ∈ L.take j, underU (L.take j) 0 1 e.hi e.lo = true := by
    intro j
    induction j with
    | zero => exact ⟨rfl, fun e he => by simp at he⟩
    | succ j ih =>
      by_cases hj : j < L.length
      · obtain ⟨e, he⟩ : ∃ e, L[j]? = some e := ⟨L[j], List.getElem?_eq_getElem hj⟩
        have hts := take_snocE he
        have heL := List.mem_of_getElem? he
        have hmono : ∀ x y, underU (L.take j) 0 1 x y = true → underU (L.take (j + 1)) 0 1 x y = true := fun x y hxy => by
          rw [hts, underU_snoc]
          unfold stepU
          split
          · dsimp only
            rw [hxy, Bool.or_true]
          · exact hxy
        refine ⟨hmono 0 1 ih.1, fun f hf => ?_⟩
        rw [hts, List.mem_append, List.mem_singleton] at hf
        rcases hf with hf | rfl
        · exact hmono _ _ (ih.2 f hf)
        · by_cases ho : f.ord = 0
          · rw [h.hi f heL, h.root f heL ho]
            exact hmono 0 1 ih.1
          · have h9 := h0 f heL
            obtain ⟨p, hp, h1, h2, _, h3⟩ := h.par f heL (by omega)
            have hpj : p ∈ L.take j := by
              obtain ⟨k, hk⟩ := List.getElem?_of_mem hp
              have hkl := (List.getElem?_eq_some_iff.1 hk).1
              have hkj : k < j := by
                rcases Nat.lt_trichotomy k j with q | q | q
                · exact q
                · subst q
                  rw [hk] at he
                  cases he
                  omega
                · have h4 := List.pairwise_iff_getElem.1 hord j k hj hkl q
                  have e1 := (List.getElem?_eq_some_iff.1 hk).2
                  have e2 := (List.getElem?_eq_some_iff.1 he).2
                  rw [e1, e2] at h4
                  omega
              refine List.mem_of_getElem? (i := k) ?_
              rw [List.getElem?_take_of_lt hkj]
              exact hk
            have hin := ih.2 p hpj
            rw [h1, h2] at hin
            rw [hts, underU_snoc]
            unfold stepU
            rw [hin]
            simp
      · rw [List.take_of_length_le (by omega)]
        rw [List.take_of_length_le (by omega)] at ih
        exact ih
  have h2 := (hb L.length).2
  rw [List.take_length] at h2
  exact h2
end Go.Proofs.Ytojbheiicmcnjaa.Fst
