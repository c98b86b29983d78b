/- Texts of this claim, laid together: ArnW, ArnA, ArnB, CloneI, CloneV. -/
import Derived.Test.YtnipbfhfaefieaaUa
import Derived.Test.YtnipbfhfaefieaaProg
import Derived.Test.YtnipbfhfaefieaaWLast
import Derived.Test.YtnipbfhfaefieaaWMore
import Derived.WalkKit
import Derived.WalkSpells
import Derived.OwnWalk
import Derived.KernelRfl
import Derived.BigQuiet
import Derived.Lib.Hide
import Derived.Lib.SliceRun
import Derived.Laws.LoneSync
import Derived.Test.YtnipbfhfaefieaaWWords
import Derived.Test.YtnipbfhfaefieaaWKept
/-! arena: what always holds of its cells, and that each call keeps it. -/
namespace Go.Proofs.Ytnipbfhfaefieaa.Arn
open Go.RowKit Go Go.Proofs.Ytnipbfhfaefieaa.ArnP
/-- Cells, free numbers, how many are live; ext: how often callers hold each; todo: the holds that are being let go. -/
structure WF (cl : List Cell) (fr : List Int) (live : Int) (ext : Nat → Nat) (todo : List Nat) : Prop where
  acc : Acc cl.length (gOf cl) ext todo
  z : cl[0]? = some nobC
  rn : ∀ (i : Nat) (c : Cell), cl[i]? = some c → 0 ≤ c.r
  kn : ∀ (i : Nat) (c : Cell), cl[i]? = some c → 0 < c.r → ∀ y ∈ c.kids, 0 ≤ y ∧ y < cl.length
  fd : ∀ x ∈ fr, 0 < x ∧ x < cl.length ∧ ∃ c, cl[x.toNat]? = some c ∧ c.r = 0
  fn : fr.Nodup
  lv : live = liveN cl
  en : ∀ x, cl.length ≤ x → ext x = 0
  tn : ∀ x ∈ todo, 0 < x ∧ x < cl.length
theorem gOf_refs {cl : List Cell} {i : Nat} {c : Cell} (h : cl[i]? = some c) : (gOf cl).refs i = c.r.toNat := by
  show (cl.getD i nobC).r.toNat = _
  rw [getD_at h]
theorem gOf_kids {cl : List Cell} {i : Nat} {c : Cell} (h : cl[i]? = some c) : (gOf cl).kids i = kidsOf c.kids := by
  show kidsOf (cl.getD i nobC).kids = _
  rw [getD_at h]
theorem kidsOf_mem {l : List Int} {x : Nat} (h : x ∈ kidsOf l) : ∃ y ∈ l, y ≠ 0 ∧ y.toNat = x := by
  unfold kidsOf at h
  rw [List.mem_map] at h
  obtain ⟨y, hy, e⟩ := h
  rw [List.mem_filter] at hy
  exact ⟨y, hy.1, by simpa using hy.2, e⟩
theorem at_set {cl : List Cell} {i : Nat} {c c' : Cell} (h : cl[i]? = some c) {j : Nat} {d : Cell} (hd : (cl.set i c')[j]? = some d) : (j = i ∧ d = c') ∨ (j ≠ i ∧ cl[j]? = some d) := by
  have hi : i < cl.length := (List.getElem?_eq_some_iff.1 h).1
  by_cases e : j = i
  · subst e
    rw [List.getElem?_set_self hi] at hd
    exact .inl ⟨rfl, (Option.some.inj hd).symm⟩
  · rw [List.getElem?_set_ne (fun h => e h.symm)] at hd
    exact .inr ⟨e, hd⟩
theorem WF.perm {cl : List Cell} {fr : List Int} {live : Int} {ext : Nat → Nat} {todo todo' : List Nat} (h : WF cl fr live ext todo) (hc : ∀ x, todo'.count x = todo.count x) : WF cl fr live ext todo' :=
  ⟨fun x hx hx0 => by rw [hc x]; exact h.acc x hx hx0, h.z, h.rn, h.kn, h.fd, h.fn, h.lv, h.en, fun x hx => h.tn x (by rw [← List.count_pos_iff, ← hc x, List.count_pos_iff]; exact hx)⟩
/-- One that is on the list is live. -/
theorem WF.live_of {cl : List Cell} {fr : List Int} {live : Int} {ext : Nat → Nat} {k : Nat} {todo : List Nat} (h : WF cl fr live ext (k :: todo)) : ∃ c, cl[k]? = some c ∧ 0 < c.r ∧ 0 < k := by
  obtain ⟨h0, h1⟩ := h.tn k (List.mem_cons_self ..)
  obtain ⟨c, hc⟩ : ∃ c, cl[k]? = some c := ⟨cl[k], List.getElem?_eq_getElem h1⟩
  have hp := h.acc.pos h1 h0
  rw [gOf_refs hc] at hp
  exact ⟨c, hc, by omega, h0⟩
/-- One hold less; others are left. -/
theorem WF.less {cl : List Cell} {fr : List Int} {live : Int} {ext : Nat → Nat} {k : Nat} {todo : List Nat} {c : Cell} (h : WF cl fr live ext (k :: todo)) (hc : cl[k]? = some c) (hr : 1 < c.r) : WF (cl.set k {c with r := c.r - 1}) fr live ext todo := by
  obtain ⟨h0, h1⟩ := h.tn k (List.mem_cons_self ..)
  have hl : (cl.set k {c with r := c.r - 1}).length = cl.length := List.length_set
  have ha := h.acc.less h1 h0 (by rw [gOf_refs hc]; omega)
  rw [gOf_refs hc] at ha
  refine ⟨?_, ?_, ?_, ?_, ?_, h.fn, ?_, by rw [hl]; exact h.en, fun x hx => by rw [hl]; exact h.tn x (List.mem_cons_of_mem _ hx)⟩
  · rw [hl, gOf_r hc, show (c.r - 1).toNat = c.r.toNat - 1 by omega]; exact ha
  · rw [List.getElem?_set_ne (by omega)]; exact h.z
  · intro i d hd
    rcases at_set hc hd with ⟨rfl, rfl⟩ | ⟨_, hd⟩
    · show 0 ≤ c.r - 1; omega
    · exact h.rn i d hd
  · intro i d hd hp y hy
    rw [hl]
    rcases at_set hc hd with ⟨rfl, rfl⟩ | ⟨_, hd⟩
    · exact h.kn _ c hc (by omega) y hy
    · exact h.kn i d hd hp y hy
  · intro x hx
    obtain ⟨f1, f2, d, f3, f4⟩ := h.fd x hx
    refine ⟨f1, by rw [hl]; exact f2, d, ?_, f4⟩
    have : x.toNat ≠ k := fun e => by rw [e, hc] at f3; cases f3; omega
    rw [List.getElem?_set_ne (fun e => this e.symm)]; exact f3
  · have := liveN_set hc {c with r := c.r - 1}
    rw [if_pos (by omega), if_pos (by show 0 < c.r - 1; omega)] at this
    rw [h.lv]; omega
/-- The last hold goes: the number is free, its own holds come onto the list. -/
theorem WF.last {cl : List Cell} {fr : List Int} {live : Int} {ext : Nat → Nat} {k : Nat} {todo : List Nat} {c : Cell} (h : WF cl fr live ext (k :: todo)) (hc : cl[k]? = some c) (hr : c.r = 1) : WF (cl.set k nobC) (fr ++ [(k : Int)]) (live - 1) ext (todo ++ kidsOf c.kids) := by
  obtain ⟨h0, h1⟩ := h.tn k (List.mem_cons_self ..)
  have hl : (cl.set k nobC).length = cl.length := List.length_set
  have ha := h.acc.last h1 h0 (by rw [gOf_refs hc, hr]; rfl)
  rw [gOf_kids hc] at ha
  have hkf : (k : Int) ∉ fr := fun hm => by
    obtain ⟨_, _, d, f3, f4⟩ := h.fd _ hm
    rw [Int.toNat_natCast, hc] at f3
    cases f3
    omega
  refine ⟨?_, ?_, ?_, ?_, ?_, ?_, ?_, by rw [hl]; exact h.en, ?_⟩
  · rw [hl]
    refine Acc_kill (c := c) ?_ hc
    rw [gOf_r hc]
    exact ha
  · rw [List.getElem?_set_ne (by omega)]; exact h.z
  · intro i d hd
    rcases at_set hc hd with ⟨rfl, rfl⟩ | ⟨_, hd⟩
    · exact Int.le_refl 0
    · exact h.rn i d hd
  · intro i d hd hp y hy
    rw [hl]
    rcases at_set hc hd with ⟨rfl, rfl⟩ | ⟨_, hd⟩
    · exact absurd hp (Int.lt_irrefl 0)
    · exact h.kn i d hd hp y hy
  · intro x hx
    rw [hl]
    rcases List.mem_append.1 hx with hx | hx
    · obtain ⟨f1, f2, d, f3, f4⟩ := h.fd x hx
      refine ⟨f1, f2, d, ?_, f4⟩
      have : x.toNat ≠ k := fun e => by rw [e, hc] at f3; cases f3; omega
      rw [List.getElem?_set_ne (fun e => this e.symm)]; exact f3
    · obtain rfl : x = (k : Int) := by simpa using hx
      refine ⟨by omega, by omega, nobC, ?_, rfl⟩
      rw [Int.toNat_natCast, List.getElem?_set_self h1]
  · rw [List.nodup_append]
    refine ⟨h.fn, by simp, fun a ha b hb e => ?_⟩
    obtain rfl : b = (k : Int) := by simpa using hb
    exact hkf (e ▸ ha)
  · have := liveN_set hc nobC
    rw [if_pos (by omega), if_neg (show ¬ 0 < nobC.r from Int.lt_irrefl 0)] at this
    rw [h.lv]; omega
  · intro x hx
    rw [hl]
    rcases List.mem_append.1 hx with hx | hx
    · exact h.tn x (List.mem_cons_of_mem _ hx)
    · obtain ⟨y, hy, y0, rfl⟩ := kidsOf_mem hx
      obtain ⟨q1, q2⟩ := h.kn k c hc (by omega) y hy
      omega
/-- One more place. -/
theorem WF.grow {cl : List Cell} {live : Int} {ext : Nat → Nat} (h : WF cl [] live ext []) : WF (cl ++ [nobC]) [(cl.length : Int)] live ext [] := by
  have hz : 0 < cl.length := (List.getElem?_eq_some_iff.1 h.z).1
  have hl : (cl ++ [nobC]).length = cl.length + 1 := by simp
  have hg : ∀ y, (cl ++ [nobC]).getD y nobC = cl.getD y nobC := by
    intro y
    unfold List.getD
    by_cases e : y < cl.length
    · rw [List.getElem?_append_left e]
    · rw [List.getElem?_append_right (by omega), List.getElem?_eq_none (l := cl) (by omega)]
      by_cases e2 : y - cl.length = 0
      · rw [e2]; rfl
      · rw [List.getElem?_eq_none (by simp; omega)]
  have hgg : gOf (cl ++ [nobC]) = gOf cl := by
    unfold gOf
    congr 1 <;> funext y <;> rw [hg y]
  have at_ : ∀ (i : Nat) (d : Cell), (cl ++ [nobC])[i]? = some d → (i < cl.length ∧ cl[i]? = some d) ∨ (i = cl.length ∧ d = nobC) := by
    intro i d hd
    by_cases e : i < cl.length
    · rw [List.getElem?_append_left e] at hd; exact .inl ⟨e, hd⟩
    · have hi : i < (cl ++ [nobC]).length := (List.getElem?_eq_some_iff.1 hd).1
      have e2 : i = cl.length := by omega
      subst e2
      rw [List.getElem?_append_right (Nat.le_refl _), Nat.sub_self] at hd
      exact .inr ⟨rfl, (Option.some.inj hd).symm⟩
  refine ⟨?_, ?_, ?_, ?_, ?_, by simp, ?_, fun x hx => h.en x (by omega), fun x hx => by cases hx⟩
  · rw [hl, hgg]
    refine h.acc.grow ?_ (h.en _ (Nat.le_refl _)) ?_
    · show (cl.getD cl.length nobC).r.toNat = 0
      unfold List.getD
      rw [List.getElem?_eq_none (Nat.le_refl _)]; rfl
    · intro y hy hp hm
      obtain ⟨c, hc⟩ : ∃ c, cl[y]? = some c := ⟨cl[y], List.getElem?_eq_getElem hy⟩
      rw [gOf_refs hc] at hp
      rw [gOf_kids hc] at hm
      obtain ⟨z, hz1, _, hz2⟩ := kidsOf_mem hm
      obtain ⟨q1, q2⟩ := h.kn y c hc (by omega) z hz1
      omega
  · rw [List.getElem?_append_left hz]; exact h.z
  · intro i d hd
    rcases at_ i d hd with ⟨_, hd⟩ | ⟨_, rfl⟩
    · exact h.rn i d hd
    · exact Int.le_refl 0
  · intro i d hd hp y hy
    rw [hl]
    rcases at_ i d hd with ⟨_, hd⟩ | ⟨_, rfl⟩
    · obtain ⟨q1, q2⟩ := h.kn i d hd hp y hy; exact ⟨q1, by omega⟩
    · cases hy
  · intro x hx
    obtain rfl : x = (cl.length : Int) := by simpa using hx
    rw [hl]
    refine ⟨by omega, by omega, nobC, ?_, rfl⟩
    rw [Int.toNat_natCast, List.getElem?_append_right (Nat.le_refl _), Nat.sub_self]; rfl
  · rw [h.lv]
    unfold liveN
    rw [List.countP_append]
    rfl
/-- A new arena. -/
theorem WF.new : WF [nobC] [] 0 (fun _ => 0) [] := by
  refine ⟨?_, rfl, ?_, ?_, (fun x hx => by cases hx), List.nodup_nil, rfl, fun _ _ => rfl, (fun x hx => by cases hx)⟩
  · intro x hx hx0
    have : ([nobC] : List Cell).length = 1 := rfl
    omega
  · intro i c hc
    match i, hc with
    | 0, hc => obtain rfl : nobC = c := by simpa using hc
               exact Int.le_refl 0
    | i + 1, hc => simp at hc
  · intro i c hc hp
    match i, hc with
    | 0, hc => obtain rfl : nobC = c := by simpa using hc
               exact absurd hp (Int.lt_irrefl 0)
    | i + 1, hc => simp at hc
/-- A cell is made, at the last free number: the callers' holds on its others are its own now, and the caller holds it. -/
theorem WF.make {cl : List Cell} {fr : List Int} {live : Int} {ext : Nat → Nat} {i : Int} (h : WF cl (fr ++ [i]) live ext []) (c : Cell) (hr : c.r = 1) (hk : ∀ y ∈ c.kids, 0 ≤ y ∧ y < cl.length) (hl : ∀ x, 0 < x → (kidsOf c.kids).count x ≤ ext x) :
    WF (cl.set i.toNat c) fr (live + 1) (fun x => if x = i.toNat then 1 else ext x - (kidsOf c.kids).count x) [] := by
  obtain ⟨f1, f2, d, f3, f4⟩ := h.fd i (List.mem_append_right _ (List.mem_singleton.2 rfl))
  have hi : i.toNat < cl.length := by omega
  have hlen : (cl.set i.toNat c).length = cl.length := List.length_set
  have hnf : i ∉ fr := fun hm => by
    have := h.fn
    rw [List.nodup_append] at this
    exact this.2.2 i hm i (List.mem_singleton.2 rfl) rfl
  refine ⟨?_, ?_, ?_, ?_, ?_, (List.nodup_append.1 h.fn).1, ?_, ?_, fun x hx => by cases hx⟩
  · rw [hlen, gOf_c hi, hr]
    exact h.acc.make i.toNat hi (by omega) (by rw [gOf_refs f3, f4]; rfl) _ hl
  · rw [List.getElem?_set_ne (by omega)]; exact h.z
  · intro j e he
    rcases at_set f3 he with ⟨rfl, rfl⟩ | ⟨_, he⟩
    · omega
    · exact h.rn j e he
  · intro j e he hp y hy
    rw [hlen]
    rcases at_set f3 he with ⟨rfl, rfl⟩ | ⟨_, he⟩
    · exact hk y hy
    · exact h.kn j e he hp y hy
  · intro x hx
    obtain ⟨g1, g2, e, g3, g4⟩ := h.fd x (List.mem_append_left _ hx)
    refine ⟨g1, by rw [hlen]; exact g2, e, ?_, g4⟩
    have : x.toNat ≠ i.toNat := fun q => hnf (by rw [show i = x by omega]; exact hx)
    rw [List.getElem?_set_ne (fun q => this q.symm)]; exact g3
  · have := liveN_set f3 c
    rw [if_neg (by omega), if_pos (by omega)] at this
    rw [h.lv]; omega
  · intro x hx
    rw [hlen] at hx
    rw [if_neg (by omega), h.en x hx]
    omega
/-- One hold more, by the caller. -/
theorem WF.keep {cl : List Cell} {fr : List Int} {live : Int} {ext : Nat → Nat} {k : Nat} {c : Cell} (h : WF cl fr live ext []) (hc : cl[k]? = some c) (hr : 0 < c.r) : WF (cl.set k {c with r := c.r + 1}) fr live (fun x => if x = k then ext x + 1 else ext x) [] := by
  have h1 : k < cl.length := (List.getElem?_eq_some_iff.1 hc).1
  have h0 : k ≠ 0 := fun e => by subst e; rw [h.z] at hc; cases hc; exact absurd hr (Int.lt_irrefl 0)
  have hl : (cl.set k {c with r := c.r + 1}).length = cl.length := List.length_set
  have ha := h.acc.keep k h1 (by rw [gOf_refs hc]; omega)
  rw [gOf_refs hc] at ha
  refine ⟨?_, ?_, ?_, ?_, ?_, h.fn, ?_, ?_, fun x hx => by cases hx⟩
  · rw [hl, gOf_r hc, show (c.r + 1).toNat = c.r.toNat + 1 by omega]; exact ha
  · rw [List.getElem?_set_ne h0]; exact h.z
  · intro i d hd
    rcases at_set hc hd with ⟨rfl, rfl⟩ | ⟨_, hd⟩
    · show 0 ≤ c.r + 1; omega
    · exact h.rn i d hd
  · intro i d hd hp y hy
    rw [hl]
    rcases at_set hc hd with ⟨rfl, rfl⟩ | ⟨_, hd⟩
    · exact h.kn _ c hc hr y hy
    · exact h.kn i d hd hp y hy
  · intro x hx
    obtain ⟨f1, f2, d, f3, f4⟩ := h.fd x hx
    refine ⟨f1, by rw [hl]; exact f2, d, ?_, f4⟩
    have : x.toNat ≠ k := fun e => by rw [e, hc] at f3; cases f3; omega
    rw [List.getElem?_set_ne (fun e => this e.symm)]; exact f3
  · have := liveN_set hc {c with r := c.r + 1}
    rw [if_pos hr, if_pos (by show 0 < c.r + 1; omega)] at this
    rw [h.lv]; omega
  · intro x hx
    rw [hl] at hx
    rw [if_neg (by omega)]
    exact h.en x hx
/-- A caller's hold comes onto the list. -/
theorem WF.drop {cl : List Cell} {fr : List Int} {live : Int} {ext : Nat → Nat} {i : Nat} (h : WF cl fr live ext []) (hi : 0 < i) (he : 0 < ext i) : WF cl fr live (fun x => if x = i then ext x - 1 else ext x) [i] := by
  have hl : i < cl.length := by
    by_cases c : i < cl.length
    · exact c
    · have := h.en i (by omega); omega
  refine ⟨h.acc.drop i he, h.z, h.rn, h.kn, h.fd, h.fn, h.lv, fun x hx => ?_, fun x hx => ?_⟩
  · rw [if_neg (by omega)]
    exact h.en x hx
  · obtain rfl : x = i := by simpa using hx
    exact ⟨hi, hl⟩
/-- A live cell becomes another one. -/
theorem WF.edit {cl : List Cell} {fr : List Int} {live : Int} {ext : Nat → Nat} {k : Nat} {c c' : Cell} (h : WF cl fr live ext []) (hc : cl[k]? = some c) (hr : 0 < c.r) (he : c'.r = c.r) (hk : ∀ y ∈ c'.kids, 0 ≤ y ∧ y < cl.length) (hl : ∀ x, 0 < x → (kidsOf c'.kids).count x ≤ ext x + (kidsOf c.kids).count x) :
    WF (cl.set k c') fr live (fun x => ext x + (kidsOf c.kids).count x - (kidsOf c'.kids).count x) [] := by
  have h1 : k < cl.length := (List.getElem?_eq_some_iff.1 hc).1
  have h0 : k ≠ 0 := fun e => by subst e; rw [h.z] at hc; cases hc; exact absurd hr (Int.lt_irrefl 0)
  have hlen : (cl.set k c').length = cl.length := List.length_set
  have big : ∀ (d : Cell) (x : Nat), (∀ y ∈ d.kids, 0 ≤ y ∧ y < cl.length) → cl.length ≤ x → (kidsOf d.kids).count x = 0 := by
    intro d x hd hx
    rw [List.count_eq_zero]
    intro hm
    obtain ⟨y, hy, _, e⟩ := kidsOf_mem hm
    have := hd y hy
    omega
  refine ⟨?_, ?_, ?_, ?_, ?_, h.fn, ?_, ?_, fun x hx => by cases hx⟩
  · rw [hlen, gOf_c h1, he]
    have := h.acc.edit k h1 (by rw [gOf_refs hc]; omega) (kidsOf c'.kids) (by rw [gOf_kids hc]; exact hl)
    rw [gOf_refs hc, gOf_kids hc] at this
    exact this
  · rw [List.getElem?_set_ne h0]; exact h.z
  · intro i d hd
    rcases at_set hc hd with ⟨rfl, rfl⟩ | ⟨_, hd⟩
    · omega
    · exact h.rn i d hd
  · intro i d hd hp y hy
    rw [hlen]
    rcases at_set hc hd with ⟨rfl, rfl⟩ | ⟨_, hd⟩
    · exact hk y hy
    · exact h.kn i d hd hp y hy
  · intro x hx
    obtain ⟨f1, f2, d, f3, f4⟩ := h.fd x hx
    refine ⟨f1, by rw [hlen]; exact f2, d, ?_, f4⟩
    have : x.toNat ≠ k := fun e => by rw [e, hc] at f3; cases f3; omega
    rw [List.getElem?_set_ne (fun e => this e.symm)]; exact f3
  · have := liveN_set hc c'
    rw [if_pos hr, if_pos (by omega)] at this
    rw [h.lv]; omega
  · intro x hx
    rw [hlen] at hx
    rw [h.en x hx, big c x (h.kn k c hc hr) hx]
    omega
/-- What a Drop leaves: who is live is what he was, but for how many hold him. -/
structure Left (cl cl' : List Cell) : Prop where
  len : cl'.length = cl.length
  at_ : ∀ (i : Nat) (c' : Cell), cl'[i]? = some c' → 0 < c'.r → ∃ c, cl[i]? = some c ∧ c' = {c with r := c'.r} ∧ c'.r ≤ c.r
theorem Left.refl (cl : List Cell) : Left cl cl := ⟨rfl, fun _ c h _ => ⟨c, h, rfl, Int.le_refl _⟩⟩
theorem Left.less {cl cl' : List Cell} {k : Nat} {c : Cell} {r : Int} (h : Left cl cl') (hc : cl'[k]? = some c) (hp : 0 < c.r) (hr : r ≤ c.r) : Left cl (cl'.set k {c with r := r}) := by
  refine ⟨by rw [List.length_set]; exact h.len, fun i d hd h0 => ?_⟩
  rcases at_set hc hd with ⟨rfl, rfl⟩ | ⟨_, hd⟩
  · obtain ⟨e, he, h1, h2⟩ := h.at_ _ c hc hp
    refine ⟨e, he, ?_, Int.le_trans hr h2⟩
    show ({c with r := r} : Cell) = {e with r := r}
    rw [h1]
  · exact h.at_ i d hd h0
theorem Left.last {cl cl' : List Cell} {k : Nat} {c : Cell} (h : Left cl cl') (hc : cl'[k]? = some c) : Left cl (cl'.set k nobC) := by
  refine ⟨by rw [List.length_set]; exact h.len, fun i d hd h0 => ?_⟩
  rcases at_set hc hd with ⟨rfl, rfl⟩ | ⟨_, hd⟩
  · exact absurd h0 (Int.lt_irrefl 0)
  · exact h.at_ i d hd h0
/-- Where no caller holds any, and none holds itself in a ring, none is live. -/
theorem none_live {cl : List Cell} {fr : List Int} {live : Int} (h : WF cl fr live (fun _ => 0) []) (rank : Nat → Nat)
    (hr : ∀ (y : Nat) (c : Cell), cl[y]? = some c → 0 < c.r → ∀ x ∈ kidsOf c.kids, rank x < rank y) (B : Nat) (hB : ∀ y, y < cl.length → rank y < B) : live = 0 := by
  have hz : (gOf cl).refs 0 = 0 := by rw [gOf_refs h.z]; rfl
  have hu := acc_unique (n := cl.length) (g := gOf cl) (g' := ⟨fun _ => 0, (gOf cl).kids⟩) (ext := fun _ => 0) rank h.acc (by
    intro x _ _
    have : held ⟨fun _ => 0, (gOf cl).kids⟩ cl.length x = 0 := by
      unfold held
      have : ∀ m, sm (fun y => if 0 < (⟨fun _ => 0, (gOf cl).kids⟩ : G).refs y then ((gOf cl).kids y).count x else 0) m = 0 := by
        intro m
        induction m with
        | zero => rfl
        | succ m ih =>
          simp only [sm]
          rw [ih, if_neg (Nat.lt_irrefl 0)]
      exact this _
    rw [this]
    rfl) hz rfl (fun _ _ => rfl) (by
    intro y x hy hx hp
    obtain ⟨c, hc⟩ : ∃ c, cl[y]? = some c := ⟨cl[y], List.getElem?_eq_getElem hy⟩
    rw [gOf_kids hc] at hx
    rcases hp with hp | hp
    · rw [gOf_refs hc] at hp
      exact hr y c hc (by omega) x hx
    · exact absurd hp (Nat.lt_irrefl 0)) B hB
  rw [h.lv]
  have : liveN cl = 0 := by
    unfold liveN
    rw [List.countP_eq_zero]
    intro c hc
    obtain ⟨i, hi, rfl⟩ := List.getElem_of_mem hc
    have hg : cl[i]? = some cl[i] := List.getElem?_eq_getElem hi
    by_cases i0 : i = 0
    · subst i0
      have := h.z
      rw [hg] at this
      rw [Option.some.inj this]
      decide
    · have := hu i hi (by omega)
      rw [gOf_refs hg] at this
      have h2 : (cl[i]).r.toNat = 0 := this
      simp
      omega
  rw [this]
  rfl
end Go.Proofs.Ytnipbfhfaefieaa.Arn
/-! arena: is, Refs, Keep, Live, as contracts. -/
namespace Go.Proofs.Ytnipbfhfaefieaa.Arn
open Go.RowKit Go Go.Proofs.YtnipbfhfaefieaaW.PrintWords Go.Proofs.YtnipbfhfaefieaaW.PrintMore Go.Proofs.YtnipbfhfaefieaaW.PrintLast Go.Proofs.Ytnipbfhfaefieaa.Bts Go.Proofs.Ytnipbfhfaefieaa.Fra
abbrev RawA (W : World) (base a gs cs : Nat) (vf : Value) (sl : List Slot) (fr : List Int) (live most : Int) : Prop := Raw 112 115 3 W base a gs cs vf sl fr live most
theorem is_nil (i : Int) (w : World) : Calls Try.prog 68 #[.pointer none, .int .i64 i] w fun e w' => e = .returned (.bool false) ∧ Below w.heap.size w w' := by
  go_enter Try.func68, Try.ntmps68
  go_wp2
  go_ret
  exact ⟨rfl, Below.refl _ _⟩
set_option maxHeartbeats 2000000 in
theorem is_calls {base a gs cs : Nat} {vf : Value} {sl : List Slot} {fr : List Int} {live most : Int} (i : Int) (w : World) (h : RawA w base a gs cs vf sl fr live most) (hs : sl.length ≤ 1000000000) :
    Calls Try.prog 68 #[.pointer (some ⟨a, 0, none⟩), .int .i64 i] w fun e w' => e = .returned (.bool (decide (0 < i) && (decide (i < sl.length) && decide (0 < (sl.getD i.toNat nob).r)))) ∧ Below w.heap.size w w' := by
  have p0 := blk_cell h.obj 0
  have HR := Lib.hid h
  have hs' : (sl.length : Int) ≤ 1000000000 := by omega
  clear h
  by_cases h0 : 0 < i
  · by_cases h1 : i < sl.length
    · obtain ⟨k, rfl⟩ : ∃ k : Nat, i = k := ⟨i.toNat, by omega⟩
      have hk : k < sl.length := by omega
      obtain ⟨s, hsl⟩ : ∃ s, sl[k]? = some s := ⟨sl[k], List.getElem?_eq_getElem hk⟩
      have hc := HR.out.cell k s hsl 5 (by decide)
      replace hc : w.cell? ⟨gs, k * 6 + 5, none⟩ = some (.int .i64 s.r) := hc
      have hg : sl.getD k nob = s := by simp [List.getD, hsl]
      rw [Int.toNat_natCast, hg]
      clear hsl hg
      go_enter Try.func68, Try.ntmps68
      go_wp2
      go_ret
      exact ⟨by rw [decide_eq_true h0, decide_eq_true h1, Bool.true_and, Bool.true_and]; rfl, Below.refl _ _⟩
    · have e : (decide (0 < i) && (decide (i < (sl.length : Int)) && decide (0 < (sl.getD i.toNat nob).r))) = false := by simp [h1]
      rw [e]
      have b1 : decide (i < (sl.length : Int)) = false := by simpa using h1
      go_enter Try.func68, Try.ntmps68
      go_wp2
      go_ret
      exact ⟨rfl, Below.refl _ _⟩
  · have e : (decide (0 < i) && (decide (i < (sl.length : Int)) && decide (0 < (sl.getD i.toNat nob).r))) = false := by simp [h0]
    rw [e]
    go_enter Try.func68, Try.ntmps68
    go_wp2
    go_ret
    exact ⟨by simp [h0], Below.refl _ _⟩
theorem keep_none {base a gs cs : Nat} {vf : Value} {sl : List Slot} {fr : List Int} {live most : Int} (i : Int) (w : World) (h : RawA w base a gs cs vf sl fr live most) (hs : sl.length ≤ 1000000000) (hi : (decide (0 < i) && (decide (i < sl.length) && decide (0 < (sl.getD i.toNat nob).r))) = false) :
    Calls Try.prog 27 #[.pointer (some ⟨a, 0, none⟩), .int .i64 i] w fun e w' => e = .returned (.int .i64 4) ∧ Below w.heap.size w w' := by
  have HI := Lib.hid (is_calls i w h hs)
  rw [hi] at HI
  clear h hi
  go_enter Try.func27, Try.ntmps27
  go_wp2_with (go_at_call 68; go_loud (refine HI.out.mono ?_; rintro e w1 ⟨rfl, hB⟩))
  go_ret
  exact ⟨rfl, hB⟩
set_option maxHeartbeats 2000000 in
/-- A live cell is held once more. -/
theorem keep_raw {base a gs cs : Nat} {vf : Value} {sl : List Slot} {fr : List Int} {live most : Int} (k : Nat) (s : Slot) (w : World) (h : RawA w base a gs cs vf sl fr live most) (hs : sl.length ≤ 1000000000) (hk : sl[k]? = some s) (h0 : 0 < k) (hr : 0 < s.r) (hr2 : s.r < 9223372036854775807) :
    Calls Try.prog 27 #[.pointer (some ⟨a, 0, none⟩), .int .i64 k] w fun e w' => e = .returned (.int .i64 0) ∧ RawA w' base a gs cs vf (sl.set k {s with r := s.r + 1}) fr live most ∧ ∃ w1, Below w.heap.size w w1 ∧ w' = w1.setCell ⟨gs, k * 6 + 5, none⟩ (.int .i64 (s.r + 1)) := by
  have hl : k < sl.length := (List.getElem?_eq_some_iff.1 hk).1
  have hg : sl.getD k nob = s := by simp [List.getD, hk]
  have hi := is_calls (k : Int) w h hs
  rw [Int.toNat_natCast, hg, decide_eq_true (show 0 < (k : Int) by omega), decide_eq_true (show (k : Int) < sl.length by omega), decide_eq_true hr] at hi
  have HI := Lib.hid hi
  have HR := Lib.hid h
  have HK := Lib.hid hk
  have hs' : (sl.length : Int) ≤ 1000000000 := by omega
  clear h hi hk hg
  go_enter Try.func27, Try.ntmps27
  go_wp2_with (go_at_call 68; go_loud (refine HI.out.mono ?_; rintro e w1 ⟨rfl, hB⟩; have hr1 := HR.out.kept (Fr.of_new (S := fun _ => False) hB) id id (fun _ _ => id); have p0 := blk_cell hr1.obj 0; have q5 : w1.cell? ⟨gs, k * 6 + 5, none⟩ = some (.int .i64 s.r) := hr1.cell k s HK.out 5 (by decide); have z5 := hr1.frozen (k * 6 + 5); have HR1 := Lib.hid hr1; have HB := Lib.hid hB; clear hr1 hB))
  go_ret
  exact ⟨rfl, HR1.out.put k 5 _ s _ HK.out (by decide) rfl, _, HB.out, rfl⟩
end Go.Proofs.Ytnipbfhfaefieaa.Arn
/-! arena: Live, Room, Refs, New, as contracts. -/
namespace Go.Proofs.Ytnipbfhfaefieaa.Arn
open Go.RowKit Go Go.Proofs.YtnipbfhfaefieaaW.PrintWords Go.Proofs.YtnipbfhfaefieaaW.PrintMore Go.Proofs.YtnipbfhfaefieaaW.PrintLast Go.Proofs.Ytnipbfhfaefieaa.Bts Go.Proofs.Ytnipbfhfaefieaa.Fra
theorem load_calls (p : Addr) (x : Int) (w : World) (hp : p.spot = none) (hc : w.cell? p = some (.int .i64 x)) : Calls Try.prog 67 #[.pointer (some p)] w fun e w' => e = .returned (.int .i64 x) ∧ w' = w := by
  obtain ⟨b, o, q⟩ := p
  obtain rfl : q = none := hp
  have hl := run_call_load (P := Try.prog) Try.func94 (by kernel_rfl) (by kernel_rfl) (by kernel_rfl) .i64 (by kernel_rfl) hc
  go_enter Try.func67, Try.ntmps67
  go_wp2
  go_ret
  exact ⟨rfl, rfl⟩
theorem add_calls (p : Addr) (x y : Int) (w : World) (hp : p.spot = none) (hc : w.cell? p = some (.int .i64 x)) (hz : w.frozen? p = false) : Calls Try.prog 66 #[.pointer (some p), .int .i64 y] w fun e w' => e = .returned (.int .i64 (wrap64 (x + y))) ∧ w' = w.setCell p (.int .i64 (wrap64 (x + y))) := by
  obtain ⟨b, o, q⟩ := p
  obtain rfl : q = none := hp
  have hl := run_call_add (P := Try.prog) Try.func93 (by kernel_rfl) (by kernel_rfl) (by kernel_rfl) .i64 (by kernel_rfl) (y := y) (s := wrap64 (x + y)) hc hz (by simp [go_sem, wrap64, IntKind.wrap_i64])
  go_enter Try.func66, Try.ntmps66
  go_wp2
  go_ret
  exact ⟨rfl, rfl⟩
theorem live_nil (w : World) : Calls Try.prog 22 #[.pointer none] w fun e w' => e = .returned (.int .i64 0) ∧ w' = w := by
  go_enter Try.func22, Try.ntmps22
  go_wp2
  go_ret
  exact ⟨rfl, rfl⟩
theorem room_nil (w : World) : Calls Try.prog 25 #[.pointer none] w fun e w' => e = .returned (.int .i64 0) ∧ w' = w := by
  go_enter Try.func25, Try.ntmps25
  go_wp2
  go_ret
  exact ⟨rfl, rfl⟩
section
variable {base a gs cs : Nat} {vf : Value} {sl : List Slot} {fr : List Int} {live most : Int}
theorem live_calls (w : World) (h : RawA w base a gs cs vf sl fr live most) : Calls Try.prog 22 #[.pointer (some ⟨a, 0, none⟩)] w fun e w' => e = .returned (.int .i64 live) ∧ w' = w := by
  have p2 := blk_cell h.obj 2
  have H := Lib.hid h
  clear h
  go_enter Try.func22, Try.ntmps22
  go_wp2_with (go_at_call 67; go_loud (refine (load_calls _ live _ rfl p2).mono ?_; rintro e w1 ⟨rfl, rfl⟩))
  go_ret
  exact ⟨rfl, rfl⟩
theorem room_calls (w : World) (h : RawA w base a gs cs vf sl fr live most) : Calls Try.prog 25 #[.pointer (some ⟨a, 0, none⟩)] w fun e w' => e = .returned (.int .i64 (wrap64 (most - live))) ∧ Below w.heap.size w w' := by
  have p3 := blk_cell h.obj 3
  have hl := fun n => live_calls (w.drewN n) (h.kept (Fr.of_new (S := fun _ => False) (pw_below_drewN (Below.refl _ _) n)) id id (fun _ _ => id))
  have H := Lib.hid h
  clear h
  go_enter Try.func25, Try.ntmps25
  go_wp2
  go_quiet (exact Calls.quiet_of_same (hl _))
  go_wp2
  go_ret
  exact ⟨rfl, pw_below_drewN (Below.refl _ _) _⟩
theorem refs_nil (i : Int) (w : World) : Calls Try.prog 26 #[.pointer none, .int .i64 i] w fun e w' => e = .returned (.int .i64 0) ∧ Below w.heap.size w w' := by
  go_enter Try.func26, Try.ntmps26
  go_wp2_with (go_at_call 68; go_loud (refine (is_nil _ _).mono ?_; rintro e w1 ⟨rfl, hB⟩))
  go_ret
  exact ⟨rfl, hB⟩
theorem keep_nil (i : Int) (w : World) : Calls Try.prog 27 #[.pointer none, .int .i64 i] w fun e w' => e = .returned (.int .i64 4) ∧ Below w.heap.size w w' := by
  go_enter Try.func27, Try.ntmps27
  go_wp2_with (go_at_call 68; go_loud (refine (is_nil _ _).mono ?_; rintro e w1 ⟨rfl, hB⟩))
  go_ret
  exact ⟨rfl, hB⟩
theorem drop_nil (i : Int) (w : World) : Calls Try.prog 23 #[.pointer none, .int .i64 i] w fun e w' => e = .returned (.int .i64 4) ∧ Below w.heap.size w w' := by
  go_enter Try.func23, Try.ntmps23
  go_wp2_with (go_at_call 68; go_loud (refine (is_nil _ _).mono ?_; rintro e w1 ⟨rfl, hB⟩))
  go_ret
  exact ⟨rfl, hB⟩
/-- Is a number a live cell's? -/
def isB (sl : List Slot) (i : Int) : Bool := decide (0 < i) && (decide (i < sl.length) && decide (0 < (sl.getD i.toNat nob).r))
theorem is_raw (i : Int) (w : World) (h : RawA w base a gs cs vf sl fr live most) (hs : sl.length ≤ 1000000000) : Calls Try.prog 68 #[.pointer (some ⟨a, 0, none⟩), .int .i64 i] w fun e w' => e = .returned (.bool (isB sl i)) ∧ Below w.heap.size w w' := is_calls i w h hs
theorem refs_none (i : Int) (w : World) (h : RawA w base a gs cs vf sl fr live most) (hs : sl.length ≤ 1000000000) (hi : isB sl i = false) :
    Calls Try.prog 26 #[.pointer (some ⟨a, 0, none⟩), .int .i64 i] w fun e w' => e = .returned (.int .i64 0) ∧ Below w.heap.size w w' := by
  have HI := Lib.hid (is_raw i w h hs)
  rw [hi] at HI
  clear h hi
  go_enter Try.func26, Try.ntmps26
  go_wp2_with (go_at_call 68; go_loud (refine HI.out.mono ?_; rintro e w1 ⟨rfl, hB⟩))
  go_ret
  exact ⟨rfl, hB⟩
theorem drop_none (i : Int) (w : World) (h : RawA w base a gs cs vf sl fr live most) (hs : sl.length ≤ 1000000000) (hi : isB sl i = false) :
    Calls Try.prog 23 #[.pointer (some ⟨a, 0, none⟩), .int .i64 i] w fun e w' => e = .returned (.int .i64 4) ∧ Below w.heap.size w w' := by
  have HI := Lib.hid (is_raw i w h hs)
  rw [hi] at HI
  clear h hi
  go_enter Try.func23, Try.ntmps23
  go_wp2_with (go_at_call 68; go_loud (refine HI.out.mono ?_; rintro e w1 ⟨rfl, hB⟩))
  go_ret
  exact ⟨rfl, hB⟩
theorem isB_at {k : Nat} {s : Slot} (hk : sl[k]? = some s) (h0 : 0 < k) (hr : 0 < s.r) : isB sl (k : Int) = true := by
  have hl : k < sl.length := (List.getElem?_eq_some_iff.1 hk).1
  have hg : sl.getD k nob = s := by simp [List.getD, hk]
  unfold isB
  rw [Int.toNat_natCast, hg, decide_eq_true (show 0 < (k : Int) by omega), decide_eq_true (show (k : Int) < sl.length by omega), decide_eq_true hr]
  rfl
theorem refs_raw (k : Nat) (s : Slot) (w : World) (h : RawA w base a gs cs vf sl fr live most) (hs : sl.length ≤ 1000000000) (hk : sl[k]? = some s) (h0 : 0 < k) (hr : 0 < s.r) :
    Calls Try.prog 26 #[.pointer (some ⟨a, 0, none⟩), .int .i64 k] w fun e w' => e = .returned (.int .i64 s.r) ∧ Below w.heap.size w w' := by
  have hl : k < sl.length := (List.getElem?_eq_some_iff.1 hk).1
  have hi := is_raw (k : Int) w h hs
  rw [isB_at hk h0 hr] at hi
  have HI := Lib.hid hi
  have HR := Lib.hid h
  have HK := Lib.hid hk
  have hs' : (sl.length : Int) ≤ 1000000000 := by omega
  clear h hi hk
  go_enter Try.func26, Try.ntmps26
  go_wp2_with (go_at_call 68; go_loud (refine HI.out.mono ?_; rintro e w1 ⟨rfl, hB⟩; have hr1 := HR.out.kept (Fr.of_new (S := fun _ => False) hB) id id (fun _ _ => id); have p0 := blk_cell hr1.obj 0; have q5 : w1.cell? ⟨gs, k * 6 + 5, none⟩ = some (.int .i64 s.r) := hr1.cell k s HK.out 5 (by decide); have HR1 := Lib.hid hr1; have HB := Lib.hid hB; clear hr1 hB))
  go_ret
  exact ⟨rfl, HB.out⟩
end
theorem new_err (n : Int) (w : World) (h : ¬ (1 ≤ n ∧ n ≤ 1048576)) : Calls Try.prog 20 #[.int .i64 n] w fun e w' => e = .returned (.tuple #[.pointer none, .int .i64 1]) ∧ Below w.heap.size w w' := by
  by_cases h1 : n < 1
  · go_enter Try.func20, Try.ntmps20
    go_wp2
    go_ret2
    exact ⟨rfl, Below.refl _ _⟩
  · have h2 : 1048576 < n := by omega
    go_enter Try.func20, Try.ntmps20
    go_wp2
    go_ret2
    exact ⟨rfl, Below.refl _ _⟩
end Go.Proofs.Ytnipbfhfaefieaa.Arn
/-! slices.Clone of whole numbers: a new row that reads the same. -/
namespace Go.Proofs.Ytnipbfhfaefieaa.ClI
open Go.RowKit Go Go.Proofs.YtnipbfhfaefieaaW.PrintWords Go.Proofs.YtnipbfhfaefieaaW.PrintMore

theorem infoInt : (Try.prog.info? 3).map (fun i => (i.zero, i.size, i.bytes)) = some (some (.int .i64 0), 1, 8) := by kernel_rfl
/-- A new row of no elements. -/
theorem R_empty (w : World) : (Kd.int .i64).R 3 (w.alloc (.cells #[] 3)) w.heap.size (fun _ => True) (.slice (some ⟨w.heap.size, 0, none⟩) 0 0) [] :=
  ⟨fun _ _ => trivial, [], ⟨rfl, .inr ⟨w.heap.size, 0, #[], rfl, Nat.le_refl _, heap_alloc_new w _, Nat.le_refl _, by unfold maxLen; omega, rfl, rfl⟩⟩, Reps.none _ _⟩
set_option maxHeartbeats 2000000 in
set_option maxRecDepth 100000 in
theorem clone_ints (A : Option Addr) (c : Nat) (xs : List Int) (w : World) (hC : (Kd.int .i64).C w A xs.length xs) (hl : xs.length * 8 ≤ 140737488355328) (hn : A = none → xs = [] ∧ c = 0) :
    Calls Try.prog 75 #[.slice A xs.length c] w fun e w' => ∃ v, e = .returned v ∧ (Kd.int .i64).R 3 w' w.heap.size (fun _ => True) v xs ∧ Below w.heap.size w w' := by
  have eq0 := fun (w : World) (a : Option Addr) (n c : Nat) => Lib.run_eql_slice_nil (P := Try.prog) w 27 3 a n c 0 0 Try.underlying27
  cases A with
  | none =>
    obtain ⟨rfl, rfl⟩ := hn rfl
    go_enter Try.func75, Try.ntmps75
    go_wp2
    go_ret
    exact ⟨_, rfl, Kd.R_nil _ _ _ _ _, Below.refl _ _⟩
  | some ad =>
    have HC := Lib.hid hC
    clear hC hn
    go_enter Try.func75, Try.ntmps75
    go_wp2_with (at_builtin; refine Kd.R_append_rows (Kd.int .i64) (Rr := (Kd.int .i64).K w) (w0 := w) w.heap.size rfl (.tmp 5) (.tmp 6) 27 3 (.int .i64 0) 8 rfl Try.underlying27 infoInt rfl (by decide) (by decide) (.slice (some ⟨w.heap.size, 0, none⟩) 0 0) [] xs (some ad) xs.length c (fun _ => True) (fun k => False) rfl rfl ?r1 ?r2 (fun _ _ h => h) (fun _ h => h.elim) (fun _ _ => trivial) ?r6 ?r7 ?r8 ?_)
    case r1 => exact R_empty w
    case r2 => exact Kd.C_below HC.out (below_alloc (Below.refl _ _) _)
    case r6 => exact below_alloc (Below.refl _ _) _
    case r7 => simp
    case r8 => simp; omega
    intro v1 w1 hR hB _ _
    go_wp2
    go_ret
    exact ⟨_, rfl, hR, hB⟩
end Go.Proofs.Ytnipbfhfaefieaa.ClI
/-! slices.Clone of values: a new row that reads the same. -/
namespace Go.Proofs.Ytnipbfhfaefieaa.ClV
open Go.RowKit Go Go.Proofs.YtnipbfhfaefieaaW.PrintWords Go.Proofs.YtnipbfhfaefieaaW.PrintMore Go.Proofs.Ytnipbfhfaefieaa.Arn

theorem infoVal : (Try.prog.info? 66).map (fun i => (i.zero, i.size, i.bytes)) = some (some (.agg #[.int .u8 0, .int .i64 0, .string (⟨#[]⟩ : ByteArray)]), 3, 32) := by kernel_rfl
/-- A new row of no elements. -/
theorem R_empty (w : World) : kVal.R 66 (w.alloc (.cells #[] 66)) w.heap.size (fun _ => True) (.slice (some ⟨w.heap.size, 0, none⟩) 0 0) [] :=
  ⟨fun _ _ => trivial, [], ⟨rfl, .inr ⟨w.heap.size, 0, #[], rfl, Nat.le_refl _, heap_alloc_new w _, Nat.le_refl _, by unfold maxLen; omega, rfl, rfl⟩⟩, Reps.none _ _⟩
set_option maxHeartbeats 2000000 in
set_option maxRecDepth 100000 in
theorem clone_vals (A : Option Addr) (c : Nat) (xs : List (Int × Int × ByteArray)) (w : World) (hC : kVal.C w A xs.length xs) (hl : xs.length * 32 ≤ 140737488355328) (hn : A = none → xs = [] ∧ c = 0) :
    Calls Try.prog 47 #[.slice A xs.length c] w fun e w' => ∃ v, e = .returned v ∧ kVal.R 66 w' w.heap.size (fun _ => True) v xs ∧ Below w.heap.size w w' := by
  have eq0 := fun (w : World) (a : Option Addr) (n c : Nat) => Lib.run_eql_slice_nil (P := Try.prog) w 41 66 a n c 0 0 Try.underlying41
  cases A with
  | none =>
    obtain ⟨rfl, rfl⟩ := hn rfl
    go_enter Try.func47, Try.ntmps47
    go_wp2
    go_ret
    exact ⟨_, rfl, Kd.R_nil _ _ _ _ _, Below.refl _ _⟩
  | some ad =>
    have HC := Lib.hid hC
    clear hC hn
    go_enter Try.func47, Try.ntmps47
    go_wp2_with (at_builtin; refine Kd.R_append_rows kVal (Rr := kVal.K w) (w0 := w) w.heap.size rfl (.tmp 5) (.tmp 6) 41 66 (.agg #[.int .u8 0, .int .i64 0, .string (⟨#[]⟩ : ByteArray)]) 32 rfl Try.underlying41 infoVal rfl (by decide) (by decide) (.slice (some ⟨w.heap.size, 0, none⟩) 0 0) [] xs (some ad) xs.length c (fun _ => True) (fun k => False) rfl rfl ?r1 ?r2 (fun _ _ h => h) (fun _ h => h.elim) (fun _ _ => trivial) ?r6 ?r7 ?r8 ?_)
    case r1 => exact R_empty w
    case r2 => exact Kd.C_below HC.out (below_alloc (Below.refl _ _) _)
    case r6 => exact below_alloc (Below.refl _ _) _
    case r7 => simp
    case r8 => simp; omega
    intro v1 w1 hR hB _ _
    go_wp2
    go_ret
    exact ⟨_, rfl, hR, hB⟩
end Go.Proofs.Ytnipbfhfaefieaa.ClV
