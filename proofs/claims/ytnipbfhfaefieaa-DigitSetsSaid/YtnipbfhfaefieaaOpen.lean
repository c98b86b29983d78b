/- What a law's argument reads as, by kinds: from the row's reading of an argument to a list, a struct or a number, with its bounds. No program is named here. -/
import Derived.OpenShut
import Derived.Lib.SmallJoins
import Derived.Deep.Slices
import Derived.ChangeArms
import Derived.SizedLaws
import Derived.WideShapes
import Derived.DataElems
import Derived.Test.YtnipbfhfaefieaaWWords
namespace Go.Proofs.Ytnipbfhfaefieaa.Open
open Go.RowKit Go.Proofs.YtnipbfhfaefieaaW.PrintWords Go.WideShapes Go.Deep

structure Opens {α : Type} (P : Program) (t : TypeId) (d : Kd α) (φ : α → Prop) : Prop where
  size : P.cellsOf t = d.sz
  op : ∀ {H : Type} {enc : TypeId × Value → H} {w : World} {base : Nat} {spare : Nat → Bool} {held : Bool} {fuel : Nat} {cs : List Value} {y : DataW H × List MemPlace},
    DataW.trod enc P w base spare held fuel t cs = some y → (∀ n ∈ y.1.weights P t, n ≤ reachBytes) → ∃ x, d.K w x cs ∧ φ x

theorem Opens.imp {α : Type} {P : Program} {t : TypeId} {d : Kd α} {φ ψ : α → Prop} (h : Opens P t d φ) (hi : ∀ x, φ x → ψ x) : Opens P t d ψ :=
  ⟨h.size, fun hy hw => let ⟨x, k, p⟩ := h.op hy hw; ⟨x, k, hi x p⟩⟩

theorem opens_int {P : Program} {t : TypeId} {k : IntKind} (ht : P.underlying t = some (.int k)) (hs : P.cellsOf t = 1) : Opens P t (Kd.int k) (fun n => k.min ≤ n ∧ n ≤ k.max) := by
  refine ⟨hs, fun hy _ => ?_⟩
  obtain ⟨n, rfl, _, hw⟩ := DataW.trod_int ht hy
  exact ⟨n, rfl, by simpa [Lit.wf] using hw⟩
theorem opens_bool {P : Program} {t : TypeId} (ht : P.underlying t = some .bool) (hs : P.cellsOf t = 1) : Opens P t Kd.bool (fun _ => True) := by
  refine ⟨hs, fun hy _ => ?_⟩
  obtain ⟨n, rfl, _⟩ := DataW.trod_bool ht hy
  exact ⟨n, rfl, trivial⟩
theorem opens_string {P : Program} {t : TypeId} (ht : P.underlying t = some .string) (hs : P.cellsOf t = 1) : Opens P t Kd.string (fun s => s.size ≤ 140737488351232) := by
  refine ⟨hs, fun hy hw => ?_⟩
  obtain ⟨s, rfl, rfl, _⟩ := DataW.trod_string ht hy
  refine ⟨s, rfl, ?_⟩
  have := hw s.data.toList.length (by simp [DataW.weights])
  rw [Array.length_toList] at this
  have hr : reachBytes = 140737488351232 := by decide
  rw [hr] at this
  exact this
theorem opens_iso {α β : Type} {P : Program} {t : TypeId} {d : Kd α} {φ : α → Prop} (h : Opens P t d φ) (f : β → α) (g : α → β) (hg : ∀ x, f (g x) = x) : Opens P t (d.iso f) (fun x => φ (f x)) := by
  refine ⟨h.size, fun hy hw => ?_⟩
  obtain ⟨x, k, p⟩ := h.op hy hw
  refine ⟨g x, ?_, ?_⟩
  · show d.K _ (f (g x)) _
    rw [hg]; exact k
  · show φ (f (g x))
    rw [hg]; exact p

theorem weightsAll_mem {H : Type} {P : Program} {e : TypeId} : ∀ {l : List (DataW H)} {d : DataW H}, d ∈ l → ∀ n ∈ d.weights P e, n ∈ DataW.weightsAll P e l
  | x :: l, d, hd, n, hn => by
    unfold DataW.weightsAll
    rcases List.mem_cons.1 hd with rfl | hd
    · exact List.mem_append_left _ hn
    · exact List.mem_append_right _ (weightsAll_mem hd n hn)

theorem opens_slice {α : Type} {P : Program} {t e : TypeId} {d : Kd α} {φ : α → Prop} (ht : P.underlying t = some (.slice e)) (hs : P.cellsOf t = 1) (h : Opens P e d φ) :
    Opens P t (Kd.slice e d) (fun xs => xs.length ≤ maxLen ∧ xs.length * P.bytesOf e ≤ 140737488351232 ∧ ∀ x ∈ xs, φ x) := by
  refine ⟨hs, fun {H enc w base spare held fuel cs y} hy hw => ?_⟩
  rcases open_slice ht hy with ⟨rfl, rfl⟩ | ⟨a, len, cap, m, n, D, Pl, rfl, _, hl, hc, hm, rfl, hel⟩
  · refine ⟨[], ⟨none, 0, rfl, Nat.le_refl _, rfl, by simp, fun h => absurd h (by simp)⟩, by simp, by simp, by simp⟩
  · have hlm : len ≤ m := by rw [hm]; split <;> omega
    have hwt : ∀ i, i < len → ∀ z ∈ (D i).weights P e, z ≤ reachBytes := fun i hi z hz => hw z (by
      unfold DataW.weights
      rw [ht]
      exact List.mem_cons_of_mem _ (List.mem_append_left _ (weightsAll_mem (List.mem_map.2 ⟨i, List.mem_range.2 hi, rfl⟩) z hz)))
    have hone : ∀ i, i < len → ∃ x cs', w.cells? base (a.add (i * P.cellsOf e)) (P.cellsOf e) = some cs' ∧ d.K w x cs' ∧ φ x := fun i hi => by
      obtain ⟨cs', h1, h2⟩ := hel i (by omega)
      obtain ⟨x, k, p⟩ := h.op h2 (hwt i hi)
      exact ⟨x, cs', h1, k, p⟩
    have hxs : ∀ k, k ≤ len → ∃ xs : List α, xs.length = k ∧ ∀ i x, xs[i]? = some x → ∃ cs', w.cells? base (a.add (i * P.cellsOf e)) (P.cellsOf e) = some cs' ∧ d.K w x cs' ∧ φ x := by
      intro k
      induction k with
      | zero => exact fun _ => ⟨[], rfl, fun i x hx => by simp at hx⟩
      | succ k ih =>
        intro hk
        obtain ⟨xs, hlen, hx⟩ := ih (by omega)
        obtain ⟨x, cs', h1, h2, h3⟩ := hone k (by omega)
        refine ⟨xs ++ [x], by simp [hlen], fun i x' hi => ?_⟩
        rcases Nat.lt_trichotomy i xs.length with hlt | heq | hgt
        · rw [List.getElem?_append_left hlt] at hi
          exact hx i x' hi
        · subst heq
          have : x = x' := by simpa using hi
          subst this
          rw [hlen]
          exact ⟨cs', h1, h2, h3⟩
        · rw [List.getElem?_append_right (by omega)] at hi
          have : i - xs.length ≠ 0 := by omega
          obtain ⟨q, hq⟩ : ∃ q, i - xs.length = q + 1 := ⟨i - xs.length - 1, by omega⟩
          rw [hq] at hi
          simp at hi
    obtain ⟨xs, hlen, hx⟩ := hxs len (Nat.le_refl _)
    subst hlen
    have hbytes : xs.length * P.bytesOf e ≤ 140737488351232 := by
      have := hw ((xs.length + (m - xs.length)) * P.bytesOf e) (by
        unfold DataW.weights
        rw [ht]
        simp)
      have hr : reachBytes = 140737488351232 := by decide
      rw [hr] at this
      exact Nat.le_trans (Nat.mul_le_mul_right _ (Nat.le_add_right _ _)) this
    refine ⟨xs, ⟨some a, cap, rfl, hl, rfl, ?_, fun _ => ⟨a, rfl, fun j p hj => ?_⟩⟩, by omega, hbytes, fun x hmem => ?_⟩
    · unfold maxLen at hc; omega
    · obtain ⟨cs', h1, h2, _⟩ := hx j p hj
      obtain ⟨_, h4, h5⟩ := World.cells?_some h1
      refine ⟨cs', d.K_len h2, h2, fun i u hu => ?_⟩
      have hi : i < P.cellsOf e := by rw [← h4]; exact (List.getElem?_eq_some_iff.1 hu).1
      rw [← h.size, ← Go.Addr.add_add, h5 i hi, hu]
    · obtain ⟨i, hi, rfl⟩ := List.mem_iff_getElem.1 hmem
      obtain ⟨_, _, _, p⟩ := hx i _ (List.getElem?_eq_getElem hi)
      exact p

/-- A row read as data of another form. -/
theorem C_iso {α β : Type} {d : Kd α} {w : World} {A : Option Addr} {n : Nat} {xs : List α} (f : β → α) (g : α → β) (hg : ∀ x, f (g x) = x) (h : d.C w A n xs) : (d.iso f).C w A n (xs.map g) := by
  obtain ⟨h1, h2, h3⟩ := h
  refine ⟨by simpa using h1, h2, fun hn => ?_⟩
  obtain ⟨ad, e, hc⟩ := h3 hn
  refine ⟨ad, e, fun j p hj => ?_⟩
  rw [List.getElem?_map] at hj
  obtain ⟨x, hx, rfl⟩ := Option.map_eq_some_iff.1 hj
  obtain ⟨c, hs, hr, hcell⟩ := hc j x hx
  refine ⟨c, hs, ?_, hcell⟩
  show d.K w (f (g x)) c
  rw [hg]; exact hr

/-! ## structs: the fields, one behind the other -/
structure OpensF {α : Type} (P : Program) (fs : List Field) (o : Nat) (d : Kd α) (φ : α → Prop) : Prop where
  op : ∀ {H : Type} {enc : TypeId × Value → H} {w : World} {base : Nat} {spare : Nat → Bool} {held : Bool} {fuel : Nat} {cs : List Value} {ys : List (DataW H × List MemPlace)},
    cs.length = o + d.sz → ys.length = fs.length → (∀ (i : Nat) (f : Field), fs[i]? = some f → DataW.trod enc P w base spare held fuel f.type ((cs.drop f.offset).take (P.cellsOf f.type)) = ys[i]?) →
    (∀ n ∈ DataW.weightsEach P (fs.map (·.type)) (ys.map (·.1)), n ≤ reachBytes) → ∃ x, d.K w x (cs.drop o) ∧ φ x

theorem opensF_one {α : Type} {P : Program} {f : Field} {o : Nat} {d : Kd α} {φ : α → Prop} (ho : f.offset = o) (h : Opens P f.type d φ) : OpensF P [f] o d φ := by
  refine ⟨fun {H enc w base spare held fuel cs ys} hl hy ht hw => ?_⟩
  match ys, hy with
  | [y], _ =>
    have h0 := ht 0 f rfl
    have hlen : (cs.drop o).length = d.sz := by rw [List.length_drop]; omega
    rw [ho, h.size, ← hlen, List.take_length] at h0
    exact h.op h0 (fun n hn => hw n (by simp [DataW.weightsEach, hn]))
theorem opensF_cons {α β : Type} {P : Program} {f : Field} {fs : List Field} {o : Nat} {d : Kd α} {φ : α → Prop} {d' : Kd β} {ψ : β → Prop} (ho : f.offset = o) (h : Opens P f.type d φ) (hr : OpensF P fs (o + d.sz) d' ψ) :
    OpensF P (f :: fs) o (Kd.pair d d') (fun x => φ x.1 ∧ ψ x.2) := by
  refine ⟨fun {H enc w base spare held fuel cs ys} hl hy ht hw => ?_⟩
  match ys, hy with
  | y :: ys, hy =>
    have hl' : cs.length = o + d.sz + d'.sz := by have : (Kd.pair d d').sz = d.sz + d'.sz := rfl; omega
    have h0 := ht 0 f rfl
    rw [ho, h.size] at h0
    obtain ⟨x, k1, p1⟩ := h.op h0 (fun n hn => hw n (by simp [DataW.weightsEach, hn]))
    obtain ⟨x', k2, p2⟩ := hr.op (cs := cs) (ys := ys) hl' (by simpa using hy) (fun i g hg => by simpa using ht (i + 1) g (by simpa using hg)) (fun n hn => hw n (by simp only [List.map_cons, DataW.weightsEach]; exact List.mem_append_right _ hn))
    refine ⟨(x, x'), ⟨_, _, ?_, k1, k2⟩, p1, p2⟩
    rw [← List.drop_drop, List.take_append_drop]
theorem opens_struct {α : Type} {P : Program} {t : TypeId} {fs : Array Field} {d : Kd α} {φ : α → Prop} (ht : P.underlying t = some (.struct fs)) (hs : P.cellsOf t = d.sz) (h : OpensF P fs.toList 0 d φ) : Opens P t d φ := by
  refine ⟨hs, fun {H enc w base spare held fuel cs y} hy hw => ?_⟩
  obtain ⟨xs, n, _, rfl, hl, hlen, hf⟩ := DataW.trod_struct ht hy
  have := h.op (cs := cs) (ys := xs) (by omega) (by simpa using hlen) (fun i f hi => hf i f (by simpa using hi)) (fun n hn => hw n (by unfold DataW.weights; rw [ht]; exact hn))
  simpa using this
/-- An array of two. -/
theorem opens_array2 {α : Type} {P : Program} {t e : TypeId} {d : Kd α} {φ : α → Prop} (ht : P.underlying t = some (.array 2 e)) (hs : P.cellsOf t = d.sz + d.sz) (h : Opens P e d φ) : Opens P t (Kd.pair d d) (fun x => φ x.1 ∧ φ x.2) := by
  refine ⟨hs, fun {H enc w base spare held fuel cs y} hy hw => ?_⟩
  obtain ⟨xs, m, _, rfl, hl, hlen, hf⟩ := DataW.trod_array ht hy
  match xs, hlen with
  | [y0, y1], _ =>
    have h0 := hf 0 (by omega)
    have h1 := hf 1 (by omega)
    simp only [Nat.zero_mul, List.drop_zero, Nat.one_mul, h.size, List.getElem?_cons_zero, List.getElem?_cons_succ] at h0 h1
    have hw' : ∀ n, n ∈ y0.1.weights P e ∨ n ∈ y1.1.weights P e → n ≤ reachBytes := fun n hn => hw n (by
      unfold DataW.weights
      rw [ht]
      simp only [List.map_cons, List.map_nil, DataW.weightsAll, List.append_nil]
      exact List.mem_append.2 hn)
    obtain ⟨x, k1, p1⟩ := h.op h0 (fun n hn => hw' n (.inl hn))
    have hlen : (cs.drop d.sz).length = d.sz := by rw [List.length_drop]; omega
    have h1' : (cs.drop d.sz).take d.sz = cs.drop d.sz := by
      have := List.take_length (l := cs.drop d.sz)
      rw [hlen] at this; exact this
    rw [h1'] at h1
    obtain ⟨x', k2, p2⟩ := h.op h1 (fun n hn => hw' n (.inr hn))
    exact ⟨(x, x'), ⟨_, _, (List.take_append_drop d.sz cs).symm, k1, k2⟩, p1, p2⟩

/-! ## the arguments themselves -/
section
variable {H : Type} {enc : TypeId × Value → H} {P : Program} {W : World} {r : Reach} {b0 base : Nat} {spare : Nat → Bool} {held : Bool} {t : TypeId} {v : Value} {d' : DataW H} {ps : List MemPlace} {ts : List TypeId} {ds : List (DataW H)}
theorem weights_of (hsz : (DataW.weightsEach P ts ds).all (· ≤ reachBytes) = true) (j : Nat) (ht : ts[j]? = some t) (hd : ds[j]? = some d') : ∀ n ∈ d'.weights P t, n ≤ reachBytes := fun n hn => by
  have := List.all_eq_true.1 hsz n (DataW.weights_mem_each ht hd n hn)
  simpa using this
theorem arg_agg {α : Type} {d : Kd α} {φ : α → Prop} (ho : Opens P t d φ) (hw : ∀ n ∈ d'.weights P t, n ≤ reachBytes) (hv : ∃ cs, v = .agg cs) (h : DataW.Trod enc P W base spare held t v d' ps) :
    ∃ x cs, v = .agg cs ∧ d.K W x cs.toList ∧ φ x := by
  obtain ⟨cs, rfl⟩ := hv
  obtain ⟨fuel, hf⟩ := h
  obtain ⟨x, k, p⟩ := ho.op hf hw
  exact ⟨x, cs, rfl, k, p⟩
theorem arg_one {α : Type} {enc' : α → Value} {h1 : ∀ x, (enc' x).oneCell' = true} {φ : α → Prop} (ho : Opens P t (Kd.scalar enc' h1) φ) (hw : ∀ n ∈ d'.weights P t, n ≤ reachBytes) (hv : v.cells.toList = [v]) (h : DataW.Trod enc P W base spare held t v d' ps) :
    ∃ x, v = enc' x ∧ φ x := by
  obtain ⟨fuel, hf⟩ := h
  obtain ⟨x, k, p⟩ := ho.op hf hw
  have k : v.cells.toList = [enc' x] := k
  rw [hv] at k
  exact ⟨x, by simpa using k, p⟩
theorem arg_slice {α : Type} {e : TypeId} {d : Kd α} {φ : List α → Prop} (ho : Opens P t (Kd.slice e d) φ) (hw : ∀ n ∈ d'.weights P t, n ≤ reachBytes) (hv : ∃ a len cap, v = .slice a len cap) (h : DataW.Trod enc P W base spare held t v d' ps) :
    ∃ xs A c, v = .slice A xs.length c ∧ xs.length ≤ c ∧ d.C W A xs.length xs ∧ φ xs := by
  obtain ⟨a, len, cap, rfl⟩ := hv
  obtain ⟨fuel, hf⟩ := h
  obtain ⟨xs, ⟨A, c, hc, hl, hC⟩, p⟩ := ho.op hf hw
  have hc : [Value.slice a len cap] = [.slice A xs.length c] := hc
  exact ⟨xs, A, c, by simpa using hc, hl, hC, p⟩
theorem one_int {k : IntKind} (ht : P.underlying t = some (.int k)) (hv : Value.okWide P W r b0 t v) : v.cells.toList = [v] := by
  simp only [Value.okWide, ht, Cell.okWide] at hv
  cases v <;> simp_all [Cell.ok, Value.cells]
theorem one_bool (ht : P.underlying t = some .bool) (hv : Value.okWide P W r b0 t v) : v.cells.toList = [v] := by
  simp only [Value.okWide, ht, Cell.okWide] at hv
  cases v <;> simp_all [Cell.ok, Value.cells]
theorem one_string (ht : P.underlying t = some .string) (hv : Value.okWide P W r b0 t v) : v.cells.toList = [v] := by
  simp only [Value.okWide, ht, Cell.okWide] at hv
  cases v <;> simp_all [Cell.ok, Value.cells]
theorem agg_struct {fs : Array Field} (ht : P.underlying t = some (.struct fs)) (hv : Value.okWide P W r b0 t v) : ∃ cs, v = .agg cs := by
  simp only [Value.okWide, ht] at hv
  cases v <;> simp_all
theorem agg_array {n : Nat} {e : TypeId} (ht : P.underlying t = some (.array n e)) (hv : Value.okWide P W r b0 t v) : ∃ cs, v = .agg cs := by
  simp only [Value.okWide, ht] at hv
  cases v <;> simp_all
end
theorem nil_cap {P : Program} {W : World} {r : Reach} {b0 n c : Nat} {t e : TypeId} {A : Option Addr} (ht : P.underlying t = some (.slice e)) (h : Value.okWide P W r b0 t (.slice A n c)) : A = none → c = 0 := by
  rintro rfl
  simp only [Value.okWide, ht, Cell.okWide, Cell.ok] at h
  split at h <;> simp_all
end Go.Proofs.Ytnipbfhfaefieaa.Open
