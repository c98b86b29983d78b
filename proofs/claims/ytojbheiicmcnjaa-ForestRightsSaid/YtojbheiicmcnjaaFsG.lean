/- forest: rows of entries; slices.SortFunc of them, by order. -/
import Derived.Test.YtojbheiicmcnjaaFsF
import Derived.Test.YtojbheiicmcnjaaShelfS
namespace Go.Proofs.Ytojbheiicmcnjaa.Fst
open Go.RowKit Go Go.Proofs.YtojbheiicmcnjaaW.PrintWords Go.Proofs.YtojbheiicmcnjaaW.PrintMore Go.Proofs.YtojbheiicmcnjaaW.PrintLast Go.Proofs.Ytojbheiicmcnjaa.Bts Go.Proofs.Ytojbheiicmcnjaa.Fra Go.Maps
def kE : Kd E := Kd.iso (Kd.pair (Kd.int .u64) (Kd.pair (Kd.int .u64) (Kd.pair (Kd.int .i64) (Kd.pair (Kd.int .u8) (Kd.pair (Kd.int .u32) (Kd.pair (Kd.int .u64) (Kd.pair (Kd.int .u64) (Kd.int .i64)))))))) (fun e : E => (e.hi, e.lo, e.obj, e.rt, e.ow, e.ph, e.pl, e.ord))
theorem kE_open {w : World} {e : E} {cs : List Value} (h : kE.K w e cs) : cs = e.cs := by
  obtain ⟨_, _, rfl, rfl, _, _, rfl, rfl, _, _, rfl, rfl, _, _, rfl, rfl, _, _, rfl, rfl, _, _, rfl, rfl, _, _, rfl, rfl, rfl⟩ := h
  rfl
theorem kE_openM {w : World} {base : Nat} {ok : Nat → Prop} {e : E} {cs : List Value} (h : kE.M w base ok e cs) : cs = e.cs := by
  obtain ⟨_, _, rfl, rfl, _, _, rfl, rfl, _, _, rfl, rfl, _, _, rfl, rfl, _, _, rfl, rfl, _, _, rfl, rfl, _, _, rfl, rfl, rfl⟩ := h
  rfl
theorem kE_mkM (w : World) (base : Nat) (ok : Nat → Prop) (e : E) : kE.M w base ok e e.cs :=
  ⟨_, _, rfl, rfl, _, _, rfl, rfl, _, _, rfl, rfl, _, _, rfl, rfl, _, _, rfl, rfl, _, _, rfl, rfl, _, _, rfl, rfl, rfl⟩
theorem infoE : (Try.prog.info? 35).map (fun i => (i.zero, i.size, i.bytes)) = some (some (.agg #[.int .u64 0, .int .u64 0, .int .i64 0, .int .u8 0, .int .u32 0, .int .u64 0, .int .u64 0, .int .i64 0]), 8, 56) := by kernel_rfl
/-- A row of entries that the call has laid. -/
abbrev ER (w : World) (lo : Nat) (v : Value) (xs : List E) : Prop := kE.R 35 w lo (fun j => lo ≤ j) v xs
section
variable {w w' : World} {lo : Nat} {v : Value} {xs ys : List E}
theorem ER.open_ (h : ER w lo v xs) (hne : xs ≠ []) : ∃ g cap cur, v = .slice (some ⟨g, 0, none⟩) xs.length cap ∧ lo ≤ g ∧ w.heap[g]? = some (.cells cur 35 (0, 0)) ∧ xs.length ≤ cap ∧ cap ≤ maxLen ∧ cur.size = cap * 8 ∧ ∀ i x, xs[i]? = some x → ∀ j, j < 8 → cur[i * 8 + j]? = x.cs[j]? := by
  obtain ⟨_, inner, ho, hr⟩ := h
  obtain ⟨hl, ho⟩ := ho
  rcases ho with ⟨rfl, h0⟩ | ⟨g, cap, cur, rfl, hg, hh, hn, hm, hs, ht⟩
  · exact absurd (List.length_eq_zero_iff.1 h0) hne
  · refine ⟨g, cap, cur, rfl, hg, hh, hn, hm, hs, fun i x hx j hj => ?_⟩
    have hk := kE_openM (hr.2 i x hx)
    have hi := (List.getElem?_eq_some_iff.1 hx).1
    have hk' : (inner.drop (i * 8)).take 8 = x.cs := hk
    have h1 : (x.cs)[j]? = inner[i * 8 + j]? := by
      rw [← hk', List.getElem?_take_of_lt hj, List.getElem?_drop]
    have ht' : cur.toList.take (xs.length * 8) = inner := ht
    rw [h1, ← ht', List.getElem?_take_of_lt (by omega), Array.getElem?_toList]
theorem ER.shut {g cap : Nat} {cur : Array Value} (hg : lo ≤ g) (hh : w.heap[g]? = some (.cells cur 35 (0, 0))) (hn : xs.length ≤ cap) (hm : cap ≤ maxLen) (hs : cur.size = cap * 8) (hc : ∀ i x, xs[i]? = some x → ∀ j, j < 8 → cur[i * 8 + j]? = x.cs[j]?) : ER w lo (.slice (some ⟨g, 0, none⟩) xs.length cap) xs := by
  refine ⟨fun k hk => ?_, cur.toList.take (xs.length * 8), ⟨?_, .inr ⟨g, cap, cur, rfl, hg, hh, hn, hm, hs, rfl⟩⟩, ?_, fun i x hx => ?_⟩
  · have : g = k := by simpa [Value.ownBlock] using hk
    omega
  · have e1 : cur.toList.length = cap * 8 := by rw [Array.length_toList]; exact hs
    rw [List.length_take, e1]
    show min (xs.length * 8) (cap * 8) = xs.length * 8
    omega
  · have e1 : cur.toList.length = cap * 8 := by rw [Array.length_toList]; exact hs
    rw [List.length_take, e1]
    show min (xs.length * 8) (cap * 8) = xs.length * 8
    omega
  · have hi := (List.getElem?_eq_some_iff.1 hx).1
    have e : ((cur.toList.take (xs.length * 8)).drop (i * 8)).take 8 = x.cs := by
      apply List.ext_getElem?
      intro j
      by_cases hj : j < 8
      · rw [List.getElem?_take_of_lt hj, List.getElem?_drop, List.getElem?_take_of_lt (by omega), Array.getElem?_toList]
        exact hc i x hx j hj
      · rw [List.getElem?_eq_none (by rw [List.length_take]; omega), List.getElem?_eq_none (by show (8 : Nat) ≤ j; omega)]
    show kE.M w lo _ x (((cur.toList.take (xs.length * 8)).drop (i * 8)).take 8)
    rw [e]
    exact kE_mkM _ _ _ _
theorem ord_inj {xs : List E} (h : xs.Pairwise (fun a b => a.ord ≠ b.ord)) {x y : E} (hx : x ∈ xs) (hy : y ∈ xs) (he : x.ord = y.ord) : x = y := by
  induction h with
  | nil => simp at hx
  | cons h1 _ ih =>
    rename_i a l
    rcases List.mem_cons.1 hx with rfl | hx2
    · rcases List.mem_cons.1 hy with rfl | hy2
      · rfl
      · exact absurd he (h1 _ hy2)
    · rcases List.mem_cons.1 hy with rfl | hy2
      · exact absurd he.symm (h1 _ hx2)
      · exact ih hx2 hy2
open Go.Shelf Go.Sort Go.Lib in
theorem sort_heap (w : World) (n g : Nat) (F cur : Array Value) (os : Array Obj) (e : TypeId) (h : w.heap[g]? = some (.cells cur e (0, 0))) :
    (grow (putRow id (Sort.ahead w n) g 0 F) os).heap[g]? = some (.cells (putCells id 0 F cur) e (0, 0)) := by
  have hlt := (Array.getElem?_eq_some_iff.1 h).1
  show ((w.heap.modify g (onCells (putCells id 0 F))) ++ os)[g]? = _
  rw [Array.getElem?_append_left (by simpa using hlt), Array.getElem?_modify, if_pos rfl, h]
  rfl
open Go.Shelf Go.Sort Go.Lib in
theorem sort_other (w : World) (n g : Nat) (F : Array Value) (os : Array Obj) : Fr (· = g) w (grow (putRow id (Sort.ahead w n) g 0 F) os) := by
  refine ⟨rfl, rfl, rfl, ?_, fun k hk hne => ?_⟩
  · show w.heap.size ≤ ((w.heap.modify g (onCells (putCells id 0 F))) ++ os).size
    rw [Array.size_append, Array.size_modify]
    omega
  · show ((w.heap.modify g (onCells (putCells id 0 F))) ++ os)[k]? = _
    rw [Array.getElem?_append_left (by simpa using hk), Array.getElem?_modify, if_neg (fun e => hne e.symm)]
/-- What is asked of the closure. -/
def CmpE (gf : Nat) : Prop := ∀ (x y : E) (W : World), 0 ≤ x.ord → x.ord ≤ 1000000 → 0 ≤ y.ord → y.ord ≤ 1000000 → Calls Try.prog gf #[x.v, y.v] W fun e w' => e = .returned (.int .i64 (x.ord - y.ord)) ∧ ∃ q os', w' = Sort.grow (W.drewN q) os'
open Go.Shelf Go.Sort Go.Lib in
theorem sort_calls (gf : Nat) (eg : ∀ args w, (callFunc gf args).run Try.prog w = .ok (.enter gf args) w) (hc : CmpE gf) (v : Value) (xs : List E) (w : World) (h : ER w lo v xs) (hd : xs.Pairwise (fun a b => a.ord ≠ b.ord)) (hb : ∀ x ∈ xs, 0 ≤ x.ord ∧ x.ord ≤ 1000000) (hxl : xs.length ≤ 1000000) :
    Calls Try.prog 27 #[v, .func (.func gf) #[] #[]] w fun e w' => e = .returned (.tuple #[]) ∧ ∃ ys, ER w' lo v ys ∧ ys.Perm xs ∧ ys.Pairwise (fun a b => a.ord < b.ord) ∧ Fr (fun j => v.ownBlock = some j) w w' := by
  by_cases hne : xs = []
  · subst hne
    obtain ⟨A, c, rfl, hl, _⟩ := Kd.R_reads h
    have hn : (([] : List E).length) = 0 := rfl
    rw [hn] at h ⊢
    have hcon := AnyF.slices_SortFunc_none Try.sortE A c (.func (.func gf) #[] #[]) w
    change Calls Try.prog 27 _ _ _ at hcon
    refine hcon.mono ?_
    rintro e w' ⟨rfl, rfl⟩
    exact ⟨rfl, [], h, List.Perm.refl _, List.Pairwise.nil, Fr.refl _ _⟩
  · obtain ⟨g, cap, cur, rfl, hg, hh, hn, hm, hs, hcell⟩ := h.open_ hne
    obtain ⟨x0, hx0⟩ : ∃ x0, x0 ∈ xs := List.exists_mem_of_ne_nil _ hne
    haveI : Inhabited {x : E // x ∈ xs} := ⟨⟨x0, hx0⟩⟩
    obtain ⟨d, hdd⟩ : ∃ d : Array {x : E // x ∈ xs}, d = xs.attach.toArray := ⟨_, rfl⟩
    have hds : d.size = xs.length := by rw [hdd]; simp
    have hdl : d.toList.map (fun a => a.1) = xs := by rw [hdd]; simp
    have hdi : ∀ i, i < xs.length → xs[i]? = some (d[i]!).1 := fun i hi => by
      have h1 : (d.toList.map (fun a => a.1))[i]? = xs[i]? := by rw [hdl]
      rw [← h1, List.getElem?_map, Array.getElem?_toList, getElem!_pos d i (by omega), Array.getElem?_eq_getElem (by omega)]
      rfl
    have hcf : ∀ x y : {x : E // x ∈ xs}, ltOf (fun a b : {x : E // x ∈ xs} => a.1.ord - b.1.ord) x y = decide (x.1.ord < y.1.ord) := fun x y => by
      show decide (x.1.ord - y.1.ord < 0) = _
      rw [decide_eq_decide]
      omega
    have hO : SWO (ltOf (fun a b : {x : E // x ∈ xs} => a.1.ord - b.1.ord)) :=
      ⟨fun x => by rw [hcf]; simp, fun x y z h1 h2 => by rw [hcf] at *; simp at *; omega, fun x y z h1 h2 => by rw [hcf] at *; simp at *; omega⟩
    have hH : HoldsK (fun a : {x : E // x ∈ xs} => a.1.cs) 8 w g 0 d := by
      intro j hj
      rw [size_flatK, hds] at hj
      rw [get_flatK _ _ _ _ (by rw [hds]; exact hj)]
      have hi : j / 8 < xs.length := by omega
      have hc1 := hcell (j / 8) _ (hdi (j / 8) hi) (j % 8) (by omega)
      have e1 : j / 8 * 8 + j % 8 = j := by omega
      rw [e1] at hc1
      show w.cell? ⟨g, 0 + j, none⟩ = some ((d[j / 8]!).1.cs[j % 8]!) ∧ _
      obtain ⟨a, ha⟩ : ∃ a, d[j / 8]! = a := ⟨_, rfl⟩
      rw [ha] at hc1 ⊢
      have hl : j % 8 < a.1.cs.length := show j % 8 < 8 by omega
      refine ⟨?_, ?_⟩
      · rw [Nat.zero_add]
        refine (blk_cell hh j).trans ?_
        rw [hc1, List.getElem?_eq_getElem hl, getElem!_pos a.1.cs (j % 8) hl]
      · rw [Nat.zero_add]
        exact blk_frozen hh j
    have hcon := AnyQ.slices_SortFunc_total Try.sortE 8 (fun w => by kernel_rfl) (fun w => by kernel_rfl) (fun a : {x : E // x ∈ xs} => a.1.cs) (fun _ => rfl) (fun x u hu => by
        have hu : u ∈ x.1.cs := hu
        unfold E.cs at hu
        simp only [List.mem_cons, List.not_mem_nil, or_false] at hu
        rcases hu with rfl | rfl | rfl | rfl | rfl | rfl | rfl | rfl <;> rfl) (fun a b => a.1.ord - b.1.ord) hO gf #[] g 0 cap d w eg
      (fun m os dk hsz x y => hc x.1 y.1 _ (hb _ x.2).1 (hb _ x.2).2 (hb _ y.2).1 (hb _ y.2).2) hH (blk_lt hh) (by rw [hds]; exact Nat.lt_of_le_of_lt hxl (by decide))
      (fun x y h1 h2 => by
        rw [hcf] at h1 h2
        have := of_decide_eq_false h1
        have := of_decide_eq_false h2
        exact Subtype.ext (ord_inj hd x.2 y.2 (by omega)))
    change Calls Try.prog 27 _ _ _ at hcon
    rw [hds] at hcon
    refine hcon.mono ?_
    rintro e w' ⟨rfl, n, os, rfl⟩
    obtain ⟨M, hM⟩ : ∃ M, M = d.toList.mergeSort (fun x y => !(ltOf (fun a b : {x : E // x ∈ xs} => a.1.ord - b.1.ord)) y x) := ⟨_, rfl⟩
    rw [← hM]
    have hpm : M.Perm d.toList := by rw [hM]; exact List.mergeSort_perm _ _
    have hperm : (M.map (fun a => a.1)).Perm xs := by
      have := hpm.map (fun a => a.1)
      rwa [hdl] at this
    have hml : (M.map (fun a => a.1)).length = xs.length := hperm.length_eq
    have hMl : M.length = xs.length := by rw [← hml, List.length_map]
    have hle : M.Pairwise (fun a b => a.1.ord ≤ b.1.ord) := by
      have h1 := List.pairwise_mergeSort (le := fun x y => !(ltOf (fun a b : {x : E // x ∈ xs} => a.1.ord - b.1.ord)) y x) (fun a b c h1 h2 => by rw [hcf] at *; simp at *; omega) (fun a b => by rw [hcf, hcf]; simp; omega) d.toList
      rw [← hM] at h1
      refine h1.imp ?_
      intro a b h2
      rw [hcf] at h2
      simp at h2
      exact h2
    have hlt : (M.map (fun a => a.1)).Pairwise (fun a b => a.ord < b.ord) := by
      have h2 : (M.map (fun a => a.1)).Pairwise (fun a b => a.ord ≤ b.ord) := List.pairwise_map.2 hle
      have h3 : (M.map (fun a => a.1)).Pairwise (fun a b => a.ord ≠ b.ord) := (hperm.pairwise_iff (fun {a b} h e => h e.symm)).2 hd
      refine (h2.and h3).imp ?_
      intro a b h4
      have := h4.1
      have := h4.2
      omega
    refine ⟨rfl, M.map (fun a => a.1), ?_, hperm, hlt, ?_⟩
    · have hwk := sort_heap w n g (flatK (fun a : {x : E // x ∈ xs} => a.1.cs) 8 M.toArray) cur os _ hh
      rw [← hml]
      refine ER.shut hg hwk (by rw [hml]; exact hn) hm ?_ ?_
      · unfold putCells
        rw [Array.size_mapIdx]
        exact hs
      · intro i x hx j hj
        have hi := (List.getElem?_eq_some_iff.1 hx).1
        rw [hml] at hi
        have hFs : (flatK (fun a : {x : E // x ∈ xs} => a.1.cs) 8 M.toArray).size = xs.length * 8 := by rw [size_flatK]; simp [hMl]
        have hlt1 : i * 8 + j < xs.length * 8 := by omega
        unfold putCells
        rw [Array.getElem?_mapIdx, Array.getElem?_eq_getElem (by omega), Option.map_some, if_pos (by rw [hFs]; omega)]
        have hg2 := get_flatK (fun a : {x : E // x ∈ xs} => a.1.cs) 8 M.toArray (i * 8 + j) (by simp [hMl]; omega)
        have e1 : (i * 8 + j) / 8 = i := by omega
        have e2 : (i * 8 + j) % 8 = j := by omega
        rw [e1, e2] at hg2
        show some ((flatK (fun a : {x : E // x ∈ xs} => a.1.cs) 8 M.toArray)[i * 8 + j - 0]!) = _
        rw [Nat.sub_zero, hg2]
        have hMi : (M.toArray[i]!).1 = x := by
          rw [List.getElem?_map] at hx
          rw [getElem!_pos M.toArray i (by simp; omega)]
          rw [List.getElem?_eq_getElem (by omega)] at hx
          exact Option.some.inj hx
        have hMi2 : (M.toArray[i]!).1.cs = x.cs := by rw [hMi]
        show some ((M.toArray[i]!).1.cs[j]!) = _
        rw [hMi2, List.getElem?_eq_getElem (show j < x.cs.length from hj), getElem!_pos x.cs j (show j < x.cs.length from hj)]
    · exact (sort_other w n g _ os).mono (fun j hj => .inl (by rw [hj]; rfl))
end
end Go.Proofs.Ytojbheiicmcnjaa.Fst
