/- Texts of this claim, laid together: As, PvQ, PvR. -/
import Derived.Test.YtnipbfhfaefieaaUh
import Derived.Test.YtnipbfhfaefieaaUk
/-! arena: who is live is led to from a caller's hold; so the live ones can be counted. -/
namespace Go.Proofs.Ytnipbfhfaefieaa.Ao
open Go.RowKit Go Go.Proofs.YtnipbfhfaefieaaW.PrintWords Go.Proofs.YtnipbfhfaefieaaW.PrintMore Go.Proofs.YtnipbfhfaefieaaW.PrintLast Go.Proofs.Ytnipbfhfaefieaa.Bts Go.Proofs.Ytnipbfhfaefieaa.Fra Go.Proofs.Ytnipbfhfaefieaa.ArnP Go.Proofs.Ytnipbfhfaefieaa.Arn
theorem sm_pos {f : Nat → Nat} : ∀ n, 0 < sm f n → ∃ y, y < n ∧ 0 < f y
  | 0, h => absurd h (Nat.lt_irrefl 0)
  | n + 1, h => by
    by_cases e : 0 < f n
    · exact ⟨n, by omega, e⟩
    · have h1 : 0 < sm f n + f n := h
      obtain ⟨y, q1, q2⟩ := sm_pos (f := f) n (by omega)
      exact ⟨y, by omega, q2⟩
theorem nodup_le : ∀ (l m : List Nat), l.Nodup → (∀ x ∈ l, x ∈ m) → l.length ≤ m.length
  | [], _, _, _ => Nat.zero_le _
  | x :: l, m, hn, hs => by
    have hx := hs x (by simp)
    obtain ⟨h1, h2⟩ := List.nodup_cons.1 hn
    have := nodup_le l (m.erase x) h2 (fun y hy => (List.mem_erase_of_ne (fun e => by rw [e] at hy; exact h1 hy)).2 (hs y (by simp [hy])))
    have h3 := List.length_erase_of_mem hx
    have h4 := List.length_pos_of_mem hx
    simp only [List.length_cons]
    omega
section
variable {W W' : World} {O O' : Nat → Prop} {a : Nat} {cl : List Cell} {fr : List Int} {f f' : Nat → Cell} {live live' most most' : Int} {ext : Nat → Nat} {op : Nat → Bool}
theorem AL.holder (h : AL W O a cl fr live most ext op) {i : Nat} (h0 : 0 < i) (hr : 0 < (fn cl i).r) : 0 < ext i ∨ ∃ y, Lv (fn cl) op y ∧ i ∈ kidsOf (fn cl y).kids := by
  have hc := fn_live hr
  have h1 := h.acc i _ h0 hc
  by_cases e : 0 < ext i
  · exact .inl e
  · obtain ⟨y, hy, hp⟩ := sm_pos _ (show 0 < held (gOf (mask op cl)) cl.length i by omega)
    have hp2 : 0 < (gOf (mask op cl)).refs y := Classical.byContradiction fun q => by rw [if_neg q] at hp; omega
    rw [if_pos hp2] at hp
    obtain ⟨d, hd⟩ : ∃ d, cl[y]? = some d := ⟨cl[y], List.getElem?_eq_getElem hy⟩
    have hm := mask_at (op := op) hd
    rw [gOf_kids hm] at hp
    rw [gOf_refs hm, opn_r] at hp2
    have hy2 : op y = false := by
      cases q : op y
      · rfl
      · unfold opn at hp
        rw [q] at hp
        exact absurd hp (Nat.lt_irrefl 0)
    rw [opn_no hy2] at hp
    have hyp : 0 < y := by
      rcases Nat.eq_zero_or_pos y with rfl | q
      · have hz := h.wf.z
        rw [hm, opn_no hy2] at hz
        rw [Option.some.inj hz] at hp2
        exact absurd hp2 (by decide)
      · exact q
    rw [← fn_at hd] at hp hp2
    exact .inr ⟨y, ⟨hyp, by omega, hy2⟩, List.count_pos_iff.1 hp⟩
/-- What holds for all that callers hold, and goes on to whom one holds, holds for all that are live. -/
theorem AO.reach (h : AO W O a f live most ext op) (P : Nat → Prop) (h1 : ∀ j, 0 < j → 0 < ext j → P j) (h2 : ∀ j, Lv f op j → P j → ∀ x ∈ kidsOf (f j).kids, P x) : ∀ j, 0 < j → 0 < (f j).r → P j := by
  obtain ⟨cl, fr, rfl, h⟩ := h
  obtain ⟨rank, hrk⟩ := h.ac
  have key : ∀ d j, 0 < j → 0 < (fn cl j).r → ((List.range cl.length).map rank).sum < rank j + d → P j := by
    intro d
    induction d with
    | zero =>
      intro j h0 hr hd
      have hj := (List.getElem?_eq_some_iff.1 (fn_live hr)).1
      have := le_sum_map rank (List.range cl.length) j (by simpa using hj)
      omega
    | succ d ih =>
      intro j h0 hr hd
      rcases h.holder h0 hr with e | ⟨y, hy, hx⟩
      · exact h1 j h0 e
      · have := hrk y hy.2.1 hy.2.2 j hx
        exact h2 y hy (ih y hy.1 hy.2.1 (by omega)) j hx
  intro j h0 hr
  exact key (((List.range cl.length).map rank).sum + 1) j h0 hr (by omega)
theorem countP_range (cl : List Cell) : ∀ n, n ≤ cl.length → (cl.take n).countP (fun c => decide (0 < c.r)) = ((List.range n).filter fun i => decide (0 < (fn cl i).r)).length
  | 0, _ => by simp
  | n + 1, h => by
    have hn : n < cl.length := h
    rw [List.take_succ_eq_append_getElem hn, List.countP_append, countP_range cl n (by omega), List.range_succ, List.filter_append, List.length_append]
    congr 1
    have e2 : fn cl n = cl[n] := fn_at (List.getElem?_eq_getElem hn)
    by_cases e : 0 < (cl[n]).r
    · simp [e, e2]
    · simp [e, e2]
/-- All that are live, in a list. -/
theorem AO.all (h : AO W O a f live most ext op) : ∃ l : List Nat, l.Nodup ∧ (∀ j, j ∈ l ↔ 0 < j ∧ 0 < (f j).r) ∧ live = (l.length : Int) := by
  obtain ⟨cl, fr, rfl, h⟩ := h
  have hz : (fn cl 0).r = 0 := by
    have := h.wf.z
    rw [mask_get] at this
    obtain ⟨c, q1, q2⟩ := Option.map_eq_some_iff.1 this
    have q3 := congrArg Cell.r q2
    rw [opn_r] at q3
    rw [fn_at q1, q3]
    rfl
  refine ⟨(List.range cl.length).filter fun i => decide (0 < (fn cl i).r), List.nodup_range.filter _, fun j => ?_, ?_⟩
  · rw [List.mem_filter]
    constructor
    · intro hj
      have hr : 0 < (fn cl j).r := by simpa using hj.2
      refine ⟨Nat.pos_of_ne_zero fun e => ?_, hr⟩
      rw [e, hz] at hr
      exact absurd hr (by decide)
    · intro hj
      exact ⟨by simpa using (List.getElem?_eq_some_iff.1 (fn_live hj.2)).1, by simpa using hj.2⟩
  · rw [h.wf.lv, ← countP_range cl cl.length (Nat.le_refl _), List.take_length]
    unfold liveN
    have : ∀ l : List Cell, ∀ g : Nat → Cell → Cell, (∀ i c, (g i c).r = c.r) → (l.mapIdx g).countP (fun c => decide (0 < c.r)) = l.countP (fun c => decide (0 < c.r)) := by
      intro l
      induction l with
      | nil => intros; rfl
      | cons c l ih =>
        intro g hg
        rw [List.mapIdx_cons, List.countP_cons, List.countP_cons, hg, ih _ (fun i c => hg (i + 1) c)]
    have h3 := this cl (opn op) (fun i c => opn_r op i c)
    unfold mask
    first | exact congrArg Int.ofNat h3 | (rw [h3]) | (simpa using h3)
theorem AO.live_le (h : AO W O a f live most ext op) (l : List Nat) (hl : ∀ j, 0 < j → 0 < (f j).r → j ∈ l) : live ≤ (l.length : Int) := by
  obtain ⟨m, h1, h2, rfl⟩ := h.all
  have := nodup_le m l h1 (fun x hx => hl x ((h2 x).1 hx).1 ((h2 x).1 hx).2)
  omega
theorem AO.live_mono {ext' : Nat → Nat} {op' : Nat → Bool} {a' : Nat} (h : AO W O a f live most ext op) (h' : AO W' O' a' f' live' most' ext' op') (hs : ∀ j, 0 < j → 0 < (f j).r → 0 < (f' j).r) : live ≤ live' := by
  obtain ⟨m, h1, h2, rfl⟩ := h'.all
  exact h.live_le m (fun j h0 hr => (h2 j).2 ⟨h0, hs j h0 hr⟩)
/-- All let go: none is live. -/
theorem AO.none_live (h : AO W O a f live most ext op) (he : ∀ j, 0 < j → ext j = 0) : live = 0 := by
  have h1 := h.live_le [] (fun j h0 hr => (h.reach (fun _ => False) (fun j h0 hj => by have := he j h0; omega) (fun _ _ q => q.elim) j h0 hr).elim)
  have h2 := h.room.1
  have : (([] : List Nat).length : Int) = 0 := rfl
  omega
theorem live_same {a' : Nat} (h : AO W O a f live most ext (fun _ => false)) (h' : AO W' O' a' f' live' most' ext (fun _ => false)) (hk : ∀ j, 0 < j → 0 < ext j → Same f f' j) : live = live' := by
  have h1 := h.live_mono h' (fun j h0 hr => (h.reach (fun j => Same f f' j ∧ 0 < (f' j).r) (fun j h0 he => ⟨hk j h0 he, h'.ext_lv h0 he⟩) (fun j hj q x hx => ⟨q.1.kid hx, (h'.lv_kid ⟨hj.1, q.2, rfl⟩ (by rw [q.1.at_]; exact hx)).1.2.1⟩) j h0 hr).2)
  have h2 := h'.live_mono h (fun j h0 hr => (h'.reach (fun j => Same f f' j ∧ 0 < (f j).r) (fun j h0 he => ⟨hk j h0 he, h.ext_lv h0 he⟩) (fun j hj q x hx => by
    rw [q.1.at_] at hx
    exact ⟨q.1.kid hx, (h.lv_kid ⟨hj.1, q.2, rfl⟩ hx).1.2.1⟩) j h0 hr).2)
  omega
end
end Go.Proofs.Ytnipbfhfaefieaa.Ao
/-! pvec: a vector's cells; its cells are held once more, and let go. -/
namespace Go.Proofs.Ytnipbfhfaefieaa.Pv
open Go.RowKit Go Go.Proofs.YtnipbfhfaefieaaW.PrintWords Go.Proofs.YtnipbfhfaefieaaW.PrintMore Go.Proofs.YtnipbfhfaefieaaW.PrintLast Go.Proofs.Ytnipbfhfaefieaa.Bts Go.Proofs.Ytnipbfhfaefieaa.Fra Go.Proofs.Ytnipbfhfaefieaa.ArnP Go.Proofs.Ytnipbfhfaefieaa.Arn Go.Proofs.Ytnipbfhfaefieaa.Ao
abbrev nop : Nat → Bool := fun _ => false
abbrev V3 := Int × Int × ByteArray
/-- A hold on a cell, if there is one. -/
def hold (i : Nat) : Nat → Nat := fun x => if i = 0 then 0 else one i x
theorem hold_zero : hold 0 = fun _ => 0 := rfl
theorem hold_pos {i : Nat} (h : 0 < i) : hold i = one i := by funext x; unfold hold; rw [if_neg (by omega)]
theorem hold_le (i x : Nat) : hold i x ≤ 1 := by unfold hold one; split <;> (try split) <;> omega
def vx (r t : Nat) : Nat → Nat := fun x => hold r x + hold t x
def Leaf (f : Nat → Cell) (k : Nat) (vals : List V3) : Prop := 0 < k ∧ (f k).vals = vals ∧ (f k).kids = []
/-- A trunk of m leaves, which have the values g. -/
def Trunk (f : Nat → Cell) (m r : Nat) (g : Nat → List V3) : Prop := (m = 0 ∧ r = 0) ∨ (m = 1 ∧ Leaf f r (g 0)) ∨ (2 ≤ m ∧ 0 < r ∧ (f r).vals = [] ∧ (f r).kids.length = m ∧ ∀ (j : Nat) (z : Int), (f r).kids[j]? = some z → ∃ k : Nat, z = k ∧ Leaf f k (g j))
def leafs (l : List V3) (j : Nat) : List V3 := (l.drop (32 * j)).take 32
def VRep (f : Nat → Cell) (n r t : Nat) (l : List V3) : Prop := n = l.length ∧ n ≤ 1024 ∧ ((n = 0 ∧ r = 0 ∧ t = 0) ∨ (0 < n ∧ Leaf f t (l.drop (32 * lvs n)) ∧ Trunk f (lvs n) r (leafs l)))
theorem Leaf.same {f f' : Nat → Cell} {k : Nat} {v : List V3} (h : Leaf f k v) (hs : Same f f' k) : Leaf f' k v := by
  obtain ⟨h0, h1, h2⟩ := h
  refine ⟨h0, ?_, ?_⟩
  · rw [hs.at_]; exact h1
  · rw [hs.at_]; exact h2
theorem kid_mem {l : List Int} {j k : Nat} (h : l[j]? = some (k : Int)) (hk : 0 < k) : k ∈ kidsOf l := by
  have := mem_kidsOf (List.mem_of_getElem? h) (by omega)
  rwa [Int.toNat_natCast] at this
theorem Trunk.same {f f' : Nat → Cell} {m r : Nat} {g : Nat → List V3} (h : Trunk f m r g) (hs : 0 < r → Same f f' r) : Trunk f' m r g := by
  rcases h with h | ⟨h1, h2⟩ | ⟨h1, h2, h3, h4, h5⟩
  · exact .inl h
  · exact .inr (.inl ⟨h1, h2.same (hs h2.1)⟩)
  · have hs := hs h2
    refine .inr (.inr ⟨h1, h2, ?_, ?_, fun j z hz => ?_⟩)
    · rw [hs.at_]; exact h3
    · rw [hs.at_]; exact h4
    · rw [hs.at_] at hz
      obtain ⟨k, rfl, hk⟩ := h5 j z hz
      exact ⟨k, rfl, hk.same (hs.kid (kid_mem hz hk.1))⟩
theorem Trunk.congr {f : Nat → Cell} {m r : Nat} {g g' : Nat → List V3} (h : Trunk f m r g) (hg : ∀ j, j < m → g j = g' j) : Trunk f m r g' := by
  rcases h with h | ⟨rfl, h2⟩ | ⟨h1, h2, h3, h4, h5⟩
  · exact .inl h
  · exact .inr (.inl ⟨rfl, by rw [← hg 0 (by omega)]; exact h2⟩)
  · refine .inr (.inr ⟨h1, h2, h3, h4, fun j z hz => ?_⟩)
    obtain ⟨k, rfl, hk⟩ := h5 j z hz
    have hj := (List.getElem?_eq_some_iff.1 hz).1
    exact ⟨k, rfl, by rw [← hg j (by omega)]; exact hk⟩
theorem VRep.same {f f' : Nat → Cell} {n r t : Nat} {l : List V3} (h : VRep f n r t l) (hs : ∀ j, 0 < j → 0 < vx r t j → Same f f' j) : VRep f' n r t l := by
  obtain ⟨h1, h2, h3⟩ := h
  refine ⟨h1, h2, ?_⟩
  rcases h3 with h3 | ⟨h3, h4, h5⟩
  · exact .inl h3
  · refine .inr ⟨h3, h4.same (hs t h4.1 ?_), h5.same fun hr => hs r hr ?_⟩
    · unfold vx
      rw [hold_pos h4.1]
      have : one t t = 1 := if_pos rfl
      omega
    · unfold vx
      rw [hold_pos hr]
      have : one r r = 1 := if_pos rfl
      omega
theorem vx_r {r t : Nat} (h : 0 < r) : 0 < vx r t r := by
  unfold vx
  rw [hold_pos h]
  have : one r r = 1 := if_pos rfl
  omega
theorem vx_t {r t : Nat} (h : 0 < t) : 0 < vx r t t := by
  unfold vx
  rw [hold_pos h]
  have : one t t = 1 := if_pos rfl
  omega
section
variable {O : Nat → Prop} {a : Nat} {f : Nat → Cell} {live most : Int} {ext rest : Nat → Nat}
/-- Keep of a cell, or of none. -/
theorem keepz (i : Nat) (w : World) (h : AO w O a f live most ext nop) (hi : i = 0 ∨ 0 < (f i).r) (he : ext i < 100000000000) :
    Calls Try.prog 27 #[.pointer (some ⟨a, 0, none⟩), .int .i64 i] w fun e w' => ∃ c : Int, e = .returned (.int .i64 c) ∧ ∃ f', AO w' O a f' live most (fun x => ext x + hold i x) nop ∧ OnlyR f f' ∧ (∀ x, (f x).r ≤ (f' x).r) ∧ Fr O w w' := by
  rcases Nat.eq_zero_or_pos i with rfl | h0
  · refine (keepn_AO ((0 : Nat) : Int) w h rfl).mono ?_
    rintro e w' ⟨rfl, hB⟩
    exact ⟨4, rfl, f, h.below hB, OnlyR.refl f, fun _ => Int.le_refl _, Fr.of_new hB⟩
  · have hr : 0 < (f i).r := hi.resolve_left (by omega)
    refine (keep_AO i w h h0 hr rfl he).mono ?_
    rintro e w' ⟨rfl, hA, hF⟩
    have e1 : (fun x => if x = i then ext x + 1 else ext x) = fun x => ext x + hold i x := by
      funext x
      rw [hold_pos h0]
      unfold one
      split <;> rfl
    rw [e1] at hA
    refine ⟨0, rfl, _, hA, (OnlyR.refl f).upd i _, fun x => ?_, hF⟩
    by_cases q : x = i
    · subst q
      rw [upd_eq]
      show (f x).r ≤ (f x).r + 1
      omega
    · rw [upd_ne _ q]
      exact Int.le_refl _
/-- Drop of a cell, or of none. -/
theorem dropz (i : Nat) (w : World) (h : AO w O a f live most (fun x => rest x + hold i x) nop) :
    Calls Try.prog 23 #[.pointer (some ⟨a, 0, none⟩), .int .i64 i] w fun e w' => ∃ c : Int, e = .returned (.int .i64 c) ∧ ∃ O' f' live', AO w' O' a f' live' most rest nop ∧ KeepR rest nop f f' ∧ live' ≤ live ∧ (∀ j, O' j → O j ∨ w.heap.size ≤ j) ∧ Fr O w w' := by
  rcases Nat.eq_zero_or_pos i with rfl | h0
  · refine (dropn_AO ((0 : Nat) : Int) w h rfl).mono ?_
    rintro e w' ⟨rfl, hB⟩
    exact ⟨4, rfl, O, f, live, h.below hB, KeepR.refl _ _ _, Int.le_refl _, fun j hj => .inl hj, Fr.of_new hB⟩
  · have h1 : one i i = 1 := if_pos rfl
    have he : 0 < rest i + hold i i := by rw [hold_pos h0]; omega
    refine (drop_AO i w h h0 he rfl).mono ?_
    rintro e w' ⟨rfl, O', f', live', hA, hL, hll, hO, hF⟩
    have e1 : (fun x => if x = i then rest x + hold i x - 1 else rest x + hold i x) = rest := by
      funext x
      rw [hold_pos h0]
      unfold one
      split <;> omega
    rw [e1] at hA
    exact ⟨0, rfl, O', f', live', hA, keepR_drop h hA (OnlyR.refl f) hL (fun j hj hr => h.ext_lv hj (by show 0 < rest j + _; omega)) (fun _ => Nat.le_refl _), hll, hO, hF⟩
/-- Cells that are but held more often. -/
theorem same_only {f' : Nat → Cell} {w : World} (h : AO w O a f live most ext nop) (ho : OnlyR f f') : ∀ j, 0 < j → 0 < (f j).r → Same f f' j := fun j h0 hr => same_step h (fun _ => True) (fun x _ _ => ho x) (fun _ _ _ _ _ => trivial) j ⟨h0, hr, rfl⟩ trivial
theorem OnlyR.trans {f g h : Nat → Cell} (h1 : OnlyR f g) (h2 : OnlyR g h) : OnlyR f h := fun x => by
  have e1 := h1 x
  have e2 := h2 x
  rw [e2]
  generalize (h x).r = n at *
  rw [e1]
set_option maxHeartbeats 1000000 in
set_option maxRecDepth 100000 in
theorem vkeep_calls (n : Int) (r t : Nat) (w : World) (h : AO w O a f live most ext nop) (hr : r = 0 ∨ 0 < (f r).r) (ht : t = 0 ∨ 0 < (f t).r) (he : ∀ x, ext x ≤ 90000000000) :
    Calls Try.prog 53 #[.pointer (some ⟨a, 0, none⟩), vecV n r t] w fun e w' => e = .returned (.tuple #[]) ∧ ∃ f', AO w' O a f' live most (fun x => ext x + vx r t x) nop ∧ OnlyR f f' ∧ (∀ x, (f x).r ≤ (f' x).r) ∧ Fr O w w' := by
  have hlt := h.lt
  have hb0 := below_alloc (Below.refl w.heap.size w) (.cells #[.int .i64 n, .int .i64 r, .int .i64 t] 61)
  have hbk := blk_new w (.cells #[.int .i64 n, .int .i64 r, .int .i64 t] 61)
  have hnO : ¬ O w.heap.size := fun q => by have := hlt _ q; omega
  have HA := Lib.hid (h.below hb0)
  have HB := Lib.hid hb0
  have HK := Lib.hid hbk
  clear h hb0 hbk hlt
  go_enter Try.func53, Try.ntmps53
  go_wp2_with (first
    | (go_at_call 27; refine (keepz t _ HA1.out ht1 het1).mono ?_; rintro e w2 ⟨c2, rfl, f2, hA2, hO2, hr2, hF2⟩; have HA2 := Lib.hid hA2; clear hA2)
    | (go_at_call 27; refine (keepz r _ HA.out hr (by have := he r; omega)).mono ?_; rintro e w1 ⟨c1, rfl, f1, hA1, hO1, hr1, hF1⟩; have HA1 := Lib.hid hA1; clear hA1; have hk1 := hF1.blk HK.out hnO; have q2 := blk_cell hk1 2; have ht1 : t = 0 ∨ 0 < (f1 t).r := ht.imp id (fun q => by have := hr1 t; omega); have het1 : (ext t + hold r t) < 100000000000 := (by have := he t; have := hold_le r t; omega)))
  go_end0
  refine ⟨rfl, f2, ?_, hO1.trans hO2, fun x => Int.le_trans (hr1 x) (hr2 x), (Fr.of_new HB.out).trans (hF1.trans hF2)⟩
  have e1 : (fun x => ext x + vx r t x) = fun x => ext x + hold r x + hold t x := by
    funext x
    unfold vx
    omega
  rw [e1]
  exact HA2.out
set_option maxHeartbeats 1000000 in
set_option maxRecDepth 100000 in
theorem vdrop_calls (n : Int) (r t : Nat) (w : World) (h : AO w O a f live most (fun x => rest x + vx r t x) nop) :
    Calls Try.prog 37 #[.pointer (some ⟨a, 0, none⟩), vecV n r t] w fun e w' => e = .returned (.tuple #[]) ∧ ∃ O' f' live', AO w' O' a f' live' most rest nop ∧ KeepR rest nop f f' ∧ live' ≤ live ∧ (∀ j, O' j → O j ∨ w.heap.size ≤ j) ∧ Fr O w w' := by
  have hlt := h.lt
  have e1 : (fun x => rest x + vx r t x) = fun x => (rest x + hold t x) + hold r x := by
    funext x
    unfold vx
    omega
  rw [e1] at h
  have hb0 := below_alloc (Below.refl w.heap.size w) (.cells #[.int .i64 n, .int .i64 r, .int .i64 t] 61)
  have hbk := blk_new w (.cells #[.int .i64 n, .int .i64 r, .int .i64 t] 61)
  have hnO : ¬ O w.heap.size := fun q => by have := hlt _ q; omega
  have hsz : w.heap.size ≤ (w.alloc (.cells #[.int .i64 n, .int .i64 r, .int .i64 t] 61)).heap.size := hb0.size
  have HA := Lib.hid (h.below hb0)
  have HB := Lib.hid hb0
  have HK := Lib.hid hbk
  clear h hb0 hbk hlt e1
  go_enter Try.func37, Try.ntmps37
  go_wp2_with (first
    | (go_at_call 23; refine (dropz t _ HA1.out).mono ?_; rintro e w2 ⟨c2, rfl, O2, f2, live2, hA2, hK2, hl2, hO2, hF2⟩; have HA2 := Lib.hid hA2; clear hA2)
    | (go_at_call 23; refine (dropz r _ HA.out).mono ?_; rintro e w1 ⟨c1, rfl, O1, f1, live1, hA1, hK1, hl1, hO1, hF1⟩; have HA1 := Lib.hid hA1; clear hA1; have hk1 := hF1.blk HK.out hnO; have q2 := blk_cell hk1 2))
  go_end0
  have hs1 := hF1.size
  refine ⟨rfl, O2, f2, live2, HA2.out, (hK1.mono (fun j hj => by omega)).trans hK2, by omega, fun j hj => ?_, ?_⟩
  · rcases hO2 j hj with q | q
    · exact (hO1 j q).imp id (fun q => by omega)
    · exact .inr (by omega)
  · refine (Fr.of_new HB.out).trans (hF1.then_ hF2 (fun j hj => ?_))
    exact (hO1 j hj).imp id (fun q => by first | exact q | omega)
end
end Go.Proofs.Ytnipbfhfaefieaa.Pv
/-! pvec: work is begun. -/
namespace Go.Proofs.Ytnipbfhfaefieaa.Pv
open Go.RowKit Go Go.Proofs.YtnipbfhfaefieaaW.PrintWords Go.Proofs.YtnipbfhfaefieaaW.PrintMore Go.Proofs.YtnipbfhfaefieaaW.PrintLast Go.Proofs.Ytnipbfhfaefieaa.Bts Go.Proofs.Ytnipbfhfaefieaa.Fra Go.Proofs.Ytnipbfhfaefieaa.ArnP Go.Proofs.Ytnipbfhfaefieaa.Arn Go.Proofs.Ytnipbfhfaefieaa.Ao
/-- What others hold, once work is begun: without an owner, the old vector too. -/
def RR (rest : Nat → Nat) (o : Int) (r t : Nat) : Nat → Nat := fun x => rest x + if o = 0 then vx r t x else 0
section
variable {O : Nat → Prop} {a : Nat} {f : Nat → Cell} {live most : Int} {ext rest : Nat → Nat}
set_option maxHeartbeats 2000000 in
set_option maxRecDepth 100000 in
theorem begin_calls (o : Int) (n r t : Nat) (w : World) (h : AO w O a f live most ext nop) (hn : n ≤ 1024) (hr : r = 0 ∨ 0 < (f r).r) (ht : t = 0 ∨ 0 < (f t).r) (he : ∀ x, ext x ≤ 90000000000) :
    Calls Try.prog 77 #[.pointer (some ⟨a, 0, none⟩), vecV n r t, .int .u32 o] w fun e w' => (most - live < (lev (lvs n + 1) : Int) + 3 ∧ e = .returned (.tuple #[.agg #[.pointer none, .int .u32 0], .int .i64 5]) ∧ Below w.heap.size w w') ∨
      (¬ most - live < (lev (lvs n + 1) : Int) + 3 ∧ e = .returned (.tuple #[workV a o, .int .i64 0]) ∧ ∃ f', AO w' O a f' live most (RR ext o r t) nop ∧ OnlyR f f' ∧ (∀ x, (f x).r ≤ (f' x).r) ∧ Fr O w w') := by
  have hneg : ¬ (n : Int) < 0 := by omega
  have hbig : ¬ (1024 : Int) < n := by omega
  have hlt := h.lt
  have hl32 : lvs n + 1 ≤ 32 := by unfold lvs; omega
  have hlev : lev (lvs n + 1) ≤ 1 := by unfold lev; split <;> omega
  obtain ⟨L, hL⟩ : ∃ L, lev (lvs n + 1) = L := ⟨_, rfl⟩
  rw [hL] at hlev ⊢
  have hlv : ∀ w, Calls Try.prog 62 #[.int .i64 ((lvs n : Int) + 1)] w fun e w' => e = .returned (.int .i64 (L : Int)) ∧ w' = w := fun w => by
    have := levels_calls (lvs n + 1) hl32 w
    rw [hL] at this
    exact this
  have hlc := leaves_calls n (r : Int) (t : Int) hn
  obtain ⟨m, hm⟩ : ∃ m, lvs n = m := ⟨_, rfl⟩
  rw [hm] at hlv hlc hl32
  have ew3 : wrap64 ((L : Int) + 3) = L + 3 := by unfold wrap64; omega
  have hlv : ∀ w, Calls Try.prog 62 #[.int .i64 (wrap64 ((m : Int) + 1))] w fun e w' => e = .returned (.int .i64 (L : Int)) ∧ w' = w := fun w => by
    rw [show wrap64 ((m : Int) + 1) = m + 1 by unfold wrap64; omega]
    exact hlv w
  have hbx := below_alloc (below_alloc (Below.refl w.heap.size w) (.cells #[.int .i64 n, .int .i64 r, .int .i64 t] 61)) (.cells #[.pointer none, .int .u32 0] 133)
  have hbk := blk_alloc (blk_new w (.cells #[.int .i64 n, .int .i64 r, .int .i64 t] 61)) (.cells #[.pointer none, .int .u32 0] 133)
  have hbk2 := new1 w (.cells #[.int .i64 n, .int .i64 r, .int .i64 t] 61) (.cells #[.pointer none, .int .u32 0] 133)
  obtain ⟨V, hV⟩ : ∃ V, ((w.alloc (.cells #[.int .i64 n, .int .i64 r, .int .i64 t] 61)).alloc (.cells #[.pointer none, .int .u32 0] 133)).drew = V := ⟨_, rfl⟩
  have hd : Below ((w.alloc (.cells #[.int .i64 n, .int .i64 r, .int .i64 t] 61)).alloc (.cells #[.pointer none, .int .u32 0] 133)).heap.size ((w.alloc (.cells #[.int .i64 n, .int .i64 r, .int .i64 t] 61)).alloc (.cells #[.pointer none, .int .u32 0] 133)) V := by rw [← hV]; exact below_drew1 (Below.refl _ _)
  have hbV : Below w.heap.size w V := hbx.trans (hd.mono (by simp; omega))
  have hbk := blk_below hbk hd
  have hbk2 := blk_below hbk2 hd
  have q0 := blk_cell hbk 0
  have q1 := blk_cell hbk 1
  have q2 := blk_cell hbk 2
  have HA := Lib.hid (h.below hbV)
  have HB := Lib.hid hbV
  have HK := Lib.hid hbk
  have HK2 := Lib.hid hbk2
  have HLV := Lib.hid hlv
  have HLC := Lib.hid hlc
  have HLT := Lib.hid hlt
  clear h hbx hbk hbk2 hd hbV hlv hlc hL hm hlt
  go_enter Try.func77, Try.ntmps77
  go_wp2
  refine start_ (n := 9) (S := fun w' => w'.cell? ⟨w.heap.size, 0, none⟩ = some (.int .i64 (n : Int)) ∧ w'.cell? ⟨w.heap.size, 1, none⟩ = some (.int .i64 (r : Int)) ∧ w'.cell? ⟨w.heap.size, 2, none⟩ = some (.int .i64 (t : Int))) (ds := []) #[false, false, false, false, false, false, false, false, false] (by kernel_rfl) rfl rfl ⟨(by rw [hV]; exact q0), (by rw [hV]; exact q1), (by rw [hV]; exact q2)⟩ (fun hHeld => ?_)
  refine pure_ (i := 0) (N := some 23) (v := ?_) (a' := ?_) #[true, false, false, false, false, false, false, false, false] rfl rfl (by kernel_rfl) (fun _ _ _ h => h) (Or.inl ⟨by rfl, ?_⟩) ?_ ?_
  rotate_left
  · intro w'
    go_simp
    with_reducible rfl
  rotate_left
  · simp only [Act.put, List.setIfInBounds_toArray, List.set_cons_zero, List.set_cons_succ, i64_w, i32_w]
    rfl
  refine take_ (i := 2) (N := some 25) (v := ?_) (a' := ?_) #[true, false, true, false, false, false, false, false, false] rfl rfl (by kernel_rfl) (fun _ _ _ h => h) (Or.inl ⟨by rfl, ?_⟩) hHeld ?_ ?_
  rotate_left
  · rintro w' ⟨s0, s1, s2⟩
    go_simp
    with_reducible rfl
  rotate_left
  · simp only [Act.put, List.setIfInBounds_toArray, List.set_cons_zero, List.set_cons_succ, i64_w, i32_w]
    rfl
  refine one_ (i := 1) (N := some 24) #[true, true, true, false, false, false, false, false, false] rfl rfl (by kernel_rfl) (by decide) (fun K hK => ?_)
  refine goes_ Try.func25 (by kernel_rfl) rfl #[.pointer (some ⟨a, 0, none⟩)] (by rfl) rfl rfl (by simp only [List.map_toArray, List.map_cons, List.map_nil]; rfl) ?_
  with_reducible refine (room_AO _ (hV ▸ HA.out)).mono ?_
  rintro e w3 ⟨rfl, hB3⟩
  refine ⟨_, rfl, ?_⟩
  have HB3 := Lib.hid (hV ▸ hB3 : Below V.heap.size V w3)
  have hk3 := blk_below HK.out HB3.out
  refine hK.out _ _ ⟨(blk_cell (blk_below HK.out HB3.out) 0), (blk_cell (blk_below HK.out HB3.out) 1), (blk_cell (blk_below HK.out HB3.out) 2)⟩ (fun hHeld => ?_)
  clear hK K
  refine norm_ (a' := ?_) ?_ ?_
  rotate_left
  · show Act.put _ (some 24) _ = _
    simp only [Act.put, List.setIfInBounds_toArray, List.set_cons_zero, List.set_cons_succ, i64_w, i32_w]
    rfl
  refine one_ (i := 3) (N := some 26) #[true, true, true, true, false, false, false, false, false] rfl rfl (by kernel_rfl) (by decide) (fun K hK => ?_)
  refine goes_ Try.func81 (by kernel_rfl) rfl #[vecV n r t] (by rfl) rfl rfl (by simp only [List.map_toArray, List.map_cons, List.map_nil]; rfl) ?_
  with_reducible refine (HLC.out _).mono ?_
  rintro e w4 ⟨rfl, hB4⟩
  refine ⟨_, rfl, ?_⟩
  have HB4 := Lib.hid (HB3.out.trans (hB4.mono HB3.out.size))
  refine hK.out _ _ ⟨(blk_cell (blk_below HK.out HB4.out) 0), (blk_cell (blk_below HK.out HB4.out) 1), (blk_cell (blk_below HK.out HB4.out) 2)⟩ (fun hHeld => ?_)
  clear hK K
  refine norm_ (a' := ?_) ?_ ?_
  rotate_left
  · show Act.put _ (some 26) _ = _
    simp only [Act.put, List.setIfInBounds_toArray, List.set_cons_zero, List.set_cons_succ, i64_w, i32_w]
    rfl
  refine pure_ (i := 4) (N := some 27) (v := ?_) (a' := ?_) #[true, true, true, true, true, false, false, false, false] rfl rfl (by kernel_rfl) (fun _ _ _ h => h) (Or.inl ⟨by rfl, ?_⟩) ?_ ?_
  rotate_left
  · intro w'
    go_simp
    with_reducible rfl
  rotate_left
  · simp only [Act.put, List.setIfInBounds_toArray, List.set_cons_zero, List.set_cons_succ, i64_w, i32_w]
    rfl
  refine one_ (i := 5) (N := some 28) #[true, true, true, true, true, true, false, false, false] rfl rfl (by kernel_rfl) (by decide) (fun K hK => ?_)
  refine goes_ Try.func62 (by kernel_rfl) rfl #[.int .i64 (wrap64 ((m : Int) + 1))] (by rfl) rfl rfl (by simp only [List.map_toArray, List.map_cons, List.map_nil]; rfl) ?_
  with_reducible refine (HLV.out _).mono ?_
  rintro e w5 ⟨rfl, hw5⟩
  refine ⟨_, rfl, ?_⟩
  subst hw5
  refine hK.out _ _ ⟨(blk_cell (blk_below HK.out HB4.out) 0), (blk_cell (blk_below HK.out HB4.out) 1), (blk_cell (blk_below HK.out HB4.out) 2)⟩ (fun hHeld => ?_)
  clear hK K
  refine norm_ (a' := ?_) ?_ ?_
  rotate_left
  · show Act.put _ (some 28) _ = _
    simp only [Act.put, List.setIfInBounds_toArray, List.set_cons_zero, List.set_cons_succ, i64_w, i32_w]
    rfl
  refine pure_ (i := 6) (N := some 29) (v := ?_) (a' := ?_) #[true, true, true, true, true, true, true, false, false] rfl rfl (by kernel_rfl) (fun _ _ _ h => h) (Or.inl ⟨by rfl, ?_⟩) ?_ ?_
  rotate_left
  · intro w'
    go_simp
    with_reducible rfl
  rotate_left
  · simp only [Act.put, List.setIfInBounds_toArray, List.set_cons_zero, List.set_cons_succ, i64_w, i32_w]
    rfl
  refine pure_ (i := 7) (N := some 30) (v := ?_) (a' := ?_) #[true, true, true, true, true, true, true, true, false] rfl rfl (by kernel_rfl) (fun _ _ _ h => h) (Or.inl ⟨by rfl, ?_⟩) ?_ ?_
  rotate_left
  · intro w'
    go_simp
    with_reducible rfl
  rotate_left
  · simp only [Act.put, List.setIfInBounds_toArray, List.set_cons_zero, List.set_cons_succ, i64_w, i32_w]
    rfl
  refine pure_ (i := 8) (N := some 22) (v := ?_) (a' := ?_) #[true, true, true, true, true, true, true, true, true] rfl rfl (by kernel_rfl) (fun _ _ _ h => h) (Or.inl ⟨by rfl, ?_⟩) ?_ ?_
  rotate_left
  · intro w'
    go_simp
    with_reducible rfl
  rotate_left
  · simp only [Act.put, List.setIfInBounds_toArray, List.set_cons_zero, List.set_cons_succ, i64_w, i32_w]
    rfl
  refine done_ (by kernel_rfl) ?_

  have hk5 := blk_below HK2.out HB4.out
  have hA5 := HA.out.below HB4.out
  have hb5 := HB.out.trans (HB4.out.mono HB.out.size)
  have hnO : ¬ O (w.heap.size + 1) := fun q => by have := HLT.out _ q; omega
  have HA5 := Lib.hid hA5
  have HB5 := Lib.hid hb5
  have HK5 := Lib.hid hk5
  have s0 := blk_cell (blk_below HK.out HB4.out) 0
  have s1 := blk_cell (blk_below HK.out HB4.out) 1
  have s2 := blk_cell (blk_below HK.out HB4.out) 2
  have g0 := blk_cell hk5 0
  have g1 := blk_cell hk5 1
  have fz0 := blk_frozen hk5 0
  have fz1 := blk_frozen hk5 1
  clear hk5 hA5 hb5 q0 q1 q2 hV
  by_cases hful : most - live < (L : Int) + 3
  · go_wp2
    refine bodyPost_ret (results_ct rfl _ _ (w.heap.size + 1) 133 #[.pointer none, .int .u32 0] (0, 0) _ rfl (blk_put (cs := #[.pointer none, .int .u32 0]) (blk_put (w := w5) HK5.out 0 _ rfl) 1 _ rfl) Try.underlying133 rfl (by kernel_rfl)) rfl ?_
    have hB9 : ∀ x y : Value, Below w.heap.size w ((w5.setCell ⟨w.heap.size + 1, 0, none⟩ x).setCell ⟨w.heap.size + 1, 1, none⟩ y) := fun x y => Below.setCell (Below.setCell HB5.out (show w.heap.size ≤ w.heap.size + 1 by omega) _) (show w.heap.size ≤ w.heap.size + 1 by omega) _
    first
      | exact .inl ⟨hful, rfl, hB9 _ _⟩
      | exact .inl ⟨rfl, hB9 _ _⟩
      | exact ⟨rfl, hB9 _ _⟩
  · have hF1 : ∀ {w6 : World} (x y : Value), Fr O w w6 → Fr O w ((w6.setCell ⟨w.heap.size + 1, 0, none⟩ x).setCell ⟨w.heap.size + 1, 1, none⟩ y) := fun x y h => (h.then_ (Fr.set _ _ _) (fun j hj => .inr (by omega))).then_ (Fr.set _ _ _) (fun j hj => .inr (by omega))
    have hA1 : ∀ {w6 : World} {g : Nat → Cell} {e2 : Nat → Nat} (x y : Value), AO w6 O a g live most e2 nop → AO ((w6.setCell ⟨w.heap.size + 1, 0, none⟩ x).setCell ⟨w.heap.size + 1, 1, none⟩ y) O a g live most e2 nop := fun x y h => (h.move (Fr.set _ _ _) (fun k hk e => by rw [e] at hk; exact hnO hk)).move (Fr.set _ _ _) (fun k hk e => by rw [e] at hk; exact hnO hk)
    by_cases ho : o = 0
    · subst ho
      go_wp2_with (go_at_call 53; refine (vkeep_calls n r t _ HA5.out hr ht he).mono ?_; rintro e w6 ⟨rfl, f6, hA6, hO6, hr6, hF6⟩; have hk6 := hF6.blk HK5.out hnO; have g0 := blk_cell hk6 0; have g1 := blk_cell hk6 1; have fz0 := blk_frozen hk6 0; have fz1 := blk_frozen hk6 1; have HA6 := Lib.hid hA6; have HK6 := Lib.hid hk6; clear hA6 hk6)
      refine bodyPost_ret (results_ct rfl _ _ (w.heap.size + 1) 133 #[.pointer (some ⟨a, 0, none⟩), .int .u32 0] (0, 0) _ rfl (blk_put (cs := #[.pointer (some ⟨a, 0, none⟩), .int .u32 0]) (blk_put (w := w6) HK6.out 0 _ rfl) 1 _ rfl) Try.underlying133 rfl (by kernel_rfl)) rfl ?_
      have e1 : RR ext 0 r t = fun x => ext x + vx r t x := by
        funext x
        unfold RR
        rw [if_pos rfl]
      have hA9 := hA1 (.pointer (some ⟨a, 0, none⟩)) (.int .u32 0) HA6.out
      rw [← e1] at hA9
      have hq := And.intro hA9 (And.intro hO6 (And.intro hr6 (hF1 (.pointer (some ⟨a, 0, none⟩)) (.int .u32 0) ((Fr.of_new HB5.out).trans hF6))))
      first
        | exact .inr ⟨hful, rfl, f6, hq⟩
        | exact .inr ⟨rfl, f6, hq⟩
        | exact ⟨rfl, f6, hq⟩
    · go_wp2
      refine bodyPost_ret (results_ct rfl _ _ (w.heap.size + 1) 133 #[.pointer (some ⟨a, 0, none⟩), .int .u32 o] (0, 0) _ rfl (blk_put (cs := #[.pointer (some ⟨a, 0, none⟩), .int .u32 0]) (blk_put (w := w5) HK5.out 0 _ rfl) 1 _ rfl) Try.underlying133 rfl (by kernel_rfl)) rfl ?_
      have e1 : RR ext o r t = ext := by
        funext x
        unfold RR
        rw [if_neg ho]
        rfl
      have hA9 := hA1 (.pointer (some ⟨a, 0, none⟩)) (.int .u32 o) HA5.out
      rw [← e1] at hA9
      have hq := And.intro hA9 (And.intro (OnlyR.refl f) (And.intro (show ∀ x, (f x).r ≤ (f x).r from fun x => Int.le_refl _) (hF1 (.pointer (some ⟨a, 0, none⟩)) (.int .u32 o) (Fr.of_new HB5.out))))
      first
        | exact .inr ⟨hful, rfl, f, hq⟩
        | exact .inr ⟨rfl, f, hq⟩
        | exact ⟨rfl, f, hq⟩
end
end Go.Proofs.Ytnipbfhfaefieaa.Pv
