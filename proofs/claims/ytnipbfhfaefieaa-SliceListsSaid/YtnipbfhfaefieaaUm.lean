/- Texts of this claim, laid together: PvQ, PvR, PvS. -/
import Derived.Test.YtnipbfhfaefieaaUl
/-! pvec: a vector's cells; its cells are held once more, and let go. -/
namespace Go.Proofs.Ytnipbfhfaefieaa.Pv
open Go.RowKit Go Go.Proofs.YtnipbfhfaefieaaW.PrintWords Go.Proofs.YtnipbfhfaefieaaW.PrintMore Go.Proofs.YtnipbfhfaefieaaW.PrintLast Go.Proofs.Ytnipbfhfaefieaa.Bts Go.Proofs.Ytnipbfhfaefieaa.Fra Go.Proofs.Ytnipbfhfaefieaa.ArnP Go.Proofs.Ytnipbfhfaefieaa.Arn Go.Proofs.Ytnipbfhfaefieaa.Ao
abbrev nop : Nat → Bool := fun _ => false
abbrev V3 := Int × Int × ByteArray
/-- A hold on a cell, if there is one. -/
def hold (i : Nat) : Nat → Nat := fun x => if i = 0 then 0 else one i x
theorem hold_zero : hold 0 = fun _ => 0 := rfl
theorem hold_pos {i : Nat} (h : 0 < i) : hold i = one i := by funext x; unfold hold; rw [if_neg (by omega)]
theorem hold_le (i x : Nat) : hold i x ≤ 1 := by unfold hold one; split <;> (try split) <;> omega
def vx (r t : Nat) : Nat → Nat := fun x => hold r x + hold t x
def Leaf (f : Nat → Cell) (k : Nat) (vals : List V3) : Prop := 0 < k ∧ (f k).vals = vals ∧ (f k).kids = []
/-- A trunk of m leaves, which have the values g. -/
def Trunk (f : Nat → Cell) (m r : Nat) (g : Nat → List V3) : Prop := (m = 0 ∧ r = 0) ∨ (m = 1 ∧ Leaf f r (g 0)) ∨ (2 ≤ m ∧ 0 < r ∧ (f r).vals = [] ∧ (f r).kids.length = m ∧ ∀ (j : Nat) (z : Int), (f r).kids[j]? = some z → ∃ k : Nat, z = k ∧ Leaf f k (g j))
def leafs (l : List V3) (j : Nat) : List V3 := (l.drop (32 * j)).take 32
def VRep (f : Nat → Cell) (n r t : Nat) (l : List V3) : Prop := n = l.length ∧ n ≤ 1024 ∧ ((n = 0 ∧ r = 0 ∧ t = 0) ∨ (0 < n ∧ Leaf f t (l.drop (32 * lvs n)) ∧ Trunk f (lvs n) r (leafs l)))
theorem Leaf.same {f f' : Nat → Cell} {k : Nat} {v : List V3} (h : Leaf f k v) (hs : Same f f' k) : Leaf f' k v := by
  obtain ⟨h0, h1, h2⟩ := h
  refine ⟨h0, ?_, ?_⟩
  · rw [hs.at_]; exact h1
  · rw [hs.at_]; exact h2
theorem kid_mem {l : List Int} {j k : Nat} (h : l[j]? = some (k : Int)) (hk : 0 < k) : k ∈ kidsOf l := by
  have := mem_kidsOf (List.mem_of_getElem? h) (by omega)
  rwa [Int.toNat_natCast] at this
theorem Trunk.same {f f' : Nat → Cell} {m r : Nat} {g : Nat → List V3} (h : Trunk f m r g) (hs : 0 < r → Same f f' r) : Trunk f' m r g := by
  rcases h with h | ⟨h1, h2⟩ | ⟨h1, h2, h3, h4, h5⟩
  · exact .inl h
  · exact .inr (.inl ⟨h1, h2.same (hs h2.1)⟩)
  · have hs := hs h2
    refine .inr (.inr ⟨h1, h2, ?_, ?_, fun j z hz => ?_⟩)
    · rw [hs.at_]; exact h3
    · rw [hs.at_]; exact h4
    · rw [hs.at_] at hz
      obtain ⟨k, rfl, hk⟩ := h5 j z hz
      exact ⟨k, rfl, hk.same (hs.kid (kid_mem hz hk.1))⟩
theorem Trunk.congr {f : Nat → Cell} {m r : Nat} {g g' : Nat → List V3} (h : Trunk f m r g) (hg : ∀ j, j < m → g j = g' j) : Trunk f m r g' := by
  rcases h with h | ⟨rfl, h2⟩ | ⟨h1, h2, h3, h4, h5⟩
  · exact .inl h
  · exact .inr (.inl ⟨rfl, by rw [← hg 0 (by omega)]; exact h2⟩)
  · refine .inr (.inr ⟨h1, h2, h3, h4, fun j z hz => ?_⟩)
    obtain ⟨k, rfl, hk⟩ := h5 j z hz
    have hj := (List.getElem?_eq_some_iff.1 hz).1
    exact ⟨k, rfl, by rw [← hg j (by omega)]; exact hk⟩
theorem VRep.same {f f' : Nat → Cell} {n r t : Nat} {l : List V3} (h : VRep f n r t l) (hs : ∀ j, 0 < j → 0 < vx r t j → Same f f' j) : VRep f' n r t l := by
  obtain ⟨h1, h2, h3⟩ := h
  refine ⟨h1, h2, ?_⟩
  rcases h3 with h3 | ⟨h3, h4, h5⟩
  · exact .inl h3
  · refine .inr ⟨h3, h4.same (hs t h4.1 ?_), h5.same fun hr => hs r hr ?_⟩
    · unfold vx
      rw [hold_pos h4.1]
      have : one t t = 1 := if_pos rfl
      omega
    · unfold vx
      rw [hold_pos hr]
      have : one r r = 1 := if_pos rfl
      omega
theorem vx_r {r t : Nat} (h : 0 < r) : 0 < vx r t r := by
  unfold vx
  rw [hold_pos h]
  have : one r r = 1 := if_pos rfl
  omega
theorem vx_t {r t : Nat} (h : 0 < t) : 0 < vx r t t := by
  unfold vx
  rw [hold_pos h]
  have : one t t = 1 := if_pos rfl
  omega
section
variable {O : Nat → Prop} {a : Nat} {f : Nat → Cell} {live most : Int} {ext rest : Nat → Nat}
/-- Keep of a cell, or of none. -/
theorem keepz (i : Nat) (w : World) (h : AO w O a f live most ext nop) (hi : i = 0 ∨ 0 < (f i).r) (he : ext i < 100000000000) :
    Calls Try.prog 27 #[.pointer (some ⟨a, 0, none⟩), .int .i64 i] w fun e w' => ∃ c : Int, e = .returned (.int .i64 c) ∧ ∃ f', AO w' O a f' live most (fun x => ext x + hold i x) nop ∧ OnlyR f f' ∧ (∀ x, (f x).r ≤ (f' x).r) ∧ Fr O w w' := by
  rcases Nat.eq_zero_or_pos i with rfl | h0
  · refine (keepn_AO ((0 : Nat) : Int) w h rfl).mono ?_
    rintro e w' ⟨rfl, hB⟩
    exact ⟨4, rfl, f, h.below hB, OnlyR.refl f, fun _ => Int.le_refl _, Fr.of_new hB⟩
  · have hr : 0 < (f i).r := hi.resolve_left (by omega)
    refine (keep_AO i w h h0 hr rfl he).mono ?_
    rintro e w' ⟨rfl, hA, hF⟩
    have e1 : (fun x => if x = i then ext x + 1 else ext x) = fun x => ext x + hold i x := by
      funext x
      rw [hold_pos h0]
      unfold one
      split <;> rfl
    rw [e1] at hA
    refine ⟨0, rfl, _, hA, (OnlyR.refl f).upd i _, fun x => ?_, hF⟩
    by_cases q : x = i
    · subst q
      rw [upd_eq]
      show (f x).r ≤ (f x).r + 1
      omega
    · rw [upd_ne _ q]
      exact Int.le_refl _
/-- Drop of a cell, or of none. -/
theorem dropz (i : Nat) (w : World) (h : AO w O a f live most (fun x => rest x + hold i x) nop) :
    Calls Try.prog 23 #[.pointer (some ⟨a, 0, none⟩), .int .i64 i] w fun e w' => ∃ c : Int, e = .returned (.int .i64 c) ∧ ∃ O' f' live', AO w' O' a f' live' most rest nop ∧ KeepR rest nop f f' ∧ live' ≤ live ∧ (∀ j, O' j → O j ∨ w.heap.size ≤ j) ∧ Fr O w w' := by
  rcases Nat.eq_zero_or_pos i with rfl | h0
  · refine (dropn_AO ((0 : Nat) : Int) w h rfl).mono ?_
    rintro e w' ⟨rfl, hB⟩
    exact ⟨4, rfl, O, f, live, h.below hB, KeepR.refl _ _ _, Int.le_refl _, fun j hj => .inl hj, Fr.of_new hB⟩
  · have h1 : one i i = 1 := if_pos rfl
    have he : 0 < rest i + hold i i := by rw [hold_pos h0]; omega
    refine (drop_AO i w h h0 he rfl).mono ?_
    rintro e w' ⟨rfl, O', f', live', hA, hL, hll, hO, hF⟩
    have e1 : (fun x => if x = i then rest x + hold i x - 1 else rest x + hold i x) = rest := by
      funext x
      rw [hold_pos h0]
      unfold one
      split <;> omega
    rw [e1] at hA
    exact ⟨0, rfl, O', f', live', hA, keepR_drop h hA (OnlyR.refl f) hL (fun j hj hr => h.ext_lv hj (by show 0 < rest j + _; omega)) (fun _ => Nat.le_refl _), hll, hO, hF⟩
/-- Cells that are but held more often. -/
theorem same_only {f' : Nat → Cell} {w : World} (h : AO w O a f live most ext nop) (ho : OnlyR f f') : ∀ j, 0 < j → 0 < (f j).r → Same f f' j := fun j h0 hr => same_step h (fun _ => True) (fun x _ _ => ho x) (fun _ _ _ _ _ => trivial) j ⟨h0, hr, rfl⟩ trivial
theorem OnlyR.trans {f g h : Nat → Cell} (h1 : OnlyR f g) (h2 : OnlyR g h) : OnlyR f h := fun x => by
  have e1 := h1 x
  have e2 := h2 x
  rw [e2]
  generalize (h x).r = n at *
  rw [e1]
set_option maxHeartbeats 1000000 in
set_option maxRecDepth 100000 in
theorem vkeep_calls (n : Int) (r t : Nat) (w : World) (h : AO w O a f live most ext nop) (hr : r = 0 ∨ 0 < (f r).r) (ht : t = 0 ∨ 0 < (f t).r) (he : ∀ x, ext x ≤ 90000000000) :
    Calls Try.prog 53 #[.pointer (some ⟨a, 0, none⟩), vecV n r t] w fun e w' => e = .returned (.tuple #[]) ∧ ∃ f', AO w' O a f' live most (fun x => ext x + vx r t x) nop ∧ OnlyR f f' ∧ (∀ x, (f x).r ≤ (f' x).r) ∧ Fr O w w' := by
  have hlt := h.lt
  have hb0 := below_alloc (Below.refl w.heap.size w) (.cells #[.int .i64 n, .int .i64 r, .int .i64 t] 61)
  have hbk := blk_new w (.cells #[.int .i64 n, .int .i64 r, .int .i64 t] 61)
  have hnO : ¬ O w.heap.size := fun q => by have := hlt _ q; omega
  have HA := Lib.hid (h.below hb0)
  have HB := Lib.hid hb0
  have HK := Lib.hid hbk
  clear h hb0 hbk hlt
  go_enter Try.func53, Try.ntmps53
  go_wp2_with (first
    | (go_at_call 27; refine (keepz t _ HA1.out ht1 het1).mono ?_; rintro e w2 ⟨c2, rfl, f2, hA2, hO2, hr2, hF2⟩; have HA2 := Lib.hid hA2; clear hA2)
    | (go_at_call 27; refine (keepz r _ HA.out hr (by have := he r; omega)).mono ?_; rintro e w1 ⟨c1, rfl, f1, hA1, hO1, hr1, hF1⟩; have HA1 := Lib.hid hA1; clear hA1; have hk1 := hF1.blk HK.out hnO; have q2 := blk_cell hk1 2; have ht1 : t = 0 ∨ 0 < (f1 t).r := ht.imp id (fun q => by have := hr1 t; omega); have het1 : (ext t + hold r t) < 100000000000 := (by have := he t; have := hold_le r t; omega)))
  go_end0
  refine ⟨rfl, f2, ?_, hO1.trans hO2, fun x => Int.le_trans (hr1 x) (hr2 x), (Fr.of_new HB.out).trans (hF1.trans hF2)⟩
  have e1 : (fun x => ext x + vx r t x) = fun x => ext x + hold r x + hold t x := by
    funext x
    unfold vx
    omega
  rw [e1]
  exact HA2.out
set_option maxHeartbeats 1000000 in
set_option maxRecDepth 100000 in
theorem vdrop_calls (n : Int) (r t : Nat) (w : World) (h : AO w O a f live most (fun x => rest x + vx r t x) nop) :
    Calls Try.prog 37 #[.pointer (some ⟨a, 0, none⟩), vecV n r t] w fun e w' => e = .returned (.tuple #[]) ∧ ∃ O' f' live', AO w' O' a f' live' most rest nop ∧ KeepR rest nop f f' ∧ live' ≤ live ∧ (∀ j, O' j → O j ∨ w.heap.size ≤ j) ∧ Fr O w w' := by
  have hlt := h.lt
  have e1 : (fun x => rest x + vx r t x) = fun x => (rest x + hold t x) + hold r x := by
    funext x
    unfold vx
    omega
  rw [e1] at h
  have hb0 := below_alloc (Below.refl w.heap.size w) (.cells #[.int .i64 n, .int .i64 r, .int .i64 t] 61)
  have hbk := blk_new w (.cells #[.int .i64 n, .int .i64 r, .int .i64 t] 61)
  have hnO : ¬ O w.heap.size := fun q => by have := hlt _ q; omega
  have hsz : w.heap.size ≤ (w.alloc (.cells #[.int .i64 n, .int .i64 r, .int .i64 t] 61)).heap.size := hb0.size
  have HA := Lib.hid (h.below hb0)
  have HB := Lib.hid hb0
  have HK := Lib.hid hbk
  clear h hb0 hbk hlt e1
  go_enter Try.func37, Try.ntmps37
  go_wp2_with (first
    | (go_at_call 23; refine (dropz t _ HA1.out).mono ?_; rintro e w2 ⟨c2, rfl, O2, f2, live2, hA2, hK2, hl2, hO2, hF2⟩; have HA2 := Lib.hid hA2; clear hA2)
    | (go_at_call 23; refine (dropz r _ HA.out).mono ?_; rintro e w1 ⟨c1, rfl, O1, f1, live1, hA1, hK1, hl1, hO1, hF1⟩; have HA1 := Lib.hid hA1; clear hA1; have hk1 := hF1.blk HK.out hnO; have q2 := blk_cell hk1 2))
  go_end0
  have hs1 := hF1.size
  refine ⟨rfl, O2, f2, live2, HA2.out, (hK1.mono (fun j hj => by omega)).trans hK2, by omega, fun j hj => ?_, ?_⟩
  · rcases hO2 j hj with q | q
    · exact (hO1 j q).imp id (fun q => by omega)
    · exact .inr (by omega)
  · refine (Fr.of_new HB.out).trans (hF1.then_ hF2 (fun j hj => ?_))
    exact (hO1 j hj).imp id (fun q => by first | exact q | omega)
end
end Go.Proofs.Ytnipbfhfaefieaa.Pv
/-! pvec: work is begun. -/
namespace Go.Proofs.Ytnipbfhfaefieaa.Pv
open Go.RowKit Go Go.Proofs.YtnipbfhfaefieaaW.PrintWords Go.Proofs.YtnipbfhfaefieaaW.PrintMore Go.Proofs.YtnipbfhfaefieaaW.PrintLast Go.Proofs.Ytnipbfhfaefieaa.Bts Go.Proofs.Ytnipbfhfaefieaa.Fra Go.Proofs.Ytnipbfhfaefieaa.ArnP Go.Proofs.Ytnipbfhfaefieaa.Arn Go.Proofs.Ytnipbfhfaefieaa.Ao
/-- What others hold, once work is begun: without an owner, the old vector too. -/
def RR (rest : Nat → Nat) (o : Int) (r t : Nat) : Nat → Nat := fun x => rest x + if o = 0 then vx r t x else 0
section
variable {O : Nat → Prop} {a : Nat} {f : Nat → Cell} {live most : Int} {ext rest : Nat → Nat}
set_option maxHeartbeats 2000000 in
set_option maxRecDepth 100000 in
theorem begin_calls (o : Int) (n r t : Nat) (w : World) (h : AO w O a f live most ext nop) (hn : n ≤ 1024) (hr : r = 0 ∨ 0 < (f r).r) (ht : t = 0 ∨ 0 < (f t).r) (he : ∀ x, ext x ≤ 90000000000) :
    Calls Try.prog 77 #[.pointer (some ⟨a, 0, none⟩), vecV n r t, .int .u32 o] w fun e w' => (most - live < (lev (lvs n + 1) : Int) + 3 ∧ e = .returned (.tuple #[.agg #[.pointer none, .int .u32 0], .int .i64 5]) ∧ Below w.heap.size w w') ∨
      (¬ most - live < (lev (lvs n + 1) : Int) + 3 ∧ e = .returned (.tuple #[workV a o, .int .i64 0]) ∧ ∃ f', AO w' O a f' live most (RR ext o r t) nop ∧ OnlyR f f' ∧ (∀ x, (f x).r ≤ (f' x).r) ∧ Fr O w w') := by
  have hneg : ¬ (n : Int) < 0 := by omega
  have hbig : ¬ (1024 : Int) < n := by omega
  have hlt := h.lt
  have hl32 : lvs n + 1 ≤ 32 := by unfold lvs; omega
  have hlev : lev (lvs n + 1) ≤ 1 := by unfold lev; split <;> omega
  obtain ⟨L, hL⟩ : ∃ L, lev (lvs n + 1) = L := ⟨_, rfl⟩
  rw [hL] at hlev ⊢
  have hlv : ∀ w, Calls Try.prog 62 #[.int .i64 ((lvs n : Int) + 1)] w fun e w' => e = .returned (.int .i64 (L : Int)) ∧ w' = w := fun w => by
    have := levels_calls (lvs n + 1) hl32 w
    rw [hL] at this
    exact this
  have hlc := leaves_calls n (r : Int) (t : Int) hn
  obtain ⟨m, hm⟩ : ∃ m, lvs n = m := ⟨_, rfl⟩
  rw [hm] at hlv hlc hl32
  have ew3 : wrap64 ((L : Int) + 3) = L + 3 := by unfold wrap64; omega
  have hlv : ∀ w, Calls Try.prog 62 #[.int .i64 (wrap64 ((m : Int) + 1))] w fun e w' => e = .returned (.int .i64 (L : Int)) ∧ w' = w := fun w => by
    rw [show wrap64 ((m : Int) + 1) = m + 1 by unfold wrap64; omega]
    exact hlv w
  have hbx := below_alloc (below_alloc (Below.refl w.heap.size w) (.cells #[.int .i64 n, .int .i64 r, .int .i64 t] 61)) (.cells #[.pointer none, .int .u32 0] 133)
  have hbk := blk_alloc (blk_new w (.cells #[.int .i64 n, .int .i64 r, .int .i64 t] 61)) (.cells #[.pointer none, .int .u32 0] 133)
  have hbk2 := new1 w (.cells #[.int .i64 n, .int .i64 r, .int .i64 t] 61) (.cells #[.pointer none, .int .u32 0] 133)
  obtain ⟨V, hV⟩ : ∃ V, ((w.alloc (.cells #[.int .i64 n, .int .i64 r, .int .i64 t] 61)).alloc (.cells #[.pointer none, .int .u32 0] 133)).drew = V := ⟨_, rfl⟩
  have hd : Below ((w.alloc (.cells #[.int .i64 n, .int .i64 r, .int .i64 t] 61)).alloc (.cells #[.pointer none, .int .u32 0] 133)).heap.size ((w.alloc (.cells #[.int .i64 n, .int .i64 r, .int .i64 t] 61)).alloc (.cells #[.pointer none, .int .u32 0] 133)) V := by rw [← hV]; exact below_drew1 (Below.refl _ _)
  have hbV : Below w.heap.size w V := hbx.trans (hd.mono (by simp; omega))
  have hbk := blk_below hbk hd
  have hbk2 := blk_below hbk2 hd
  have q0 := blk_cell hbk 0
  have q1 := blk_cell hbk 1
  have q2 := blk_cell hbk 2
  have HA := Lib.hid (h.below hbV)
  have HB := Lib.hid hbV
  have HK := Lib.hid hbk
  have HK2 := Lib.hid hbk2
  have HLV := Lib.hid hlv
  have HLC := Lib.hid hlc
  have HLT := Lib.hid hlt
  clear h hbx hbk hbk2 hd hbV hlv hlc hL hm hlt
  go_enter Try.func77, Try.ntmps77
  go_wp2
  refine start_ (n := 9) (S := fun w' => w'.cell? ⟨w.heap.size, 0, none⟩ = some (.int .i64 (n : Int)) ∧ w'.cell? ⟨w.heap.size, 1, none⟩ = some (.int .i64 (r : Int)) ∧ w'.cell? ⟨w.heap.size, 2, none⟩ = some (.int .i64 (t : Int))) (ds := []) #[false, false, false, false, false, false, false, false, false] (by kernel_rfl) rfl rfl ⟨(by rw [hV]; exact q0), (by rw [hV]; exact q1), (by rw [hV]; exact q2)⟩ (fun hHeld => ?_)
  refine pure_ (i := 0) (N := some 23) (v := ?_) (a' := ?_) #[true, false, false, false, false, false, false, false, false] rfl rfl (by kernel_rfl) (fun _ _ _ h => h) (Or.inl ⟨by rfl, ?_⟩) ?_ ?_
  rotate_left
  · intro w'
    go_simp
    with_reducible rfl
  rotate_left
  · simp only [Act.put, List.setIfInBounds_toArray, List.set_cons_zero, List.set_cons_succ, i64_w, i32_w]
    rfl
  refine take_ (i := 2) (N := some 25) (v := ?_) (a' := ?_) #[true, false, true, false, false, false, false, false, false] rfl rfl (by kernel_rfl) (fun _ _ _ h => h) (Or.inl ⟨by rfl, ?_⟩) hHeld ?_ ?_
  rotate_left
  · rintro w' ⟨s0, s1, s2⟩
    go_simp
    with_reducible rfl
  rotate_left
  · simp only [Act.put, List.setIfInBounds_toArray, List.set_cons_zero, List.set_cons_succ, i64_w, i32_w]
    rfl
  refine one_ (i := 1) (N := some 24) #[true, true, true, false, false, false, false, false, false] rfl rfl (by kernel_rfl) (by decide) (fun K hK => ?_)
  refine goes_ Try.func25 (by kernel_rfl) rfl #[.pointer (some ⟨a, 0, none⟩)] (by rfl) rfl rfl (by simp only [List.map_toArray, List.map_cons, List.map_nil]; rfl) ?_
  with_reducible refine (room_AO _ (hV ▸ HA.out)).mono ?_
  rintro e w3 ⟨rfl, hB3⟩
  refine ⟨_, rfl, ?_⟩
  have HB3 := Lib.hid (hV ▸ hB3 : Below V.heap.size V w3)
  have hk3 := blk_below HK.out HB3.out
  refine hK.out _ _ ⟨(blk_cell (blk_below HK.out HB3.out) 0), (blk_cell (blk_below HK.out HB3.out) 1), (blk_cell (blk_below HK.out HB3.out) 2)⟩ (fun hHeld => ?_)
  clear hK K
  refine norm_ (a' := ?_) ?_ ?_
  rotate_left
  · show Act.put _ (some 24) _ = _
    simp only [Act.put, List.setIfInBounds_toArray, List.set_cons_zero, List.set_cons_succ, i64_w, i32_w]
    rfl
  refine one_ (i := 3) (N := some 26) #[true, true, true, true, false, false, false, false, false] rfl rfl (by kernel_rfl) (by decide) (fun K hK => ?_)
  refine goes_ Try.func81 (by kernel_rfl) rfl #[vecV n r t] (by rfl) rfl rfl (by simp only [List.map_toArray, List.map_cons, List.map_nil]; rfl) ?_
  with_reducible refine (HLC.out _).mono ?_
  rintro e w4 ⟨rfl, hB4⟩
  refine ⟨_, rfl, ?_⟩
  have HB4 := Lib.hid (HB3.out.trans (hB4.mono HB3.out.size))
  refine hK.out _ _ ⟨(blk_cell (blk_below HK.out HB4.out) 0), (blk_cell (blk_below HK.out HB4.out) 1), (blk_cell (blk_below HK.out HB4.out) 2)⟩ (fun hHeld => ?_)
  clear hK K
  refine norm_ (a' := ?_) ?_ ?_
  rotate_left
  · show Act.put _ (some 26) _ = _
    simp only [Act.put, List.setIfInBounds_toArray, List.set_cons_zero, List.set_cons_succ, i64_w, i32_w]
    rfl
  refine pure_ (i := 4) (N := some 27) (v := ?_) (a' := ?_) #[true, true, true, true, true, false, false, false, false] rfl rfl (by kernel_rfl) (fun _ _ _ h => h) (Or.inl ⟨by rfl, ?_⟩) ?_ ?_
  rotate_left
  · intro w'
    go_simp
    with_reducible rfl
  rotate_left
  · simp only [Act.put, List.setIfInBounds_toArray, List.set_cons_zero, List.set_cons_succ, i64_w, i32_w]
    rfl
  refine one_ (i := 5) (N := some 28) #[true, true, true, true, true, true, false, false, false] rfl rfl (by kernel_rfl) (by decide) (fun K hK => ?_)
  refine goes_ Try.func62 (by kernel_rfl) rfl #[.int .i64 (wrap64 ((m : Int) + 1))] (by rfl) rfl rfl (by simp only [List.map_toArray, List.map_cons, List.map_nil]; rfl) ?_
  with_reducible refine (HLV.out _).mono ?_
  rintro e w5 ⟨rfl, hw5⟩
  refine ⟨_, rfl, ?_⟩
  subst hw5
  refine hK.out _ _ ⟨(blk_cell (blk_below HK.out HB4.out) 0), (blk_cell (blk_below HK.out HB4.out) 1), (blk_cell (blk_below HK.out HB4.out) 2)⟩ (fun hHeld => ?_)
  clear hK K
  refine norm_ (a' := ?_) ?_ ?_
  rotate_left
  · show Act.put _ (some 28) _ = _
    simp only [Act.put, List.setIfInBounds_toArray, List.set_cons_zero, List.set_cons_succ, i64_w, i32_w]
    rfl
  refine pure_ (i := 6) (N := some 29) (v := ?_) (a' := ?_) #[true, true, true, true, true, true, true, false, false] rfl rfl (by kernel_rfl) (fun _ _ _ h => h) (Or.inl ⟨by rfl, ?_⟩) ?_ ?_
  rotate_left
  · intro w'
    go_simp
    with_reducible rfl
  rotate_left
  · simp only [Act.put, List.setIfInBounds_toArray, List.set_cons_zero, List.set_cons_succ, i64_w, i32_w]
    rfl
  refine pure_ (i := 7) (N := some 30) (v := ?_) (a' := ?_) #[true, true, true, true, true, true, true, true, false] rfl rfl (by kernel_rfl) (fun _ _ _ h => h) (Or.inl ⟨by rfl, ?_⟩) ?_ ?_
  rotate_left
  · intro w'
    go_simp
    with_reducible rfl
  rotate_left
  · simp only [Act.put, List.setIfInBounds_toArray, List.set_cons_zero, List.set_cons_succ, i64_w, i32_w]
    rfl
  refine pure_ (i := 8) (N := some 22) (v := ?_) (a' := ?_) #[true, true, true, true, true, true, true, true, true] rfl rfl (by kernel_rfl) (fun _ _ _ h => h) (Or.inl ⟨by rfl, ?_⟩) ?_ ?_
  rotate_left
  · intro w'
    go_simp
    with_reducible rfl
  rotate_left
  · simp only [Act.put, List.setIfInBounds_toArray, List.set_cons_zero, List.set_cons_succ, i64_w, i32_w]
    rfl
  refine done_ (by kernel_rfl) ?_

  have hk5 := blk_below HK2.out HB4.out
  have hA5 := HA.out.below HB4.out
  have hb5 := HB.out.trans (HB4.out.mono HB.out.size)
  have hnO : ¬ O (w.heap.size + 1) := fun q => by have := HLT.out _ q; omega
  have HA5 := Lib.hid hA5
  have HB5 := Lib.hid hb5
  have HK5 := Lib.hid hk5
  have s0 := blk_cell (blk_below HK.out HB4.out) 0
  have s1 := blk_cell (blk_below HK.out HB4.out) 1
  have s2 := blk_cell (blk_below HK.out HB4.out) 2
  have g0 := blk_cell hk5 0
  have g1 := blk_cell hk5 1
  have fz0 := blk_frozen hk5 0
  have fz1 := blk_frozen hk5 1
  clear hk5 hA5 hb5 q0 q1 q2 hV
  by_cases hful : most - live < (L : Int) + 3
  · go_wp2
    refine bodyPost_ret (results_ct rfl _ _ (w.heap.size + 1) 133 #[.pointer none, .int .u32 0] (0, 0) _ rfl (blk_put (cs := #[.pointer none, .int .u32 0]) (blk_put (w := w5) HK5.out 0 _ rfl) 1 _ rfl) Try.underlying133 rfl (by kernel_rfl)) rfl ?_
    have hB9 : ∀ x y : Value, Below w.heap.size w ((w5.setCell ⟨w.heap.size + 1, 0, none⟩ x).setCell ⟨w.heap.size + 1, 1, none⟩ y) := fun x y => Below.setCell (Below.setCell HB5.out (show w.heap.size ≤ w.heap.size + 1 by omega) _) (show w.heap.size ≤ w.heap.size + 1 by omega) _
    first
      | exact .inl ⟨hful, rfl, hB9 _ _⟩
      | exact .inl ⟨rfl, hB9 _ _⟩
      | exact ⟨rfl, hB9 _ _⟩
  · have hF1 : ∀ {w6 : World} (x y : Value), Fr O w w6 → Fr O w ((w6.setCell ⟨w.heap.size + 1, 0, none⟩ x).setCell ⟨w.heap.size + 1, 1, none⟩ y) := fun x y h => (h.then_ (Fr.set _ _ _) (fun j hj => .inr (by omega))).then_ (Fr.set _ _ _) (fun j hj => .inr (by omega))
    have hA1 : ∀ {w6 : World} {g : Nat → Cell} {e2 : Nat → Nat} (x y : Value), AO w6 O a g live most e2 nop → AO ((w6.setCell ⟨w.heap.size + 1, 0, none⟩ x).setCell ⟨w.heap.size + 1, 1, none⟩ y) O a g live most e2 nop := fun x y h => (h.move (Fr.set _ _ _) (fun k hk e => by rw [e] at hk; exact hnO hk)).move (Fr.set _ _ _) (fun k hk e => by rw [e] at hk; exact hnO hk)
    by_cases ho : o = 0
    · subst ho
      go_wp2_with (go_at_call 53; refine (vkeep_calls n r t _ HA5.out hr ht he).mono ?_; rintro e w6 ⟨rfl, f6, hA6, hO6, hr6, hF6⟩; have hk6 := hF6.blk HK5.out hnO; have g0 := blk_cell hk6 0; have g1 := blk_cell hk6 1; have fz0 := blk_frozen hk6 0; have fz1 := blk_frozen hk6 1; have HA6 := Lib.hid hA6; have HK6 := Lib.hid hk6; clear hA6 hk6)
      refine bodyPost_ret (results_ct rfl _ _ (w.heap.size + 1) 133 #[.pointer (some ⟨a, 0, none⟩), .int .u32 0] (0, 0) _ rfl (blk_put (cs := #[.pointer (some ⟨a, 0, none⟩), .int .u32 0]) (blk_put (w := w6) HK6.out 0 _ rfl) 1 _ rfl) Try.underlying133 rfl (by kernel_rfl)) rfl ?_
      have e1 : RR ext 0 r t = fun x => ext x + vx r t x := by
        funext x
        unfold RR
        rw [if_pos rfl]
      have hA9 := hA1 (.pointer (some ⟨a, 0, none⟩)) (.int .u32 0) HA6.out
      rw [← e1] at hA9
      have hq := And.intro hA9 (And.intro hO6 (And.intro hr6 (hF1 (.pointer (some ⟨a, 0, none⟩)) (.int .u32 0) ((Fr.of_new HB5.out).trans hF6))))
      first
        | exact .inr ⟨hful, rfl, f6, hq⟩
        | exact .inr ⟨rfl, f6, hq⟩
        | exact ⟨rfl, f6, hq⟩
    · go_wp2
      refine bodyPost_ret (results_ct rfl _ _ (w.heap.size + 1) 133 #[.pointer (some ⟨a, 0, none⟩), .int .u32 o] (0, 0) _ rfl (blk_put (cs := #[.pointer (some ⟨a, 0, none⟩), .int .u32 0]) (blk_put (w := w5) HK5.out 0 _ rfl) 1 _ rfl) Try.underlying133 rfl (by kernel_rfl)) rfl ?_
      have e1 : RR ext o r t = ext := by
        funext x
        unfold RR
        rw [if_neg ho]
        rfl
      have hA9 := hA1 (.pointer (some ⟨a, 0, none⟩)) (.int .u32 o) HA5.out
      rw [← e1] at hA9
      have hq := And.intro hA9 (And.intro (OnlyR.refl f) (And.intro (show ∀ x, (f x).r ≤ (f x).r from fun x => Int.le_refl _) (hF1 (.pointer (some ⟨a, 0, none⟩)) (.int .u32 o) (Fr.of_new HB5.out))))
      first
        | exact .inr ⟨hful, rfl, f, hq⟩
        | exact .inr ⟨rfl, f, hq⟩
        | exact ⟨rfl, f, hq⟩
end
end Go.Proofs.Ytnipbfhfaefieaa.Pv
/-! pvec: the values of the leaf in which a place is. -/
namespace Go.Proofs.Ytnipbfhfaefieaa.Pv
open Go.RowKit Go Go.Proofs.YtnipbfhfaefieaaW.PrintWords Go.Proofs.YtnipbfhfaefieaaW.PrintMore Go.Proofs.YtnipbfhfaefieaaW.PrintLast Go.Proofs.Ytnipbfhfaefieaa.Bts Go.Proofs.Ytnipbfhfaefieaa.Fra Go.Proofs.Ytnipbfhfaefieaa.ArnP Go.Proofs.Ytnipbfhfaefieaa.Arn Go.Proofs.Ytnipbfhfaefieaa.Ao
section
variable {O : Nat → Prop} {a : Nat} {f : Nat → Cell} {live most : Int} {ext rest : Nat → Nat}
set_option maxHeartbeats 2000000 in
set_option maxRecDepth 100000 in
/-- In the tail. -/
theorem leafA_calls (n r t i d : Nat) (w : World) (h : AO w O a f live most ext nop) (hn : n ≤ 1024) (hd : i / 32 = d) (hi : i ≤ 1024) (hm : lvs n ≤ d) (ht : 0 < t) (htl : 0 < (f t).r) :
    Calls Try.prog 84 #[.pointer (some ⟨a, 0, none⟩), vecV n r t, .int .i64 i] w fun e w' => ∃ v', e = .returned v' ∧ VR w' w.heap.size v' (f t).vals ∧ Below w.heap.size w w' := by
  obtain ⟨m, hmm⟩ : ∃ m, lvs n = m := ⟨_, rfl⟩
  have hlc := leaves_calls n (r : Int) (t : Int) hn
  rw [hmm] at hlc hm
  have hkd : (i : Int).tdiv 32 = (d : Int) := by rw [Int.tdiv_eq_ediv_of_nonneg (by omega)]; omega
  have hkd2 : (i : Int) / 32 = (d : Int) := by omega
  have hdd : d ≤ 32 := by omega
  have hnlt : ¬ (d : Int) < (m : Int) := by omega
  have hb0 := below_alloc (Below.refl w.heap.size w) (.cells #[.int .i64 n, .int .i64 r, .int .i64 t] 61)
  have hbk := blk_new w (.cells #[.int .i64 n, .int .i64 r, .int .i64 t] 61)
  have HA := Lib.hid (h.below hb0)
  have HB := Lib.hid hb0
  have HK := Lib.hid hbk
  have HLC := Lib.hid hlc
  clear h hb0 hbk hlc hmm hn hd
  go_enter Try.func84, Try.ntmps84
  go_wp2_with (first
    | (go_at_call 24; go_loud (refine (get_AO t _ HA4.out ht htl).mono ?_; rintro e w5 ⟨v', k', rfl, hV5, hK5, hne, hB5⟩; obtain ⟨A1, c1, e1⟩ := Kd.R_slice hV5; subst e1; obtain ⟨A2, c2, e2⟩ := Kd.R_slice hK5; subst e2; have HV5 := Lib.hid hV5; have HB5 := Lib.hid hB5; clear hV5 hK5 hne))
    | (go_at_call 81; go_loud (refine (HLC.out _).mono ?_; rintro e w4 ⟨rfl, hB4⟩; have HA4 := Lib.hid (HA.out.below hB4); have hs4 := hB4.size; have hb4 := HB.out.trans (hB4.mono HB.out.size); have hk4 := blk_below HK.out hB4; have s0 := blk_cell hk4 0; have s1 := blk_cell hk4 1; have s2 := blk_cell hk4 2; have HB4 := Lib.hid hb4; clear hB4 hb4 hk4)))
  go_ret
  have hs9 := HB4.out.size
  exact ⟨_, rfl, Kd.R_lower (Kd.R_mono (Kd.R_below HV5.out (below_alloc (Below.refl _ _) _)) (fun j hj => by omega)) (by omega), below_alloc (HB4.out.trans (HB5.out.mono HB4.out.size)) _⟩
set_option maxHeartbeats 2000000 in
set_option maxRecDepth 100000 in
/-- In the one leaf. -/
theorem leafB_calls (n r t i : Nat) (w : World) (h : AO w O a f live most ext nop) (hn : n ≤ 1024) (hi : i < 32) (hm : lvs n = 1) (hr : 0 < r) (hrl : 0 < (f r).r) :
    Calls Try.prog 84 #[.pointer (some ⟨a, 0, none⟩), vecV n r t, .int .i64 i] w fun e w' => ∃ v', e = .returned v' ∧ VR w' w.heap.size v' (f r).vals ∧ Below w.heap.size w w' := by
  have hlc := leaves_calls n (r : Int) (t : Int) hn
  rw [hm] at hlc
  have hkd : (i : Int).tdiv 32 = 0 := by rw [Int.tdiv_eq_ediv_of_nonneg (by omega)]; omega
  have hkd2 : (i : Int) / 32 = 0 := by omega
  have hi' : (i : Int) ≤ 31 := by omega
  have hl1 : lev 1 = 0 := rfl
  have c1 : ∀ w, Calls Try.prog 62 #[.int .i64 1] w fun e w' => e = .returned (.int .i64 0) ∧ w' = w := fun w => by
    have := levels_calls 1 (by decide) w
    rw [hl1] at this
    exact this
  have hb0 := below_alloc (Below.refl w.heap.size w) (.cells #[.int .i64 n, .int .i64 r, .int .i64 t] 61)
  have hbk := blk_new w (.cells #[.int .i64 n, .int .i64 r, .int .i64 t] 61)
  have HA := Lib.hid (h.below hb0)
  have HB := Lib.hid hb0
  have HK := Lib.hid hbk
  have HLC := Lib.hid hlc
  have HLV := Lib.hid c1
  clear h hb0 hbk hlc hn hm hl1 c1
  go_enter Try.func84, Try.ntmps84
  go_wp2_with (first
    | (go_at_call 62; go_loud (refine (HLV.out _).mono ?_; rintro e w7 ⟨rfl, hw7⟩; subst w7))
    | (go_at_call 81; have hx := HA4; clear hx; go_loud (refine (HLC.out _).mono ?_; rintro e w6 ⟨rfl, hB6⟩; have HA6 := Lib.hid (HA4.out.below hB6); have hs6 := hB6.size; have hb6 := HB4.out.trans (hB6.mono HB4.out.size); have HB6 := Lib.hid hb6; clear hB6 hb6))
    | (go_at_call 81; go_loud (refine (HLC.out _).mono ?_; rintro e w4 ⟨rfl, hB4⟩; have HA4 := Lib.hid (HA.out.below hB4); have hs4 := hB4.size; have hb4 := HB.out.trans (hB4.mono HB.out.size); have hk4 := blk_below HK.out hB4; have s0 := blk_cell hk4 0; have s1 := blk_cell hk4 1; have s2 := blk_cell hk4 2; have HB4 := Lib.hid hb4; clear hB4 hb4 hk4)))
  go_loopw [7, 9] (fun x y wr => x = .int .i64 r ∧ y = .int .i64 (-1) ∧ wr = w6) (fun _ _ _ => 0)
  case atStart => exact ⟨rfl, rfl, rfl⟩
  case round =>
    obtain ⟨rfl, rfl, rfl⟩ := hrel
    go_wp2_with (go_at_call 24; go_loud (refine (get_AO r _ HA6.out hr hrl).mono ?_; rintro e w8 ⟨v', k', rfl, hV5, hK5, hne, hB5⟩; obtain ⟨A1, c1, e1⟩ := Kd.R_slice hV5; subst e1; obtain ⟨A2, c2, e2⟩ := Kd.R_slice hK5; subst e2; have HV5 := Lib.hid hV5; have HB5 := Lib.hid hB5; clear hV5 hK5 hne))
    go_ret
    have hs9 := HB6.out.size
    exact ⟨_, rfl, Kd.R_lower (Kd.R_mono (Kd.R_below HV5.out (below_alloc (Below.refl _ _) _)) (fun j hj => by omega)) (by omega), below_alloc (HB6.out.trans (HB5.out.mono HB6.out.size)) _⟩
set_option maxHeartbeats 4000000 in
set_option maxRecDepth 100000 in
/-- In one of several leaves. -/
theorem leafC_calls (n r t i d k m : Nat) (w : World) (h : AO w O a f live most ext nop) (hn : n ≤ 1024) (hd : i / 32 = d) (hm : lvs n = m) (hm2 : 2 ≤ m) (hdm : d < m) (hr : 0 < r) (hrl : 0 < (f r).r) (hkl : (f r).kids.length ≤ 1000) (hk : (f r).kids[d]? = some (k : Int)) (hk0 : 0 < k) (hkr : 0 < (f k).r) :
    Calls Try.prog 84 #[.pointer (some ⟨a, 0, none⟩), vecV n r t, .int .i64 i] w fun e w' => ∃ v', e = .returned v' ∧ VR w' w.heap.size v' (f k).vals ∧ Below w.heap.size w w' := by
  have hlc := leaves_calls n (r : Int) (t : Int) hn
  have hm31 : m ≤ 31 := by rw [← hm]; unfold lvs; omega
  rw [hm] at hlc
  have hkd : (i : Int).tdiv 32 = (d : Int) := by rw [Int.tdiv_eq_ediv_of_nonneg (by omega)]; omega
  have hkd2 : (i : Int) / 32 = (d : Int) := by omega
  have hi' : (i : Int) ≤ 1023 := by omega
  have hd32 : d < 32 := by omega
  have hlt : (d : Int) < (m : Int) := by omega
  have hdl : d < (f r).kids.length := (List.getElem?_eq_some_iff.1 hk).1
  have hdl' : (d : Int) < ((f r).kids.length : Int) := by omega
  have hl1 : lev m = 1 := by unfold lev; rw [if_neg (by omega)]
  have c1 : ∀ w, Calls Try.prog 62 #[.int .i64 (m : Int)] w fun e w' => e = .returned (.int .i64 1) ∧ w' = w := fun w => by
    have := levels_calls m (by omega) w
    rw [hl1] at this
    exact this
  have hb0 := below_alloc (Below.refl w.heap.size w) (.cells #[.int .i64 n, .int .i64 r, .int .i64 t] 61)
  have hbk := blk_new w (.cells #[.int .i64 n, .int .i64 r, .int .i64 t] 61)
  have HA := Lib.hid (h.below hb0)
  have HB := Lib.hid hb0
  have HK := Lib.hid hbk
  have HLC := Lib.hid hlc
  have HLV := Lib.hid c1
  have HKK := Lib.hid hk
  have HDL := Lib.hid hdl
  clear h hb0 hbk hlc hn hm hl1 c1 hd hk hdl
  go_enter Try.func84, Try.ntmps84
  go_wp2_with (first
    | (go_at_call 62; go_loud (refine (HLV.out _).mono ?_; rintro e w7 ⟨rfl, hw7⟩; subst w7))
    | (go_at_call 81; have hx := HA4; clear hx; go_loud (refine (HLC.out _).mono ?_; rintro e w6 ⟨rfl, hB6⟩; have HA6 := Lib.hid (HA4.out.below hB6); have hs6 := hB6.size; have hb6 := HB4.out.trans (hB6.mono HB4.out.size); have HB6 := Lib.hid hb6; clear hB6 hb6))
    | (go_at_call 81; go_loud (refine (HLC.out _).mono ?_; rintro e w4 ⟨rfl, hB4⟩; have HA4 := Lib.hid (HA.out.below hB4); have hs4 := hB4.size; have hb4 := HB.out.trans (hB4.mono HB.out.size); have hk4 := blk_below HK.out hB4; have s0 := blk_cell hk4 0; have s1 := blk_cell hk4 1; have s2 := blk_cell hk4 2; have HB4 := Lib.hid hb4; clear hB4 hb4 hk4)))
  go_loopw [7, 9] (fun x y wr => (x = .int .i64 r ∧ y = .int .i64 0 ∧ wr = w6) ∨ (x = .int .i64 k ∧ y = .int .i64 (-1) ∧ Below w6.heap.size w6 wr)) (fun _ y _ => (intOf y + 1).toNat)
  case atStart => exact .inl ⟨rfl, rfl, rfl⟩
  case round =>
    rcases hrel with ⟨rfl, rfl, rfl⟩ | ⟨rfl, rfl, hBw⟩
    · go_wp2_with (go_at_call 24; go_loud (refine (get_AO r _ HA6.out hr hrl).mono ?_; rintro e w8 ⟨v', k', rfl, hV5, hK5, hne, hB5⟩; obtain ⟨A1, c1, e1⟩ := Kd.R_slice hV5; subst e1; obtain ⟨_, inner, ho, hrk⟩ := id hK5; obtain ⟨g, c2, e2, hmc, _⟩ := own_some ho (by omega); subst e2; have HRK := Lib.hid hrk; have HO := Lib.hid ho; have HB5 := Lib.hid hB5; clear hV5 hK5 hne hrk ho hmc hB5))
      have hdr : Below w8.heap.size w8 (w8.alloc (.cells #[.int .u32 (f r).ow, .int .u32 (f r).a, .int .u32 (f r).b, .slice A1 (f r).vals.length c1, .slice (some ⟨g, 0, none⟩) (f r).kids.length c2] 43)).drew := below_drew1 (below_alloc (Below.refl _ _) _)
      have hbc := blk_drew (blk_new w8 (.cells #[.int .u32 (f r).ow, .int .u32 (f r).a, .int .u32 (f r).b, .slice A1 (f r).vals.length c1, .slice (some ⟨g, 0, none⟩) (f r).kids.length c2] 43))
      have p4 := blk_cell hbc 4
      have hod := own_fr HO.out (Fr.of_new (S := fun _ => False) hdr) (fun _ _ => id)
      have hval : inner[d]? = some (.int .i64 (k : Int)) := by
        have h3 : (inner.drop (d * 1)).take 1 = [.int .i64 (k : Int)] := HRK.out.2 d _ HKK.out
        have h4 := congrArg (fun l : List Value => l[0]?) h3
        simpa using h4
      have hdl := HDL.out
      have t0 : (w8.alloc (.cells #[.int .u32 (f r).ow, .int .u32 (f r).a, .int .u32 (f r).b, .slice A1 (f r).vals.length c1, .slice (some ⟨g, 0, none⟩) (f r).kids.length c2] 43)).drew.cell? ⟨g, d, none⟩ = some (.int .i64 (k : Int)) := (hod.cellAt d (by show d < (f r).kids.length * 1; omega)).trans hval
      have hz0 : (0 : Int) = wrap64 0 := by unfold wrap64; omega
      have hat : ∀ w, Calls Try.prog 61 #[.int .u64 d, .int .i64 0] w fun e w' => e = .returned (.int .i64 d) ∧ w' = w := fun w => at_zero d hd32 w
      have HAT := Lib.hid hat
      have HD := Lib.hid hdr
      clear hdl hod hval hbc hdr hat hz0
      refine start_ (n := 8) (S := fun w' => w'.cell? ⟨w8.heap.size, 4, none⟩ = some (.slice (some ⟨g, 0, none⟩) (f r).kids.length c2) ∧ w'.cell? ⟨g, d, none⟩ = some (.int .i64 (k : Int))) (ds := []) #[false, false, false, false, false, false, false, false] (by kernel_rfl) rfl rfl ⟨p4, t0⟩ (fun hHeld => ?_)
      refine pure_ (i := 0) (N := some 40) (v := ?_) (a' := ?_) #[true, false, false, false, false, false, false, false] rfl rfl (by kernel_rfl) (fun _ _ _ h => h) (Or.inl ⟨by rfl, ?_⟩) ?_ ?_
      rotate_left
      · intro w'
        go_simp
        with_reducible rfl
      rotate_left
      · simp only [Act.put, List.setIfInBounds_toArray, List.set_cons_zero, List.set_cons_succ, i64_w, i32_w]
        rfl
      refine pure_ (i := 2) (N := some 42) (v := ?_) (a' := ?_) #[true, false, true, false, false, false, false, false] rfl rfl (by kernel_rfl) (fun _ _ _ h => h) (Or.inl ⟨by rfl, ?_⟩) ?_ ?_
      rotate_left
      · intro w'
        go_simp
        with_reducible rfl
      rotate_left
      · simp only [Act.put, List.setIfInBounds_toArray, List.set_cons_zero, List.set_cons_succ, i64_w, i32_w]
        rfl
      refine pure_ (i := 3) (N := some 43) (v := ?_) (a' := ?_) #[true, false, true, true, false, false, false, false] rfl rfl (by kernel_rfl) (fun _ _ _ h => h) (Or.inl ⟨by rfl, ?_⟩) ?_ ?_
      rotate_left
      · intro w'
        go_simp
        with_reducible rfl
      rotate_left
      · simp only [Act.put, List.setIfInBounds_toArray, List.set_cons_zero, List.set_cons_succ, i64_w, i32_w]
        rfl
      refine take_ (i := 1) (N := some 41) (v := ?_) (a' := ?_) #[true, true, true, true, false, false, false, false] rfl rfl (by kernel_rfl) (fun _ _ _ h => h) (Or.inl ⟨by rfl, ?_⟩) hHeld ?_ ?_
      rotate_left
      · rintro w' ⟨s0, s1⟩
        go_simp
        with_reducible rfl
      rotate_left
      · simp only [Act.put, List.setIfInBounds_toArray, List.set_cons_zero, List.set_cons_succ, i64_w, i32_w]
        rfl
      refine one_ (i := 4) (N := some 44) #[true, true, true, true, true, false, false, false] rfl rfl (by kernel_rfl) (by decide) (fun K hK => ?_)
      refine goes_ Try.func61 (by kernel_rfl) rfl #[.int .u64 d, .int .i64 0] (by rfl) rfl rfl (by simp only [List.map_toArray, List.map_cons, List.map_nil]; rfl) ?_
      with_reducible refine (HAT.out _).mono ?_
      rintro e w9 ⟨rfl, hw9⟩
      refine ⟨_, rfl, ?_⟩
      subst hw9
      refine hK.out _ _ ⟨p4, t0⟩ (fun hHeld => ?_)
      clear hK K
      refine norm_ (a' := ?_) ?_ ?_
      rotate_left
      · show Act.put _ (some 44) _ = _
        simp only [Act.put, List.setIfInBounds_toArray, List.set_cons_zero, List.set_cons_succ, i64_w, i32_w]
        rfl
      refine pure_ (i := 5) (N := some 45) (v := ?_) (a' := ?_) #[true, true, true, true, true, true, false, false] rfl rfl (by kernel_rfl) (fun _ _ _ h => h) (Or.inl ⟨by rfl, ?_⟩) ?_ ?_
      rotate_left
      · intro w'
        go_simp
        with_reducible rfl
      rotate_left
      · simp only [Act.put, List.setIfInBounds_toArray, List.set_cons_zero, List.set_cons_succ, i64_w, i32_w]
        rfl
      refine take_ (i := 6) (N := some 46) (v := ?_) (a' := ?_) #[true, true, true, true, true, true, true, false] rfl rfl (by kernel_rfl) (fun _ _ _ h => h) (Or.inl ⟨by rfl, ?_⟩) hHeld ?_ ?_
      rotate_left
      · rintro w' ⟨s0, s1⟩
        go_simp
        with_reducible rfl
      rotate_left
      · simp only [Act.put, List.setIfInBounds_toArray, List.set_cons_zero, List.set_cons_succ, i64_w, i32_w]
        rfl
      refine pure_ (i := 7) (N := some 7) (v := ?_) (a' := ?_) #[true, true, true, true, true, true, true, true] rfl rfl (by kernel_rfl) (fun _ _ _ h => h) (Or.inl ⟨by rfl, ?_⟩) ?_ ?_
      rotate_left
      · intro w'
        go_simp
        with_reducible rfl
      rotate_left
      · simp only [Act.put, List.setIfInBounds_toArray, List.set_cons_zero, List.set_cons_succ, i64_w, i32_w]
        rfl
      refine done_ (by kernel_rfl) ?_

      go_wp2
      go_roundw
      case rel => exact .inr ⟨rfl, rfl, HB5.out.trans (HD.out.mono HB5.out.size)⟩
      case measure => simp [intOf]
    · have HA7 := Lib.hid (HA6.out.below hBw)
      have HBW := Lib.hid hBw
      clear hBw
      go_wp2_with (go_at_call 24; go_loud (refine (get_AO k _ HA7.out hk0 hkr).mono ?_; rintro e w8 ⟨v', k', rfl, hV5, hK5, hne, hB5⟩; obtain ⟨A1, c1, e1⟩ := Kd.R_slice hV5; subst e1; obtain ⟨A2, c2, e2⟩ := Kd.R_slice hK5; subst e2; have HV5 := Lib.hid hV5; have HB5 := Lib.hid hB5; clear hV5 hK5 hne))
      go_ret
      have hs9 := HB6.out.size
      have hs8 := HBW.out.size
      exact ⟨_, rfl, Kd.R_lower (Kd.R_mono (Kd.R_below HV5.out (below_alloc (Below.refl _ _) _)) (fun j hj => by omega)) (by omega), below_alloc ((HB6.out.trans (HBW.out.mono hs9)).trans (HB5.out.mono (by omega))) _⟩
end
end Go.Proofs.Ytnipbfhfaefieaa.Pv
