/- Texts of this claim, laid together: PvY, PvZ. -/
import Derived.Test.YtnipbfhfaefieaaUp
/-! pvec: a value in a trunk is set, as a whole. -/
namespace Go.Proofs.Ytnipbfhfaefieaa.Pv
open Go.RowKit Go Go.Proofs.YtnipbfhfaefieaaW.PrintWords Go.Proofs.YtnipbfhfaefieaaW.PrintMore Go.Proofs.YtnipbfhfaefieaaW.PrintLast Go.Proofs.Ytnipbfhfaefieaa.Bts Go.Proofs.Ytnipbfhfaefieaa.Fra Go.Proofs.Ytnipbfhfaefieaa.ArnP Go.Proofs.Ytnipbfhfaefieaa.Arn Go.Proofs.Ytnipbfhfaefieaa.Ao
theorem oth_at {l : List Int} {i j : Nat} {k : Nat} (h : l[j]? = some (k : Int)) (hk : 0 < k) (hne : j ≠ i) : k ∈ kidsOf (oth l i) := by
  have hj := (List.getElem?_eq_some_iff.1 h).1
  have hm : (k : Int) ∈ oth l i := by
    unfold oth
    rw [List.mem_append]
    by_cases e : j < i
    · refine .inl (List.mem_iff_getElem?.2 ⟨j, ?_⟩)
      rw [List.getElem?_take_of_lt e]
      exact h
    · refine .inr (List.mem_iff_getElem?.2 ⟨j - (i + 1), ?_⟩)
      rw [List.getElem?_drop, show i + 1 + (j - (i + 1)) = j by omega]
      exact h
  have := mem_kidsOf hm (by omega)
  rwa [Int.toNat_natCast] at this
section
variable {O : Nat → Prop} {a : Nat} {f : Nat → Cell} {live most : Int} {ext rest : Nat → Nat}
theorem setT (o : Int) (m r i d : Nat) (g : Nat → List V3) (q n : Int) (s : ByteArray) (w : World) (h : AO w O a f live most (fun z => rest z + hold r z) nop) (hT : Trunk f m r g) (hd : i / 32 = d) (hdm : d < m) (hi : i % 32 < (g d).length) (hg : (g d).length ≤ 32) (hb : ∀ x, rest x ≤ 60000000000) (hil : i ≤ 1023) (hlm : live + 1 < most) :
    Calls Try.prog 83 #[workV a o, .int .i64 r, .int .i64 (lev m : Int), .int .i64 i, valV q n s] w fun e w' => ∃ (r' : Nat) (O' : Nat → Prop) (f' : Nat → Cell) (live' : Int), e = .returned (.int .i64 r') ∧ AO w' O' a f' live' most (fun z => rest z + one r' z) nop ∧ live' ≤ live + 2 ∧ 0 < r' ∧ Trunk f' m r' (fun j => if j = d then (g d).set (i % 32) (q, n, s) else g j) ∧ KeepR rest nop f f' ∧ (∀ j, O' j → O j ∨ w.heap.size ≤ j) ∧ Fr O w w' := by
  rcases hT with ⟨rfl, rfl⟩ | ⟨rfl, hR⟩ | ⟨h2, hr, hv, hkl, hk⟩
  · omega
  · have d0 : d = 0 := by omega
    subst d0
    rw [hold_pos hR.1] at h
    have e1 : lev 1 = 0 := rfl
    rw [e1]
    have hvv := hR.2.1
    refine (set0_calls o r i q n s w h hR.1 rfl (fun x => Nat.le_trans (hb x) (by decide)) (fun z hz => by cases hz) (by omega) (by rw [hvv]; exact hi) (by rw [hvv]; omega) (by omega)).mono ?_
    rintro e w' ⟨k', O', f', live', rfl, hA, hll, hf, _, hk0, _, hK, hO, hF⟩
    refine ⟨k', O', f', live', rfl, hA, by omega, hk0, .inr (.inl ⟨rfl, hk0, ?_, ?_⟩), hK, hO, hF⟩
    · rw [hf]
      show (f r).vals.set _ _ = if 0 = 0 then _ else _
      rw [if_pos rfl, hvv]
    · rw [hf]
      exact hR.2.2
  · rw [hold_pos hr] at h
    have e1 : lev m = 1 := by unfold lev; rw [if_neg (by omega)]
    rw [e1]
    have hkk := List.getElem?_eq_getElem (l := (f r).kids) (i := d) (by omega)
    obtain ⟨z, ez, hL⟩ := hk d _ hkk
    rw [ez] at hkk
    have hvz := hL.2.1
    refine (set1_calls o r i d z q n s w h hr rfl hb (fun z hz => by cases hz) hil hd (by omega) hkk hL.1 (by rw [hvz]; exact hi) (by rw [hvz]; omega) hlm).mono ?_
    rintro e w' ⟨k', O', f', live', z', rfl, hA, hll, hz', hf, hfz, hS, hk0, _, hK, hO, hF⟩
    refine ⟨k', O', f', live', rfl, hA, by omega, hk0, .inr (.inr ⟨h2, hk0, ?_, ?_, fun j y hy => ?_⟩), hK, hO, hF⟩
    · rw [hf]; exact hv
    · rw [hf]
      show ((f r).kids.set d _).length = m
      rw [List.length_set, hkl]
    · rw [hf] at hy
      have hy : ((f r).kids.set d (z' : Int))[j]? = some y := hy
      by_cases e : j = d
      · subst e
        rw [List.getElem?_set_self (by omega)] at hy
        have : (z' : Int) = y := Option.some.inj hy
        subst this
        refine ⟨z', rfl, hz', ?_, ?_⟩
        · rw [hfz]
          show (f z).vals.set _ _ = if j = j then _ else _
          rw [if_pos rfl, hvz]
        · rw [hfz]
          exact hL.2.2
      · rw [List.getElem?_set_ne (fun q => e q.symm)] at hy
        obtain ⟨k, rfl, hLk⟩ := hk j y hy
        refine ⟨k, rfl, ?_⟩
        show Leaf f' k (if j = d then _ else g j)
        rw [if_neg e]
        exact hLk.same (hS k (oth_at hy hLk.1 e))
end
/-- A value of a leaf is another. -/
theorem VRep.set_trunk {f f' : Nat → Cell} {n r t r' : Nat} {l : List V3} {x : V3} (h : VRep f n r t l) (i : Nat) (hi : i < n) (hd : i / 32 < lvs n) (hs : 0 < t → Same f f' t) (hR : Trunk f' (lvs n) r' (fun j => if j = i / 32 then (leafs l (i / 32)).set (i % 32) x else leafs l j)) : VRep f' n r' t (l.set i x) := by
  obtain ⟨h1, h2, h3⟩ := h
  rcases h3 with ⟨q, _⟩ | ⟨h0, hT, _⟩
  · omega
  have hl2 : 32 * lvs n < n := by unfold lvs; omega
  have hi2 : i < 32 * lvs n := by omega
  refine ⟨by rw [List.length_set]; exact h1, h2, .inr ⟨h0, ?_, ?_⟩⟩
  · have e1 : (l.set i x).drop (32 * lvs n) = l.drop (32 * lvs n) := List.drop_set_of_lt hi2
    rw [e1]
    exact hT.same (hs hT.1)
  · refine hR.congr (fun j hj => ?_)
    show (if j = i / 32 then (leafs l (i / 32)).set (i % 32) x else leafs l j) = leafs (l.set i x) j
    apply List.ext_getElem?
    intro k
    have e2 : ∀ y : List V3, (leafs y j)[k]? = if k < 32 then y[32 * j + k]? else none := fun y => by
      unfold leafs
      rw [List.getElem?_take, List.getElem?_drop]
    have e3 : ∀ y : List V3, (leafs y (i / 32))[k]? = if k < 32 then y[32 * (i / 32) + k]? else none := fun y => by
      unfold leafs
      rw [List.getElem?_take, List.getElem?_drop]
    rw [e2]
    by_cases e : j = i / 32
    · subst e
      rw [if_pos rfl, List.getElem?_set]
      have hll : (leafs l (i / 32)).length = 32 := by
        unfold leafs
        rw [List.length_take, List.length_drop]
        omega
      by_cases ek : i % 32 = k
      · rw [if_pos ek, hll, if_pos (by omega), if_pos (by omega), List.getElem?_set, if_pos (by omega), if_pos (by omega)]
      · rw [if_neg ek, e3, List.getElem?_set_ne (by omega)]
    · rw [if_neg e, e2]
      by_cases hk : k < 32
      · rw [if_pos hk, if_pos hk, List.getElem?_set_ne (by omega)]
      · rw [if_neg hk, if_neg hk]
/-- A value of the tail is another. -/
theorem VRep.set_tail {f f' : Nat → Cell} {n r t t' : Nat} {l : List V3} {x : V3} (h : VRep f n r t l) (i : Nat) (hi : i < n) (hd : lvs n ≤ i / 32) (hs : 0 < r → Same f f' r) (hL : Leaf f' t' ((l.drop (32 * lvs n)).set (i % 32) x)) : VRep f' n r t' (l.set i x) := by
  obtain ⟨h1, h2, h3⟩ := h
  rcases h3 with ⟨q, _⟩ | ⟨h0, hT, hR⟩
  · omega
  have hl2 : 32 * lvs n < n := by unfold lvs; omega
  have hi2 : i / 32 = lvs n := by unfold lvs at hd ⊢; omega
  refine ⟨by rw [List.length_set]; exact h1, h2, .inr ⟨h0, ?_, ?_⟩⟩
  · have e1 : (l.set i x).drop (32 * lvs n) = (l.drop (32 * lvs n)).set (i % 32) x := by
      rw [List.drop_set, if_neg (by omega)]
      congr 1
      omega
    rw [e1]
    exact hL
  · refine (hR.same hs).congr (fun j hj => ?_)
    unfold leafs
    apply List.ext_getElem?
    intro k
    rw [List.getElem?_take, List.getElem?_take, List.getElem?_drop, List.getElem?_drop]
    by_cases hk : k < 32
    · rw [if_pos hk, if_pos hk, List.getElem?_set_ne (by omega)]
    · rw [if_neg hk, if_neg hk]
end Go.Proofs.Ytnipbfhfaefieaa.Pv
/-! pvec: a value of a vector is set. -/
namespace Go.Proofs.Ytnipbfhfaefieaa.Pv
open Go.RowKit Go Go.Proofs.YtnipbfhfaefieaaW.PrintWords Go.Proofs.YtnipbfhfaefieaaW.PrintMore Go.Proofs.YtnipbfhfaefieaaW.PrintLast Go.Proofs.Ytnipbfhfaefieaa.Bts Go.Proofs.Ytnipbfhfaefieaa.Fra Go.Proofs.Ytnipbfhfaefieaa.ArnP Go.Proofs.Ytnipbfhfaefieaa.Arn Go.Proofs.Ytnipbfhfaefieaa.Ao
section
variable {O : Nat → Prop} {a : Nat} {f : Nat → Cell} {live most : Int} {ext rest : Nat → Nat}
theorem fr_set (w : World) (b c k : Nat) (x u v z : Value) : Fr (fun j => j = b ∨ j = c) w ((((w.setCell ⟨b, k, none⟩ x).setCell ⟨c, 0, none⟩ u).setCell ⟨c, 1, none⟩ v).setCell ⟨c, 2, none⟩ z) :=
  Fr.put (Fr.put (Fr.put (Fr.put (Fr.refl _ w) (p := ⟨b, k, none⟩) (.inl (.inl rfl)) x) (p := ⟨c, 0, none⟩) (.inl (.inr rfl)) u) (p := ⟨c, 1, none⟩) (.inl (.inr rfl)) v) (p := ⟨c, 2, none⟩) (.inl (.inr rfl)) z
set_option maxHeartbeats 4000000 in
set_option maxRecDepth 100000 in
theorem set_tail (o : Int) (n r t i : Nat) (l : List V3) (q m : Int) (s : ByteArray) (w : World) (h : AO w O a f live most (fun z => rest z + vx r t z) nop) (hv : VRep f n r t l) (hi : i < n) (hd : lvs n ≤ i / 32) (he : ∀ x, rest x ≤ 50000000000) (hful : ¬ most - live < (lev (lvs n + 1) : Int) + 3) :
    Calls Try.prog 35 #[.pointer (some ⟨a, 0, none⟩), vecV n r t, .int .i64 i, valV q m s, .int .u32 o] w fun e w' => ∃ (r' t' : Nat) (O' : Nat → Prop) (f' : Nat → Cell) (live' : Int), e = .returned (.tuple #[vecV n r' t', .int .i64 0]) ∧ AO w' O' a f' live' most (fun z => RR rest o r t z + vx r' t' z) nop ∧ live' ≤ live + 2 ∧ VRep f' n r' t' (l.set i (q, m, s)) ∧ KeepR (RR rest o r t) nop f f' ∧ (∀ j, O' j → O j ∨ w.heap.size ≤ j) ∧ Fr O w w' := by
  have hlt := h.lt
  have hv' := hv
  obtain ⟨hl, hn, hv2⟩ := hv'
  rcases hv2 with ⟨q0, _⟩ | ⟨_, hT, hR⟩
  · omega
  have hbx := below_alloc (below_alloc (below_alloc (Below.refl w.heap.size w) (.cells #[.int .i64 n, .int .i64 r, .int .i64 t] 61)) (.cells #[.int .u8 q, .int .i64 m, .string s] 66)) (.cells #[.int .i64 0, .int .i64 0, .int .i64 0] 61)
  have hk0 := blk_alloc (blk_alloc (blk_new w (.cells #[.int .i64 n, .int .i64 r, .int .i64 t] 61)) (.cells #[.int .u8 q, .int .i64 m, .string s] 66)) (.cells #[.int .i64 0, .int .i64 0, .int .i64 0] 61)
  have hk1 := blk_alloc (new1 w (.cells #[.int .i64 n, .int .i64 r, .int .i64 t] 61) (.cells #[.int .u8 q, .int .i64 m, .string s] 66)) (.cells #[.int .i64 0, .int .i64 0, .int .i64 0] 61)
  have hk2 := new2 w (.cells #[.int .i64 n, .int .i64 r, .int .i64 t] 61) (.cells #[.int .u8 q, .int .i64 m, .string s] 66) (.cells #[.int .i64 0, .int .i64 0, .int .i64 0] 61)
  have hbg := begin_ok o n r t _ (h.below hbx) hn he hful
  have hlc := leaves_calls n (r : Int) (t : Int) hn
  have hlm : live + 2 < most := by omega
  obtain ⟨d, hdd⟩ : ∃ d, i / 32 = d := ⟨_, rfl⟩
  have hkd : (i : Int).tdiv 32 = (d : Int) := by rw [Int.tdiv_eq_ediv_of_nonneg (by omega)]; omega
  have hkd2 : (i : Int) / 32 = (d : Int) := by omega
  have hge : ¬ (n : Int) ≤ (i : Int) := by omega
  have hneg : ¬ (i : Int) < 0 := by omega
  have hi9 : (i : Int) ≤ 1023 := by omega
  have ht0 := hT.1
  obtain ⟨RW, hRW⟩ : ∃ RW, RR rest o r t = RW := ⟨_, rfl⟩
  have hrw : ∀ x, RW x ≤ 60000000000 - 2 := fun x => by rw [← hRW]; have := RR_le (o := o) (r := r) (t := t) he x; omega
  have hvl : (f t).vals.length ≤ 32 := by
    rw [hT.2.1, List.length_drop]
    unfold lvs
    omega
  have hvi : lvs n ≤ d → i % 32 < (f t).vals.length := fun hq => by
    rw [hT.2.1, List.length_drop]
    unfold lvs at hq ⊢
    omega
  have hgl : (leafs l d).length ≤ 32 := leafs_len l d
  have hgi : d < lvs n → i % 32 < (leafs l d).length := fun hq => by
    have : (leafs l d)[i % 32]? = l[i]? := by rw [← hdd]; exact leafs_get l i
    rw [List.getElem?_eq_getElem (show i < l.length by omega)] at this
    exact (List.getElem?_eq_some_iff.1 this).1
  have hm31 : lvs n ≤ 31 := by unfold lvs; omega
  rw [hRW] at hbg ⊢
  rw [hdd] at hd
  obtain ⟨lv, hlv⟩ : ∃ lv, lvs n = lv := ⟨_, rfl⟩
  rw [hlv] at hlc hT hR hd hvi hgi hm31
  have HLC := Lib.hid hlc
  have HBG := Lib.hid hbg
  have HB := Lib.hid hbx
  have HK := Lib.hid (And.intro hk0 (And.intro hk1 hk2))
  have HN := Lib.hid (show ∀ j, w.heap.size ≤ j → ¬ O j from fun j hj e => by have := hlt j e; omega)
  have HV := Lib.hid hv
  have HT := Lib.hid hT
  have HRT := Lib.hid hR
  have HLV := Lib.hid hlv
  have HRW := Lib.hid hrw
  have HL := Lib.hid hl
  have HI := Lib.hid (And.intro hi (And.intro hn (And.intro hdd hd)))
  have HVL := Lib.hid (And.intro hvl (And.intro hvi (And.intro hgl hgi)))
  clear h hbx hk0 hk1 hk2 hbg hlt hv hT hR hful he hl hlc hlv hRW hrw hi hn hdd hd hvl hvi hgl hgi
  have hle : (lv : Int) ≤ (d : Int) := by have := HI.out.2.2.2; omega
  go_enter Try.func35, Try.ntmps35
  go_wp2_with (first
    | (go_at_call 83; go_loud (refine (set0_calls (rest := fun z => RW z + hold r z) o t i q m s _ HA4.out ht0 rfl (fun x => by have := HRW.out x; have := hold_le r x; omega) (fun z hz => by cases hz) (by omega) (by rw [HO5.out t]; exact HVL.out.2.1 HI.out.2.2.2) (by rw [HO5.out t]; exact Nat.le_trans HVL.out.1 (by decide)) (by omega)).mono ?_; rintro e w6 ⟨t', O6, f6, live6, rfl, hA6, hll6, hf6, _, ht6, _, hK6, hO6, hF6⟩; have HA6 := Lib.hid hA6; have HF6 := Lib.hid hF6; have HFT := Lib.hid hf6; have HK6 := Lib.hid hK6; have b0 := hF6.blk HK4.out.1 (HN.out _ (by omega)); have b2 := hF6.blk HK4.out.2.2.1 (HN.out _ (by omega)); have u0 := blk_cell b0 0; have u1 := blk_cell b0 1; have u2 := blk_cell b0 2; have y0 := blk_frozen b0 0; have y1 := blk_frozen b0 1; have y2 := blk_frozen b0 2; have v0 := blk_cell b2 0; have v1 := blk_cell b2 1; have v2 := blk_cell b2 2; have z0 := blk_frozen b2 0; have z1 := blk_frozen b2 1; have z2 := blk_frozen b2 2; have HB6 := Lib.hid (And.intro b0 b2); clear b0 b2 hA6 hf6 hK6 hF6))
    | (go_at_call 81; go_loud (refine (HLC.out _).mono ?_; rintro e w4 ⟨rfl, hB4⟩; have HA4 := Lib.hid (HA5.out.below hB4); have c0 := blk_below HK5.out.1 hB4; have c1 := blk_below HK5.out.2.1 hB4; have c2 := blk_below HK5.out.2.2.1 hB4; have c3 := blk_below HK5.out.2.2.2 hB4; have s0 := blk_cell c0 0; have s1 := blk_cell c0 1; have s2 := blk_cell c0 2; have p0 := blk_cell c1 0; have p1 := blk_cell c1 1; have p2 := blk_cell c1 2; have k0 := blk_cell c3 0; have k1 := blk_cell c3 1; have HK4 := Lib.hid (And.intro c0 (And.intro c1 (And.intro c2 c3))); have HB4 := Lib.hid hB4; clear c0 c1 c2 c3 hB4))
    | (go_at_call 77; go_loud (refine HBG.out.mono ?_; rintro e w5 ⟨rfl, f5, hA5, hO5, hk5, hF5⟩; have HKP := Lib.hid hk5; clear hk5; have hA5 := hA5.below (below_alloc (Below.refl _ _) (.cells #[.pointer (some ⟨a, 0, none⟩), .int .u32 o] 133)); rw [vx_split _ r ht0] at hA5; have HA5 := Lib.hid hA5; have HO5 := Lib.hid hO5; have HF5 := Lib.hid hF5; have b0 := hF5.blk HK.out.1 (HN.out _ (by omega)); have b1 := hF5.blk HK.out.2.1 (HN.out _ (by omega)); have b2 := hF5.blk HK.out.2.2 (HN.out _ (by omega)); have c0 := blk_alloc b0 (.cells #[.pointer (some ⟨a, 0, none⟩), .int .u32 o] 133); have c1 := blk_alloc b1 (.cells #[.pointer (some ⟨a, 0, none⟩), .int .u32 o] 133); have c2 := blk_alloc b2 (.cells #[.pointer (some ⟨a, 0, none⟩), .int .u32 o] 133); have c3 := blk_new w5 (.cells #[.pointer (some ⟨a, 0, none⟩), .int .u32 o] 133); have s0 := blk_cell c0 0; have s1 := blk_cell c0 1; have s2 := blk_cell c0 2; have p0 := blk_cell c1 0; have p1 := blk_cell c1 1; have p2 := blk_cell c1 2; have k0 := blk_cell c3 0; have k1 := blk_cell c3 1; have HK5 := Lib.hid (And.intro c0 (And.intro c1 (And.intro c2 c3))); clear b0 b1 b2 c0 c1 c2 c3 hA5 hO5 hF5)))
  refine bodyPost_ret (results_ct rfl _ _ (w.heap.size + 1 + 1) 61 #[.int .i64 n, .int .i64 r, .int .i64 t'] (0, 0) _ rfl (ret3 ((Fr.put (Fr.refl (fun j => j = w.heap.size) w6) (p := ⟨w.heap.size, 2, none⟩) (.inl rfl) _).blk HB6.out.2 (by omega)) _ _ _) Try.underlying61 rfl (by kernel_rfl)) rfl ?_
  have hsw := HF5.out.size
  have hsb := HB.out.size
  have hs4 := HB4.out.size
  simp only [World.size_alloc] at hsw hsb hs4
  have hF9 := fr_set w6 w.heap.size (w.heap.size + 1 + 1) 2 (.int .i64 t') (.int .i64 n) (.int .i64 r) (.int .i64 t')
  have hA9 := HA6.out
  rw [← vx_split _ r ht6] at hA9
  have hA10 := hA9.move hF9 (fun k hk e => by
    rcases hO6 k hk with q | q
    · rcases e with e | e
      · exact HN.out k (by omega) q
      · exact HN.out k (by omega) q
    · try simp only [World.size_alloc] at q
      rcases e with e | e <;> omega)
  refine ⟨r, t', O6, f6, live6, rfl, hA10, by omega, VRep.set_tail HV.out i HI.out.1 (by rw [HLV.out, HI.out.2.2.1]; exact HI.out.2.2.2) (fun hr => (KeepR.same HKP.out hr (by have := vx_r (t := t) hr; show 0 < RW r + vx r t r; omega)).trans (KeepR.same HK6.out hr (by have h2 : hold r r = 1 := (by rw [hold_pos hr]; exact if_pos rfl); show 0 < RW r + hold r r; omega))) ⟨ht6, by rw [HFT.out, HO5.out t]; show (f t).vals.set _ _ = _; rw [HT.out.2.1, HLV.out], by rw [HFT.out, HO5.out t]; exact HT.out.2.2⟩, (HKP.out.mono (fun j hj => by show 0 < RW j + vx r t j; omega)).trans (HK6.out.mono (fun j hj => by show 0 < RW j + hold r j; omega)), fun j hj => ?_, ?_⟩
  · refine (hO6 j hj).imp id (fun q => ?_)
    try simp only [World.size_alloc] at q
    omega
  · exact (((((Fr.of_new HB.out).trans HF5.out).more (below_alloc (Below.refl _ _) (.cells #[.pointer (some ⟨a, 0, none⟩), .int .u32 o] 133))).more HB4.out).trans HF6.out).then_ hF9 (fun j hj => .inr (by rcases hj with e | e <;> omega))
set_option maxHeartbeats 4000000 in
set_option maxRecDepth 100000 in
theorem set_trunk (o : Int) (n r t i : Nat) (l : List V3) (q m : Int) (s : ByteArray) (w : World) (h : AO w O a f live most (fun z => rest z + vx r t z) nop) (hv : VRep f n r t l) (hi : i < n) (hd : i / 32 < lvs n) (he : ∀ x, rest x ≤ 50000000000) (hful : ¬ most - live < (lev (lvs n + 1) : Int) + 3) :
    Calls Try.prog 35 #[.pointer (some ⟨a, 0, none⟩), vecV n r t, .int .i64 i, valV q m s, .int .u32 o] w fun e w' => ∃ (r' t' : Nat) (O' : Nat → Prop) (f' : Nat → Cell) (live' : Int), e = .returned (.tuple #[vecV n r' t', .int .i64 0]) ∧ AO w' O' a f' live' most (fun z => RR rest o r t z + vx r' t' z) nop ∧ live' ≤ live + 2 ∧ VRep f' n r' t' (l.set i (q, m, s)) ∧ KeepR (RR rest o r t) nop f f' ∧ (∀ j, O' j → O j ∨ w.heap.size ≤ j) ∧ Fr O w w' := by
  have hlt := h.lt
  have hv' := hv
  obtain ⟨hl, hn, hv2⟩ := hv'
  rcases hv2 with ⟨q0, _⟩ | ⟨_, hT, hR⟩
  · omega
  have hbx := below_alloc (below_alloc (below_alloc (Below.refl w.heap.size w) (.cells #[.int .i64 n, .int .i64 r, .int .i64 t] 61)) (.cells #[.int .u8 q, .int .i64 m, .string s] 66)) (.cells #[.int .i64 0, .int .i64 0, .int .i64 0] 61)
  have hk0 := blk_alloc (blk_alloc (blk_new w (.cells #[.int .i64 n, .int .i64 r, .int .i64 t] 61)) (.cells #[.int .u8 q, .int .i64 m, .string s] 66)) (.cells #[.int .i64 0, .int .i64 0, .int .i64 0] 61)
  have hk1 := blk_alloc (new1 w (.cells #[.int .i64 n, .int .i64 r, .int .i64 t] 61) (.cells #[.int .u8 q, .int .i64 m, .string s] 66)) (.cells #[.int .i64 0, .int .i64 0, .int .i64 0] 61)
  have hk2 := new2 w (.cells #[.int .i64 n, .int .i64 r, .int .i64 t] 61) (.cells #[.int .u8 q, .int .i64 m, .string s] 66) (.cells #[.int .i64 0, .int .i64 0, .int .i64 0] 61)
  have hbg := begin_ok o n r t _ (h.below hbx) hn he hful
  have hlc := leaves_calls n (r : Int) (t : Int) hn
  have hlm : live + 2 < most := by omega
  obtain ⟨d, hdd⟩ : ∃ d, i / 32 = d := ⟨_, rfl⟩
  have hkd : (i : Int).tdiv 32 = (d : Int) := by rw [Int.tdiv_eq_ediv_of_nonneg (by omega)]; omega
  have hkd2 : (i : Int) / 32 = (d : Int) := by omega
  have hge : ¬ (n : Int) ≤ (i : Int) := by omega
  have hneg : ¬ (i : Int) < 0 := by omega
  have hi9 : (i : Int) ≤ 1023 := by omega
  have ht0 := hT.1
  obtain ⟨RW, hRW⟩ : ∃ RW, RR rest o r t = RW := ⟨_, rfl⟩
  have hrw : ∀ x, RW x ≤ 60000000000 - 2 := fun x => by rw [← hRW]; have := RR_le (o := o) (r := r) (t := t) he x; omega
  have hvl : (f t).vals.length ≤ 32 := by
    rw [hT.2.1, List.length_drop]
    unfold lvs
    omega
  have hvi : lvs n ≤ d → i % 32 < (f t).vals.length := fun hq => by
    rw [hT.2.1, List.length_drop]
    unfold lvs at hq ⊢
    omega
  have hgl : (leafs l d).length ≤ 32 := leafs_len l d
  have hgi : d < lvs n → i % 32 < (leafs l d).length := fun hq => by
    have : (leafs l d)[i % 32]? = l[i]? := by rw [← hdd]; exact leafs_get l i
    rw [List.getElem?_eq_getElem (show i < l.length by omega)] at this
    exact (List.getElem?_eq_some_iff.1 this).1
  have hm31 : lvs n ≤ 31 := by unfold lvs; omega
  rw [hRW] at hbg ⊢
  rw [hdd] at hd
  obtain ⟨lv, hlv⟩ : ∃ lv, lvs n = lv := ⟨_, rfl⟩
  rw [hlv] at hlc hT hR hd hvi hgi hm31
  have HLC := Lib.hid hlc
  have HBG := Lib.hid hbg
  have HB := Lib.hid hbx
  have HK := Lib.hid (And.intro hk0 (And.intro hk1 hk2))
  have HN := Lib.hid (show ∀ j, w.heap.size ≤ j → ¬ O j from fun j hj e => by have := hlt j e; omega)
  have HV := Lib.hid hv
  have HT := Lib.hid hT
  have HRT := Lib.hid hR
  have HLV := Lib.hid hlv
  have HRW := Lib.hid hrw
  have HL := Lib.hid hl
  have HI := Lib.hid (And.intro hi (And.intro hn (And.intro hdd hd)))
  have HVL := Lib.hid (And.intro hvl (And.intro hvi (And.intro hgl hgi)))
  clear h hbx hk0 hk1 hk2 hbg hlt hv hT hR hful he hl hlc hlv hRW hrw hi hn hdd hd hvl hvi hgl hgi
  have hle : ¬ (lv : Int) ≤ (d : Int) := by have := HI.out.2.2.2; omega
  have hlev : ∀ w, Calls Try.prog 62 #[.int .i64 lv] w fun e w' => e = .returned (.int .i64 (lev lv : Int)) ∧ w' = w := fun w => levels_calls lv (by omega) w
  have HLE := Lib.hid hlev
  clear hlev
  go_enter Try.func35, Try.ntmps35
  go_wp2_with (first
    | (go_at_call 81; go_loud (refine (HLC.out _).mono ?_; rintro e w4 ⟨rfl, hB4⟩; have HA4 := Lib.hid (HA5.out.below hB4); have c0 := blk_below HK5.out.1 hB4; have c1 := blk_below HK5.out.2.1 hB4; have c2 := blk_below HK5.out.2.2.1 hB4; have c3 := blk_below HK5.out.2.2.2 hB4; have s0 := blk_cell c0 0; have s1 := blk_cell c0 1; have s2 := blk_cell c0 2; have p0 := blk_cell c1 0; have p1 := blk_cell c1 1; have p2 := blk_cell c1 2; have k0 := blk_cell c3 0; have k1 := blk_cell c3 1; have HK4 := Lib.hid (And.intro c0 (And.intro c1 (And.intro c2 c3))); have HB4 := Lib.hid hB4; clear c0 c1 c2 c3 hB4))
    | (go_at_call 77; go_loud (refine HBG.out.mono ?_; rintro e w5 ⟨rfl, f5, hA5, hO5, hk5, hF5⟩; have HKP := Lib.hid hk5; clear hk5; have hA5 := hA5.below (below_alloc (Below.refl _ _) (.cells #[.pointer (some ⟨a, 0, none⟩), .int .u32 o] 133)); have HA5 := Lib.hid hA5; have HO5 := Lib.hid hO5; have HF5 := Lib.hid hF5; have b0 := hF5.blk HK.out.1 (HN.out _ (by omega)); have b1 := hF5.blk HK.out.2.1 (HN.out _ (by omega)); have b2 := hF5.blk HK.out.2.2 (HN.out _ (by omega)); have c0 := blk_alloc b0 (.cells #[.pointer (some ⟨a, 0, none⟩), .int .u32 o] 133); have c1 := blk_alloc b1 (.cells #[.pointer (some ⟨a, 0, none⟩), .int .u32 o] 133); have c2 := blk_alloc b2 (.cells #[.pointer (some ⟨a, 0, none⟩), .int .u32 o] 133); have c3 := blk_new w5 (.cells #[.pointer (some ⟨a, 0, none⟩), .int .u32 o] 133); have s0 := blk_cell c0 0; have s1 := blk_cell c0 1; have s2 := blk_cell c0 2; have p0 := blk_cell c1 0; have p1 := blk_cell c1 1; have p2 := blk_cell c1 2; have k0 := blk_cell c3 0; have k1 := blk_cell c3 1; have HK5 := Lib.hid (And.intro c0 (And.intro c1 (And.intro c2 c3))); clear b0 b1 b2 c0 c1 c2 c3 hA5 hO5 hF5)))
  obtain ⟨V, hV⟩ : ∃ V, w4.drew = V := ⟨_, rfl⟩
  have hd : Below w4.heap.size w4 V := by rw [← hV]; exact below_drew1 (Below.refl _ _)
  have d0 := blk_below HK4.out.1 hd
  have d1 := blk_below HK4.out.2.1 hd
  have d2 := blk_below HK4.out.2.2.1 hd
  have d3 := blk_below HK4.out.2.2.2 hd
  have a0 := blk_cell d0 0
  have a1 := blk_cell d0 1
  have a2 := blk_cell d0 2
  have b0 := blk_cell d1 0
  have b1 := blk_cell d1 1
  have b2 := blk_cell d1 2
  have e0 := blk_cell d3 0
  have e1 := blk_cell d3 1
  have HAV := Lib.hid (HA4.out.below hd)
  have HKV := Lib.hid (And.intro d0 (And.intro d1 (And.intro d2 d3)))
  have HD := Lib.hid hd
  have hsw := HF5.out.size
  have hsb := HB.out.size
  have hs4 := HB4.out.size
  have hsd := hd.size
  simp only [World.size_alloc] at hsw hsb hs4 hsd
  clear d0 d1 d2 d3 hd s0 s1 s2 p0 p1 p2 k0 k1
  refine start_ (n := 11) (S := fun w' => w'.cell? ⟨w.heap.size, 0, none⟩ = some (.int .i64 (n : Int)) ∧ w'.cell? ⟨w.heap.size, 1, none⟩ = some (.int .i64 (r : Int)) ∧ w'.cell? ⟨w.heap.size, 2, none⟩ = some (.int .i64 (t : Int)) ∧ w'.cell? ⟨w.heap.size + 1, 0, none⟩ = some (.int .u8 q) ∧ w'.cell? ⟨w.heap.size + 1, 1, none⟩ = some (.int .i64 m) ∧ w'.cell? ⟨w.heap.size + 1, 2, none⟩ = some (.string s) ∧ w'.cell? ⟨w5.heap.size, 0, none⟩ = some (.pointer (some ⟨a, 0, none⟩)) ∧ w'.cell? ⟨w5.heap.size, 1, none⟩ = some (.int .u32 o)) (ds := [10]) #[false, false, false, false, false, false, false, false, false, false, false] (by kernel_rfl) rfl rfl ⟨(by rw [hV]; exact a0), (by rw [hV]; exact a1), (by rw [hV]; exact a2), (by rw [hV]; exact b0), (by rw [hV]; exact b1), (by rw [hV]; exact b2), (by rw [hV]; exact e0), (by rw [hV]; exact e1)⟩ (fun hHeld => ?_)
  refine pure_ (i := 1) (N := some 47) (v := ?_) (a' := ?_) #[false, true, false, false, false, false, false, false, false, false, false] rfl rfl (by kernel_rfl) (fun _ _ _ h => h) (Or.inl ⟨by rfl, ?_⟩) ?_ ?_
  rotate_left
  · intro w'
    go_simp
    with_reducible rfl
  rotate_left
  · simp only [Act.put, List.setIfInBounds_toArray, List.set_cons_zero, List.set_cons_succ, i64_w, i32_w]
    rfl
  refine pure_ (i := 6) (N := some 52) (v := ?_) (a' := ?_) #[false, true, false, false, false, false, true, false, false, false, false] rfl rfl (by kernel_rfl) (fun _ _ _ h => h) (Or.inl ⟨by rfl, ?_⟩) ?_ ?_
  rotate_left
  · intro w'
    go_simp
    with_reducible rfl
  rotate_left
  · simp only [Act.put, List.setIfInBounds_toArray, List.set_cons_zero, List.set_cons_succ, i64_w, i32_w]
    rfl
  refine take_ (i := 0) (N := some 46) (v := ?_) (a' := ?_) #[true, true, false, false, false, false, true, false, false, false, false] rfl rfl (by kernel_rfl) (fun _ _ _ h => h) (Or.inl ⟨by rfl, ?_⟩) hHeld ?_ ?_
  rotate_left
  · rintro w' ⟨s0, s1, s2, s3, s4, s5, s6, s7⟩
    go_simp
    with_reducible rfl
  rotate_left
  · simp only [Act.put, List.setIfInBounds_toArray, List.set_cons_zero, List.set_cons_succ, i64_w, i32_w]
    rfl
  refine take_ (i := 2) (N := some 48) (v := ?_) (a' := ?_) #[true, true, true, false, false, false, true, false, false, false, false] rfl rfl (by kernel_rfl) (fun _ _ _ h => h) (Or.inl ⟨by rfl, ?_⟩) hHeld ?_ ?_
  rotate_left
  · rintro w' ⟨s0, s1, s2, s3, s4, s5, s6, s7⟩
    go_simp
    with_reducible rfl
  rotate_left
  · simp only [Act.put, List.setIfInBounds_toArray, List.set_cons_zero, List.set_cons_succ, i64_w, i32_w]
    rfl
  refine take_ (i := 3) (N := some 49) (v := ?_) (a' := ?_) #[true, true, true, true, false, false, true, false, false, false, false] rfl rfl (by kernel_rfl) (fun _ _ _ h => h) (Or.inl ⟨by rfl, ?_⟩) hHeld ?_ ?_
  rotate_left
  · rintro w' ⟨s0, s1, s2, s3, s4, s5, s6, s7⟩
    go_simp
    with_reducible rfl
  rotate_left
  · simp only [Act.put, List.setIfInBounds_toArray, List.set_cons_zero, List.set_cons_succ, i64_w, i32_w]
    rfl
  refine take_ (i := 7) (N := some 53) (v := ?_) (a' := ?_) #[true, true, true, true, false, false, true, true, false, false, false] rfl rfl (by kernel_rfl) (fun _ _ _ h => h) (Or.inl ⟨by rfl, ?_⟩) hHeld ?_ ?_
  rotate_left
  · rintro w' ⟨s0, s1, s2, s3, s4, s5, s6, s7⟩
    go_simp
    with_reducible rfl
  rotate_left
  · simp only [Act.put, List.setIfInBounds_toArray, List.set_cons_zero, List.set_cons_succ, i64_w, i32_w]
    rfl
  refine one_ (i := 4) (N := some 50) #[true, true, true, true, true, false, true, true, false, false, false] rfl rfl (by kernel_rfl) (by decide) (fun K hK => ?_)
  refine goes_ Try.func81 (by kernel_rfl) rfl #[vecV n r t] (by rfl) rfl rfl (by simp only [List.map_toArray, List.map_cons, List.map_nil]; rfl) ?_
  with_reducible refine (HLC.out _).mono ?_
  rintro e w7 ⟨rfl, hB7⟩
  refine ⟨_, rfl, ?_⟩
  have hB7 : Below V.heap.size V w7 := hV ▸ hB7
  have HB7 := Lib.hid hB7
  have HA7 := Lib.hid (HAV.out.below hB7)
  refine hK.out _ _ ⟨(blk_cell (blk_below HKV.out.1 HB7.out) 0), (blk_cell (blk_below HKV.out.1 HB7.out) 1), (blk_cell (blk_below HKV.out.1 HB7.out) 2), (blk_cell (blk_below HKV.out.2.1 HB7.out) 0), (blk_cell (blk_below HKV.out.2.1 HB7.out) 1), (blk_cell (blk_below HKV.out.2.1 HB7.out) 2), (blk_cell (blk_below HKV.out.2.2.2 HB7.out) 0), (blk_cell (blk_below HKV.out.2.2.2 HB7.out) 1)⟩ (fun hHeld => ?_)
  clear hK K
  refine norm_ (a' := ?_) ?_ ?_
  rotate_left
  · show Act.put _ (some 50) _ = _
    simp only [Act.put, List.setIfInBounds_toArray, List.set_cons_zero, List.set_cons_succ, i64_w, i32_w]
    rfl
  refine one_ (i := 5) (N := some 51) #[true, true, true, true, true, true, true, true, false, false, false] rfl rfl (by kernel_rfl) (by decide) (fun K hK => ?_)
  refine goes_ Try.func62 (by kernel_rfl) rfl #[.int .i64 lv] (by rfl) rfl rfl (by simp only [List.map_toArray, List.map_cons, List.map_nil]; rfl) ?_
  with_reducible refine (HLE.out _).mono ?_
  rintro e w8 ⟨rfl, hw8⟩
  refine ⟨_, rfl, ?_⟩
  subst hw8
  refine hK.out _ _ ⟨(blk_cell (blk_below HKV.out.1 HB7.out) 0), (blk_cell (blk_below HKV.out.1 HB7.out) 1), (blk_cell (blk_below HKV.out.1 HB7.out) 2), (blk_cell (blk_below HKV.out.2.1 HB7.out) 0), (blk_cell (blk_below HKV.out.2.1 HB7.out) 1), (blk_cell (blk_below HKV.out.2.1 HB7.out) 2), (blk_cell (blk_below HKV.out.2.2.2 HB7.out) 0), (blk_cell (blk_below HKV.out.2.2.2 HB7.out) 1)⟩ (fun hHeld => ?_)
  clear hK K
  refine norm_ (a' := ?_) ?_ ?_
  rotate_left
  · show Act.put _ (some 51) _ = _
    simp only [Act.put, List.setIfInBounds_toArray, List.set_cons_zero, List.set_cons_succ, i64_w, i32_w]
    rfl
  refine one_ (i := 8) (N := some 54) #[true, true, true, true, true, true, true, true, true, false, false] rfl rfl (by kernel_rfl) (by decide) (fun K hK => ?_)
  refine goes_ Try.func83 (by kernel_rfl) rfl #[workV a o, .int .i64 r, .int .i64 (lev lv : Int), .int .i64 i, valV q m s] (by rfl) rfl rfl (by simp only [List.map_toArray, List.map_cons, List.map_nil]; rfl) ?_
  with_reducible refine (setT (rest := fun z => RW z + hold t z) o lv r i d (leafs l) q m s _ (by rw [show (fun z => RW z + hold t z + hold r z) = fun z => RW z + vx r t z from by funext z; unfold vx; omega]; exact HA7.out) (HRT.out.same (fun hr => KeepR.same HKP.out hr (by have := vx_r (t := t) hr; show 0 < RW r + vx r t r; omega))) HI.out.2.2.1 HI.out.2.2.2 (HVL.out.2.2.2 HI.out.2.2.2) HVL.out.2.2.1 (fun x => by have := HRW.out x; have := hold_le t x; omega) (by omega) (by omega)).mono ?_
  rintro e w6 ⟨r', O6, f6, live6, rfl, hA6, hll6, hr6, hT6, hK6, hO6, hF6⟩
  refine ⟨_, rfl, ?_⟩
  have HA6 := Lib.hid hA6
  have HT6 := Lib.hid hT6
  have HK6 := Lib.hid hK6
  have HF6 := Lib.hid hF6
  have b0 := hF6.blk (blk_below HKV.out.1 HB7.out) (HN.out _ (by omega))
  have b1 := hF6.blk (blk_below HKV.out.2.1 HB7.out) (HN.out _ (by omega))
  have b2 := hF6.blk (blk_below HKV.out.2.2.1 HB7.out) (HN.out _ (by omega))
  have b3 := hF6.blk (blk_below HKV.out.2.2.2 HB7.out) (HN.out _ (by omega))
  have fz := blk_frozen b0 1
  have HG := Lib.hid (And.intro b0 (And.intro b1 (And.intro b2 b3)))
  clear hA6 hT6 hK6 hF6 b0 b1 b2 b3
  refine hK.out _ _ ⟨(blk_cell HG.out.1 0), (blk_cell HG.out.1 1), (blk_cell HG.out.1 2), (blk_cell HG.out.2.1 0), (blk_cell HG.out.2.1 1), (blk_cell HG.out.2.1 2), (blk_cell HG.out.2.2.2 0), (blk_cell HG.out.2.2.2 1)⟩ (fun hHeld => ?_)
  clear hK K
  refine norm_ (a' := ?_) ?_ ?_
  rotate_left
  · show Act.put _ (some 54) _ = _
    simp only [Act.put, List.setIfInBounds_toArray, List.set_cons_zero, List.set_cons_succ, i64_w, i32_w]
    rfl
  refine pure_ (i := 9) (N := some 55) (v := ?_) (a' := ?_) #[true, true, true, true, true, true, true, true, true, true, false] rfl rfl (by kernel_rfl) (fun _ _ _ h => h) (Or.inl ⟨by rfl, ?_⟩) ?_ ?_
  rotate_left
  · intro w'
    go_simp
    with_reducible rfl
  rotate_left
  · simp only [Act.put, List.setIfInBounds_toArray, List.set_cons_zero, List.set_cons_succ, i64_w, i32_w]
    rfl
  refine last_ (i := 10) (N := none) #[true, true, true, true, true, true, true, true, true, true, true] rfl rfl (by kernel_rfl) (by decide) (fun K hK => ?_)
  refine skip_ (w1 := ?_) (by rfl) rfl ?_ ?_
  rotate_left
  · go_simp
    rfl
  refine hK.out _ _ ?_
  clear hK K
  refine done_ (by kernel_rfl) ?_

  have c0 := blk_put HG.out.1 1 (.int .i64 r') rfl
  have c2 := (Fr.set w.heap.size 1 (.int .i64 r')).blk HG.out.2.2.1 (show ¬ w.heap.size + 2 = w.heap.size by omega)
  have u0 := blk_cell c0 0
  have u1 := blk_cell c0 1
  have u2 := blk_cell c0 2
  have v0 := blk_cell c2 0
  have v1 := blk_cell c2 1
  have v2 := blk_cell c2 2
  have z0 := blk_frozen c2 0
  have z1 := blk_frozen c2 1
  have z2 := blk_frozen c2 2
  have HB6 := Lib.hid (And.intro HG.out.1 HG.out.2.2.1)
  clear c0 c2
  go_wp2
  refine bodyPost_ret (results_ct rfl _ _ (w.heap.size + 1 + 1) 61 #[.int .i64 n, .int .i64 r', .int .i64 t] (0, 0) _ rfl (ret3 ((Fr.put (Fr.refl (fun j => j = w.heap.size) w6) (p := ⟨w.heap.size, 1, none⟩) (.inl rfl) _).blk HB6.out.2 (by omega)) _ _ _) Try.underlying61 rfl (by kernel_rfl)) rfl ?_
  have hs7 := HB7.out.size
  have hF9 := fr_set w6 w.heap.size (w.heap.size + 1 + 1) 1 (.int .i64 r') (.int .i64 n) (.int .i64 r') (.int .i64 t)
  have hA9 := HA6.out
  have e9 : (fun z => RW z + hold t z + one r' z) = fun z => RW z + vx r' t z := by
    funext z
    unfold vx
    rw [hold_pos hr6]
    omega
  rw [e9] at hA9
  have hA10 := hA9.move hF9 (fun k hk e => by
    rcases hO6 k hk with q | q
    · rcases e with e | e
      · exact HN.out k (by omega) q
      · exact HN.out k (by omega) q
    · try simp only [World.size_alloc] at q
      rcases e with e | e <;> omega)
  refine ⟨r', t, O6, f6, live6, rfl, hA10, by omega, VRep.set_trunk HV.out i HI.out.1 (by rw [HLV.out, HI.out.2.2.1]; exact HI.out.2.2.2) (fun ht => (KeepR.same HKP.out ht (by have := vx_t (r := r) ht; show 0 < RW t + vx r t t; omega)).trans (KeepR.same HK6.out ht (by have h2 : hold t t = 1 := (by rw [hold_pos ht]; exact if_pos rfl); show 0 < RW t + hold t t; omega))) (by rw [HLV.out, HI.out.2.2.1]; exact HT6.out), (HKP.out.mono (fun j hj => by show 0 < RW j + vx r t j; omega)).trans (HK6.out.mono (fun j hj => by show 0 < RW j + hold t j; omega)), fun j hj => ?_, ?_⟩
  · refine (hO6 j hj).imp id (fun q => ?_)
    try simp only [World.size_alloc] at q
    omega
  · exact (((((((Fr.of_new HB.out).trans HF5.out).more (below_alloc (Below.refl _ _) (.cells #[.pointer (some ⟨a, 0, none⟩), .int .u32 o] 133))).more HB4.out).more HD.out).more HB7.out).trans HF6.out).then_ hF9 (fun j hj => .inr (by rcases hj with e | e <;> omega))
end
end Go.Proofs.Ytnipbfhfaefieaa.Pv
