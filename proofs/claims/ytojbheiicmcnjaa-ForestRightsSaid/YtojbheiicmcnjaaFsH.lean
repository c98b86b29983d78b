/- forest: List. -/
import Derived.Test.YtojbheiicmcnjaaFsG
import Derived.Shelf.Abstract
namespace Go.Proofs.Ytojbheiicmcnjaa.Fst
open Go.RowKit Go Go.Proofs.YtojbheiicmcnjaaW.PrintWords Go.Proofs.YtojbheiicmcnjaaW.PrintMore Go.Proofs.YtojbheiicmcnjaaW.PrintLast Go.Proofs.Ytojbheiicmcnjaa.Bts Go.Proofs.Ytojbheiicmcnjaa.Fra Go.Maps
theorem cmp_List1 : CmpE 28 := by
  intro x y W hx0 hx1 hy0 hy1
  have hw : wrap64 (x.ord - y.ord) = x.ord - y.ord := by unfold wrap64; omega
  go_enter Try.func28, Try.ntmps28
  go_wp2
  go_ret
  exact ⟨by simp [hw], 0, _, by rw [Sort.alloc_eq_grow, Sort.alloc_eq_grow, Sort.grow_grow]; rfl⟩
theorem cmp_Leave2 : CmpE 34 := by
  intro x y W hx0 hx1 hy0 hy1
  have hw : wrap64 (x.ord - y.ord) = x.ord - y.ord := by unfold wrap64; omega
  go_enter Try.func34, Try.ntmps34
  go_wp2
  go_ret
  exact ⟨by simp [hw], 0, _, by rw [Sort.alloc_eq_grow, Sort.alloc_eq_grow, Sort.grow_grow]; rfl⟩
section
variable {D : DM} {L : List E} {next : Int} {g b n : Nat}
/-- What has come of a map whose keys in 'left' are still to come. -/
def Come (L : List E) (p : E → Bool) (left : Lit → Bool) (xs : List E) : Prop := xs.Nodup ∧ ∀ e, e ∈ xs ↔ e ∈ L ∧ p e = true ∧ left e.k = false
theorem Rep.one_of (h : Rep D L next) {e f : E} (he : e ∈ L) (hf : f ∈ L) (hk : e.k = f.k) : e = f := by
  have h1 := h.at_ e he .nil
  rw [hk, h.at_ f hf .nil] at h1
  injection h1 with h1
  exact h1.symm
theorem Rep.next_in (h : Rep D L next) {l : Lit} {c : E} (hat : ∀ zd, D.atKey l zd = .held c) : c ∈ L ∧ l = c.k := by
  have hh : has D l = true := by
    cases hh : has D l
    · have h1 := hat .nil
      rw [atKey_of_not_has hh] at h1
      cases h1
    · rfl
  obtain ⟨e, he, rfl⟩ := h.only l hh
  have h1 := hat .nil
  rw [h.at_ e he] at h1
  injection h1 with h1
  subst h1
  exact ⟨he, rfl⟩
theorem sameKey_same (e : E) : e.k.sameKey e.k = true := WideAt.sameKey_self (kl_key _ _)
theorem sameKey_ne {e f : E} (h : e.k ≠ f.k) : e.k.sameKey f.k = false := by
  cases hs : e.k.sameKey f.k
  · rfl
  · exact absurd (WideAt.sameKey_eq hs) h
theorem below_of_grown {w w' : World} (h : w.grownBy w' none) : Below w.heap.size w w' := ⟨h.os, h.tape, h.output, h.size, fun i hi => h.block i hi (by simp)⟩
theorem Come.start (L : List E) (p : E → Bool) (h : Rep D L next) : Come L p (has D) [] :=
  ⟨List.nodup_nil, fun e => ⟨fun h => by simp at h, fun hh => by rw [h.has_ e hh.1] at hh; cases hh.2.2⟩⟩
theorem Come.yes {p : E → Bool} {left : Lit → Bool} {xs : List E} {c : E} (h : Come L p left xs) (hR : Rep D L next) (hc : c ∈ L) (hp : p c = true) (hl : left c.k = true) : Come L p (fun z => left z && !z.sameKey c.k) (xs ++ [c]) := by
  refine ⟨?_, fun e => ?_⟩
  · rw [List.nodup_append]
    refine ⟨h.1, by simp, fun a ha b hb => ?_⟩
    rw [List.mem_singleton] at hb
    subst hb
    intro e
    subst e
    have := ((h.2 _).1 ha).2.2
    rw [hl] at this
    cases this
  · rw [List.mem_append, List.mem_singleton, h.2 e]
    dsimp only
    constructor
    · rintro (⟨h1, h2, h3⟩ | rfl)
      · exact ⟨h1, h2, by rw [h3]; rfl⟩
      · exact ⟨hc, hp, by rw [sameKey_same]; simp⟩
    · rintro ⟨h1, h2, h3⟩
      by_cases hk : e.k = c.k
      · exact .inr (hR.one_of h1 hc hk)
      · rw [sameKey_ne hk, Bool.not_false, Bool.and_true] at h3
        exact .inl ⟨h1, h2, h3⟩
theorem Come.no {p : E → Bool} {left : Lit → Bool} {xs : List E} {c : E} (h : Come L p left xs) (hR : Rep D L next) (hc : c ∈ L) (hp : p c = false) : Come L p (fun z => left z && !z.sameKey c.k) xs := by
  refine ⟨h.1, fun e => ?_⟩
  rw [h.2 e]
  dsimp only
  constructor
  · rintro ⟨h1, h2, h3⟩
    exact ⟨h1, h2, by rw [h3]; rfl⟩
  · rintro ⟨h1, h2, h3⟩
    by_cases hk : e.k = c.k
    · have := hR.one_of h1 hc hk
      subst this
      rw [hp] at h2
      cases h2
    · rw [sameKey_ne hk, Bool.not_false, Bool.and_true] at h3
      exact ⟨h1, h2, h3⟩
theorem nodup_of_ord {L : List E} (h : L.Pairwise (fun a b => a.ord < b.ord)) : L.Nodup := h.imp (fun {a b} h e => by subst e; omega)
theorem Come.perm {p : E → Bool} {left : Lit → Bool} {xs : List E} (h : Come L p left xs) (hR : Rep D L next) (hl : ∀ l, left l = false) : xs.Perm (L.filter p) := by
  refine (List.perm_ext_iff_of_nodup h.1 ((nodup_of_ord hR.ord).filter p)).2 (fun e => ?_)
  rw [h.2 e, List.mem_filter]
  exact ⟨fun q => ⟨q.1, q.2.1⟩, fun q => ⟨q.1, q.2, hl _⟩⟩
theorem Come.len {p : E → Bool} {left : Lit → Bool} {xs : List E} (h : Come L p left xs) (hR : Rep D L next) : xs.length ≤ L.length := by
  have h1 : xs.Perm (L.filter fun e => p e && !left e.k) := by
    refine (List.perm_ext_iff_of_nodup h.1 ((nodup_of_ord hR.ord).filter _)).2 (fun e => ?_)
    rw [h.2 e, List.mem_filter, Bool.and_eq_true, Bool.not_eq_true']
  rw [h1.length_eq]
  exact List.length_filter_le _ _
theorem sorted_is {p : E → Bool} {xs ys : List E} (hx : xs.Perm (L.filter p)) (hy : ys.Perm xs) (hR : Rep D L next) (hs : ys.Pairwise (fun a b => a.ord < b.ord)) : ys = L.filter p :=
  List.Perm.eq_of_pairwise (le := fun a b : E => a.ord < b.ord) (fun a b _ _ h1 h2 => absurd h1 (by omega)) hs (hR.ord.filter p) (hy.trans hx)
set_option maxHeartbeats 4000000 in
set_option maxRecDepth 100000 in
theorem list_gen (N : Nat) (lb : Array Value) (p : E → Bool) (w : World) (eg : ∀ args w, (callFunc N args).run Try.prog w = .ok (.enter N args) w)
    (hc : ∀ (e : E) (W : World), e ∈ L → Below w.heap.size w W → Calls Try.prog N (#[e.v] ++ lb) W fun e' W' => e' = .returned (.bool (p e)) ∧ Below W.heap.size W W')
    (h : FS w g b n L next) (hL : L.length ≤ 100000) (hnx : next ≤ 1000000) :
    Calls Try.prog 10 #[.pointer (some ⟨g, 0, none⟩), .func (.func N) #[] lb] w fun e w' => ∃ v, e = .returned v ∧ ER w' w.heap.size v (L.filter p) ∧ Below w.heap.size w w' := by
  obtain ⟨D, hm, hR⟩ := h.map
  have c0 := ob0 h
  have HM := Lib.hid hm
  have HR := Lib.hid hR
  have HC := Lib.hid hc
  have HN := Lib.hid (And.intro hL hnx)
  have HBW := Lib.hid (h.lt.1)
  clear h hm hR hc hL hnx
  go_enter Try.func10, Try.ntmps10
  go_wp2_with (first
    | (at_range; go_loud (refine wpList_range_own _ rfl _ 62 rfl 30 35 law Try.underlying62 entElem b n D rfl HM.out ?_; intro w0 hrg0 hg0 hs0; have hb0 := below_of_grown hg0; have HRG0 := Lib.hid hrg0; have HB0 := Lib.hid hb0; have HS0 := Lib.hid hs0; clear hrg0 hg0 hb0 hs0)))
  go_frame
  go_loopw [5] (fun v wr => ∃ (left : Lit → Bool) (cnt : Nat) (xs : List E), wr.ranges Try.prog 30 entElem b w.heap.size n D left cnt ∧ ER wr (w.heap.size + 1) v xs ∧ Come L p left xs ∧ Below w.heap.size w wr) (fun _ wr => wr.rangeLeft b w.heap.size)
  case atStart => exact ⟨_, _, [], HRG0.out, Kd.R_nil _ _ _ _ _, Come.start L p HR.out, HB0.out⟩
  case round =>
    obtain ⟨left, cnt, xs, hrg, hE, hCm, hB⟩ := hrel
    have HRG := Lib.hid hrg
    have HE := Lib.hid hE
    have HCM := Lib.hid hCm
    have HB := Lib.hid hB
    clear hrg hE hCm hB
    go_wp2_with (at_next; go_loud (refine wpList_next_ranges _ rfl _ rfl 30 law entElem (fun v : Value => v) E.v (fun key kl hkey => ⟨key, rfl⟩) (fun v y hv => by obtain ⟨e, h1, _⟩ := entElem_ex hv; exact ⟨e, h1⟩) b w.heap.size n D left cnt rfl HRG.out ?_ ?_))
    · intro hc0 hl0
      have hp := HCM.out.perm HR.out hl0
      have HP := Lib.hid hp
      have hsub : ∀ x ∈ xs, x ∈ L := fun x hx => ((HCM.out.2 x).1 hx).1
      have hlen : xs.length ≤ 1000000 := by
        have h1 := hp.length_eq
        have h2 := List.length_filter_le p L
        have h3 := HN.out.1
        omega
      have hord : xs.Pairwise (fun a b => a.ord ≠ b.ord) := (hp.pairwise_iff (fun {a b} h e => h e.symm)).2 ((HR.out.ord.filter p).imp (fun {a b} h e => by omega))
      have HO := Lib.hid hord
      have HL := Lib.hid hlen
      have HB5 := Lib.hid (show ∀ x ∈ xs, 0 ≤ x.ord ∧ x.ord ≤ 1000000 from fun x hx => by have h1 := HR.out.lt x (hsub x hx); have h2 := HN.out.2; omega)
      clear hc0 hl0 hp hsub hlen hord
      go_wp2_with (go_at_call 27; go_loud (refine (sort_calls 28 (enters_of Try.func28 (by kernel_rfl) rfl) cmp_List1 _ xs _ HE.out HO.out HB5.out HL.out).mono ?_; rintro e w4 ⟨rfl, ys, hE4, hP4, hS4, hF4⟩; have HE4 := Lib.hid hE4; have HP4 := Lib.hid hP4; have HS4 := Lib.hid hS4; have HF4 := Lib.hid hF4; clear hE4 hP4 hS4 hF4))
      go_ret
      have hys := sorted_is HP.out HP4.out HR.out HS4.out
      subst hys
      refine ⟨_, rfl, Kd.R_lower HE4.out (Nat.le_succ _) |> fun q => Kd.R_mono q (fun j hj => by omega), ?_⟩
      refine Fr.below (S := fun j => w.heap.size ≤ j) (Fr.then_ (Fr.of_new HB.out) HF4.out (fun j hj => .inl ?_)) (fun _ h => h) (Nat.le_refl _)
      obtain ⟨inner, ho⟩ := Kd.R_own HE.out
      have := own_base ho j hj
      omega
    · intro x c l y1 ps w1 cnt1 hkey hlk hv hat hrg1 hlt hg1 hs1 hen
      have hv2 : (DataW.held c, ([] : List MemPlace)) = (y1, ps) := Option.some.inj hv
      injection hv2 with hv3 hv4
      subst hv3 hv4
      obtain ⟨hcL, rfl⟩ := HR.out.next_in hat
      have hb1 : Below w.heap.size w w1 := HB.out.grown hg1 HB.out.size (fun j hj => by cases hj; omega)
      have hE1 : ER w1 (w.heap.size + 1) _ xs := Kd.R_grown HE.out hg1 (fun j hj e => by have := Option.some.inj e; omega)
      have hb2 := below_alloc (Below.refl w1.heap.size w1) (EC c)
      have HE2 := Lib.hid (Kd.R_below hE1 hb2)
      have HRG2 := Lib.hid (hrg1.alloc (EC c))
      have HK2 := Lib.hid (blk_new w1 (EC c))
      have HB2 := Lib.hid (below_alloc hb1 (EC c))
      have HLT := Lib.hid hlt
      have HLK := Lib.hid hlk
      have HCL := Lib.hid hcL
      have k0 := blk_cell HK2.out 0
      have k1 := blk_cell HK2.out 1
      have k2 := blk_cell HK2.out 2
      have k3 := blk_cell HK2.out 3
      have k4 := blk_cell HK2.out 4
      have k5 := blk_cell HK2.out 5
      have k6 := blk_cell HK2.out 6
      have k7 := blk_cell HK2.out 7
      clear hkey hlk hv hat hrg1 hlt hg1 hs1 hb1 hE1 hb2 hcL
      have hc := HC.out c (w1.alloc (EC c)) HCL.out HB2.out
      go_wp2
      refine hc.mono ?_
      rintro e w2 ⟨rfl, hb⟩
      have HE3 := Lib.hid (Kd.R_below HE2.out hb)
      have HRG3 := Lib.hid (HRG2.out.kept (grown_of_below hb) (by simp) (by simp))
      have HB3 := Lib.hid (HB2.out.trans (hb.mono HB2.out.size))
      have HK3 := Lib.hid (blk_below HK2.out hb)
      have j0 := blk_cell HK3.out 0
      have j1 := blk_cell HK3.out 1
      have j2 := blk_cell HK3.out 2
      have j3 := blk_cell HK3.out 3
      have j4 := blk_cell HK3.out 4
      have j5 := blk_cell HK3.out 5
      have j6 := blk_cell HK3.out 6
      have j7 := blk_cell HK3.out 7
      have HS3 := Lib.hid (show w.heap.size + 1 ≤ w2.heap.size from by have h1 := HRG3.out.lt; omega)
      clear hb hc k0 k1 k2 k3 k4 k5 k6 k7
      have HOB := Lib.hid (by obtain ⟨inner, ho⟩ := Kd.R_own HE3.out; exact fun j hj => own_base ho j hj : ∀ j, Value.ownBlock _ = some j → w.heap.size + 1 ≤ j)
      have hxl : xs.length ≤ 100000 := Nat.le_trans (HCM.out.len HR.out) HN.out.1
      cases hp : p c
      · have HP := Lib.hid hp
        clear hp
        go_wp2
        go_roundw
        case rel => exact ⟨_, _, xs, HRG3.out, HE3.out, HCM.out.no HR.out HCL.out HP.out, HB3.out⟩
        case measure =>
          rw [HRG3.out.left_eq, HRG.out.left_eq]
          exact HLT.out
      · have HP := Lib.hid hp
        clear hp
        go_wp2_with (at_builtin; go_loud (refine Kd.R_append kE (w0 := w2) (W := w2) (w.heap.size + 1) rfl (.tmp 22) (.tmp 24) 38 35 (.agg #[.int .u64 0, .int .u64 0, .int .i64 0, .int .u8 0, .int .u32 0, .int .u64 0, .int .u64 0, .int .i64 0]) 56 rfl Try.underlying38 infoE rfl (by decide) (by decide) _ xs c c.cs (fun j => w.heap.size + 1 ≤ j) (fun _ => False) rfl rfl (kE_mkM _ _ _ _) (fun _ hk => hk.elim) (fun j hj => by have := HS3.out; omega) HE3.out (Below.refl _ _) (by have := HS3.out; omega) (by omega) ?_; intro v6 w6 ho hb hgr _; have HE6 := Lib.hid ho; have HB6 := Lib.hid hb; have HG6 := Lib.hid hgr; have hob : ∀ j, Value.ownBlock _ = some j → w.heap.size + 1 ≤ j := HOB.out; have HRG6 := Lib.hid (HRG3.out.kept hgr (fun e => by have := hob _ e.symm; have := HBW.out; omega) (fun e => by have := hob _ e.symm; omega)); clear ho hb hgr hob))
        go_roundw
        case rel => exact ⟨_, _, xs ++ [c], HRG6.out, HE6.out, HCM.out.yes HR.out HCL.out HP.out HLK.out, HB3.out.grown HG6.out HB3.out.size (fun j hj => by have := HOB.out j hj; omega)⟩
        case measure =>
          rw [HRG6.out.left_eq, HRG.out.left_eq]
          exact HLT.out
end
end Go.Proofs.Ytojbheiicmcnjaa.Fst
