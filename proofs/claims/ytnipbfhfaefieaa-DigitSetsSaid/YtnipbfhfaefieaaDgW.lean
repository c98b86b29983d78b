/- DigitSets: the walk. -/
import Derived.Test.YtnipbfhfaefieaaDgR
import Derived.Test.YtnipbfhfaefieaaFrame
namespace Go.Proofs.Ytnipbfhfaefieaa.Dig
open Go.RowKit Go Go.Shelf Go.Proofs.Ytnipbfhfaefieaa.Fra Go.Proofs.YtnipbfhfaefieaaW.PrintWords Go.Proofs.YtnipbfhfaefieaaW.PrintMore Go.Proofs.YtnipbfhfaefieaaW.PrintLast
attribute [local go_sem] Oper.semAt_some
attribute [local go_sem] max2_int min2_int max_two min_two
theorem bits_row {w : World} {lo : Nat} {ok : Nat → Prop} {v : Value} {s : Nat} (h : Kd.R Kd.bool 4 w lo ok v (bitsOf s)) : ∃ ad c, v = .slice (some ad) 32 c ∧ ∀ k, k < 32 → w.cell? (ad.add k) = some (.bool (s.testBit k)) := by
  obtain ⟨A, c, e, _, hC⟩ := Kd.R_reads h
  obtain ⟨ad0, c0, e2, _, _, _⟩ := Kd.C_get hC false 0 (by omega) (by rw [bits_len]; omega)
  subst e2
  rw [bits_len] at e
  refine ⟨ad0, c, e, fun k hk => ?_⟩
  obtain ⟨ad, c1, e3, _, hK, hc⟩ := Kd.C_get hC false (k : Int) (by omega) (by rw [bits_len]; omega)
  injection e3 with e3
  subst e3
  rw [Int.toNat_natCast] at hK hc
  have hg : (bitsOf s).getD k false = s.testBit k := by
    show (bitsOf s)[k]?.getD _ = _
    rw [bits_at s k hk]
    rfl
  rw [hg] at hK
  obtain rfl := hK
  have hc : ∀ j u, [Value.bool (s.testBit k)][j]? = some u → w.cell? (ad0.add (k * 1 + j)) = some u := hc
  have h2 := hc 0 _ rfl
  rw [Nat.mul_one, Nat.add_zero] at h2
  exact h2
theorem row_obj {w : World} {ad : Addr} {s : Nat} (h : ∀ k, k < 32 → w.cell? (ad.add k) = some (.bool (s.testBit k))) : ∃ o : Obj, w.heap[ad.block]? = some o ∧ o.isCells = true ∧ ∀ w' : World, w'.heap[ad.block]? = some o → ∀ k, k < 32 → w'.cell? (ad.add k) = some (.bool (s.testBit k)) := by
  cases hb : w.heap[ad.block]? with
  | none =>
    have h0 := h 0 (by omega)
    have : (ad.add 0).block = ad.block := rfl
    simp [World.cell?, this, hb] at h0
  | some o =>
    refine ⟨o, rfl, ?_, fun w' hw k hk => ?_⟩
    · have h0 := h 0 (by omega)
      have : (ad.add 0).block = ad.block := rfl
      cases o <;> first | rfl | (simp [World.cell?, this, hb] at h0)
    · rw [← h k hk]
      have e0 : (ad.add k).block = ad.block := by unfold Addr.add; split <;> rfl
      have e1 : w'.heap[(ad.add k).block]? = w.heap[(ad.add k).block]? := by
        rw [e0]
        exact hw.trans hb.symm
      exact World.cell?_of_block e1
/-- The last digit that has come (-1: none). -/
def lastOf (l : List Nat) : Int := match l.getLast? with
  | none => -1
  | some k => (k : Int)
theorem digs_pair (s k : Nat) : (digs s k).Pairwise (· < ·) := List.Pairwise.filter _ List.pairwise_lt_range
theorem last_snoc (l : List Nat) (x : Nat) : lastOf (l ++ [x]) = (x : Int) := by
  unfold lastOf
  rw [List.getLast?_concat]
theorem digs_next {s x : Nat} {pre post : List Nat} (h : digs s 32 = pre ++ x :: post) : x < 32 ∧ s.testBit x = true ∧ lastOf pre < (x : Int) ∧ pre.length < 32 := by
  have hx : x ∈ digs s 32 := by rw [h]; simp
  obtain ⟨h1, h2⟩ := mem_digs.1 hx
  refine ⟨h1, h2, ?_, ?_⟩
  · unfold lastOf
    cases hl : pre.getLast? with
    | none =>
      show (-1 : Int) < (x : Int)
      omega
    | some k =>
      have hp := digs_pair s 32
      rw [h, List.pairwise_append] at hp
      have hk : k ∈ pre := List.mem_of_getLast? hl
      have := hp.2.2 k hk x (List.mem_cons_self ..)
      show (k : Int) < (x : Int)
      omega
  · have h3 := digs_len s 32
    have h4 := cnt_le s 32
    rw [h, List.length_append, List.length_cons] at h3
    omega
/-- What the first range keeps. -/
structure In1 (s : Nat) (W : World) (g6 g9 : Nat) (ad : Addr) (c2 : Nat) (o2 : Obj) (pre : List Nat) (X : World) : Prop where
  b4 : X.heap[W.heap.size]? = some (.cells #[.bool false] 4 (0, 0))
  b6 : X.heap[g6]? = some (.cells #[.slice (some ad) 32 c2] 25 (0, 0))
  b9 : X.heap[g9]? = some (.cells #[.int .i64 (lastOf pre)] 3 (0, 0))
  b10 : X.heap[g9 + 1]? = some (.cells #[.int .i64 (pre.length : Nat)] 3 (0, 0))
  bR : X.heap[ad.block]? = some o2
  bW : Below W.heap.size W X
theorem cells_own {W' A A' : World} {row : Option Nat} {b : Nat} {o : Obj} {B : Nat} (h : A.heap[b]? = some o) (ho : o.isCells = true) (hg : A.grownBy A' row) (hr : ∀ r, row = some r → B ≤ r ∧ ∃ o : Obj, A.heap[r]? = some o ∧ o.isCells = false) : A'.heap[b]? = some o := by
  rw [hg.block b (Array.getElem?_eq_some_iff.1 h).1 ?_]
  · exact h
  · intro e
    obtain ⟨_, o', h1, h2⟩ := hr b e.symm
    rw [h] at h1
    injection h1 with h1
    rw [← h1, ho] at h2
    cases h2
theorem in1_own {s : Nat} {W : World} {g6 g9 B : Nat} {ad : Addr} {c2 : Nat} {o2 : Obj} (ho : o2.isCells = true) (hB : W.heap.size ≤ B) : OwnFrom B (fun pre X => In1 s W g6 g9 ad c2 o2 pre X) := fun pre A A' row h hg hr =>
  ⟨cells_own (W' := A) h.b4 rfl hg hr, cells_own (W' := A) h.b6 rfl hg hr, cells_own (W' := A) h.b9 rfl hg hr, cells_own (W' := A) h.b10 rfl hg hr, cells_own (W' := A) h.bR ho hg hr, h.bW.grown hg h.bW.size (fun k e => Nat.le_trans hB (hr k e).1)⟩
/-- What the second range keeps. -/
structure In2 (W : World) (g9 g12 D n f : Nat) (X : World) : Prop where
  b4 : X.heap[W.heap.size]? = some (.cells #[.bool false] 4 (0, 0))
  b10 : X.heap[g9 + 1]? = some (.cells #[.int .i64 (n : Int)] 3 (0, 0))
  b12 : X.heap[g12]? = some (.cells #[.int .i64 (f : Int)] 3 (0, 0))
  bD : X.heap[D]? = some (.deferred (some []))
  bW : Below W.heap.size W X
theorem in2_own {β : Type} {W : World} {g9 g12 D n B : Nat} {q : β → Prop} {f : Nat} (hB : W.heap.size ≤ B) (hD : D < B) : OwnFrom B (fun (pre : β) X => q pre ∧ In2 W g9 g12 D n f X) := fun pre A A' row h hg hr =>
  ⟨h.1, cells_own (W' := A) h.2.b4 rfl hg hr, cells_own (W' := A) h.2.b10 rfl hg hr, cells_own (W' := A) h.2.b12 rfl hg hr, (hg.block D (Array.getElem?_eq_some_iff.1 h.2.bD).1 (fun e => by have := (hr D e.symm).1; omega)).trans h.2.bD, h.2.bW.grown hg h.2.bW.size (fun k e => Nat.le_trans hB (hr k e).1)⟩
theorem len_is (s m : Nat) (hs : s < 2 ^ 32) (h : cnt s 32 = m) (w : World) : Calls Try.prog 18 #[.int .u32 (s : Int)] w fun e w' => e = .returned (.int .i64 (m : Int)) ∧ Below w.heap.size w w' := h ▸ len_calls s hs w
theorem ref_is (s m : Nat) (hs : s < 2 ^ 32) (h : cnt s 32 = m) (w : World) : Calls Try.prog 16 #[.int .u32 (s : Int), .int .i64 32] w fun e w' => e = .returned (.int .i64 (m : Int)) ∧ Below w.heap.size w w' := h ▸ ref_below s hs 32 w
def noPanic (Q : Exit → Act → World → Prop) : Exit → Act → World → Prop
  | .panic _, _, _ => False
  | e, a, w => Q e a w
theorem wp_noPanic {P : Program} {c : Code} {Q : Exit → Act → World → Prop} {a : Act} {w : World} (h : c.wp P (noPanic Q) a w) : c.wp P Q a w := by
  refine wp_mono h ?_
  intro e a' w' hq
  cases e <;> first | exact hq | exact hq.elim
theorem leave_two {W X V : World} {D D2 : Nat} {tmps : Array Value} (hb : Below X.heap.size X V) (h4 : X.heap[W.heap.size]? = some (.cells #[.bool false] 4 (0, 0))) (hW : Below W.heap.size W X) (hD : X.heap[D]? = some (.deferred (some []))) (hD2 : X.heap[D2]? = some (.deferred (some []))) (h1 : W.heap.size < D) (h2 : W.heap.size < D2) (h3 : D ≠ D2) (ht : tmps[4]? = some (.pointer (some ⟨W.heap.size, 0, none⟩))) :
    bodyPostM Fence.wide 3 Try.prog Try.f3 (fun e W' => e = .returned (.bool true) ∧ Below W.heap.size W W') .ret { tmps := tmps, defers := [{ target := .collected D2, args := #[] }, { target := .collected D, args := #[] }] } (V.setCell ⟨W.heap.size, 0, none⟩ (.bool true)) := by
  have hXD2 : D2 < X.heap.size := (Array.getElem?_eq_some_iff.1 hD2).1
  have hXD : D < X.heap.size := (Array.getElem?_eq_some_iff.1 hD).1
  have ko : KeepsOthers V (V.setCell ⟨W.heap.size, 0, none⟩ (.bool true)) := KeepsOthers.setCell _ _ _
  have v2 : (V.setCell ⟨W.heap.size, 0, none⟩ (.bool true)).heap[D2]? = some (.deferred (some [])) := ko.same _ _ ((hb.block D2 hXD2).trans hD2) rfl
  have v1 : (V.setCell ⟨W.heap.size, 0, none⟩ (.bool true)).heap[D]? = some (.deferred (some [])) := ko.same _ _ ((hb.block D hXD).trans hD) rfl
  have v4 := blk_put (blk_below h4 hb) 0 (.bool true) rfl
  have vW : Below W.heap.size W (V.setCell ⟨W.heap.size, 0, none⟩ (.bool true)) := (hW.trans (hb.mono hW.size)).setCell (p := ⟨W.heap.size, 0, none⟩) (Nat.le_refl _) _
  obtain ⟨U, hU⟩ : ∃ U, V.setCell ⟨W.heap.size, 0, none⟩ (.bool true) = U := ⟨_, rfl⟩
  rw [hU] at v1 v2 v4 vW ⊢
  have u1 : (U.putObj D2 (.deferred none)).heap[D]? = some (.deferred (some [])) := (World.putObj_heap_other h3).trans v1
  have u4 : ((U.putObj D2 (.deferred none)).putObj D (.deferred none)).heap[W.heap.size]? = some (.cells #[.bool true] 4 (0, 0)) := (World.putObj_heap_other (by omega)).trans ((World.putObj_heap_other (by omega)).trans v4)
  have uW : Below W.heap.size W ((U.putObj D2 (.deferred none)).putObj D (.deferred none)) := (vW.trans (belowK_b (w := W) (Nat.le_refl _) U D2 _ _ (by omega) v2 rfl rfl)).trans (belowK_b (w := W) (Nat.le_refl _) _ D _ _ (by omega) u1 rfl rfl)
  refine ⟨by simp, .inl ⟨_, _, rfl, run_takeDeferred v2, ?_⟩⟩
  refine ⟨by simp, .inl ⟨_, _, rfl, run_takeDeferred u1, ?_⟩⟩
  obtain ⟨U2, hU2⟩ : ∃ U2, (U.putObj D2 (.deferred none)).putObj D (.deferred none) = U2 := ⟨_, rfl⟩
  rw [hU2] at u4 uW ⊢
  have hc := blk_cell u4 0
  have hc : U2.cell? ⟨W.heap.size, 0, none⟩ = some (.bool true) := hc
  have hres : Try.f3.results = #[.cell 4 4] := by kernel_rfl
  have hr : (results Try.f3 tmps).run Try.prog U2 = .ok (.bool true) U2 := by
    simp only [results, hres]
    simp [ht, asAddr, go_sem, hc]
  exact ⟨_, hr, rfl, uW⟩
theorem step_b {A B C : World} (h : Below A.heap.size A B) (k : Below B.heap.size B C) : Below A.heap.size A C := h.trans (k.mono h.size)
set_option maxHeartbeats 8000000 in
set_option maxRecDepth 100000 in
theorem sets_main (s : Nat) (hs : s < 2 ^ 32) (i : Int) (hi0 : -9223372036854775808 ≤ i) (hi1 : i ≤ 9223372036854775807) (W : World) :
    Calls Try.prog 3 #[.int .u32 (s : Int), .int .i64 i] W fun e W' => e = .returned (.bool true) ∧ Below W.heap.size W W' := by
  have HS := Lib.hid hs
  clear hs
  refine (callsIn_wide (n := 3)).1 ?_
  refine callsIn_of_wp_marks Try.func3 rfl trivial ?_ rfl
  simp only [Try.ntmps3, List.size_toArray, List.length_cons, List.length_nil, Nat.reduceAdd, Nat.reduceSub, Array.replicate_succ, Array.replicate_zero, List.push_toArray, List.append_toArray, List.nil_append, List.cons_append]
  gi_wp2_with (first
    | (refine ⟨trivial, ?_⟩; refine (callsIn_wide.2 (ref_set s HS.out _)).mono ?_; rintro e w2 ⟨v2, rfl, hR, hb⟩; obtain ⟨ad, c2, rfl, hrow⟩ := bits_row hR; obtain ⟨o2, hro, hoc, hall⟩ := row_obj hrow; have HRO := Lib.hid hro; have HOC := Lib.hid hoc; have HALL := Lib.hid hall; have HB2 := Lib.hid hb; clear hR hb hrow hro hoc hall)
    | (refine ⟨trivial, ?_⟩; refine (callsIn_wide.2 (lives_calls _)).mono ?_; rintro e w1 ⟨rfl, hd⟩; have HD1 := Lib.hid hd.below; clear hd))
  have h1b := HD1.out.trans (HB2.out.mono HD1.out.size)
  have hw1 : W.heap.size < w1.heap.size := by
    have := HD1.out.size
    rw [World.size_alloc] at this
    omega
  have hs2 := Nat.le_trans (Nat.le_of_lt hw1) HB2.out.size
  have b4 := blk_below (blk_below (blk_new W (.cells #[.bool false] 4)) HD1.out) HB2.out
  have hbW : Below W.heap.size W w2 := (((Below.refl _ W).alloc (Nat.le_refl _) _).trans (HD1.out.mono (by simp))).trans (HB2.out.mono (by omega))
  obtain ⟨o6, ho6⟩ : ∃ o : Obj, o = .cells #[.slice (some ad) 32 c2] 25 := ⟨_, rfl⟩
  obtain ⟨oL, hoL⟩ : ∃ o : Obj, o = .cells #[.int .i64 i, .int .i64 (i.tmod 40)] 3 := ⟨_, rfl⟩
  have ac6 := below_alloc (Below.refl w2.heap.size w2) (.cells #[.slice (some ad) 32 c2] 25)
  have acL := below_alloc (Below.refl (w2.alloc (.cells #[.slice (some ad) 32 c2] 25)).heap.size (w2.alloc (.cells #[.slice (some ad) 32 c2] 25))) (.cells #[.int .i64 i, .int .i64 (i.tmod 40)] 3)
  have b6 := blk_below (blk_new w2 (.cells #[.slice (some ad) 32 c2] 25)) acL
  have bL := blk_new (w2.alloc (.cells #[.slice (some ad) 32 c2] 25)) (.cells #[.int .i64 i, .int .i64 (i.tmod 40)] 3)
  rw [World.size_alloc] at bL
  have ac := ac6.trans (acL.mono ac6.size)
  have b4 := blk_below b4 ac
  have bR := (ac.block ad.block (Array.getElem?_eq_some_iff.1 HRO.out).1).trans HRO.out
  have hbW := hbW.trans (ac.mono hs2)
  obtain ⟨W3, hW3⟩ : ∃ X, ((w2.alloc (.cells #[.slice (some ad) 32 c2] 25)).alloc (.cells #[.int .i64 i, .int .i64 (i.tmod 40)] 3)) = X := ⟨_, rfl⟩
  rw [hW3] at b4 b6 bL bR hbW ⊢
  have hz3 : W3.heap.size = w2.heap.size + 2 := by rw [← hW3, World.size_alloc, World.size_alloc]
  have B4 := Lib.hid b4
  have B6 := Lib.hid b6
  have BL := Lib.hid bL
  have BR := Lib.hid bR
  have HBW := Lib.hid hbW
  obtain ⟨g6, hg6⟩ : ∃ g, w2.heap.size = g := ⟨_, rfl⟩
  rw [hg6] at hz3 B6 BL ⊢
  have hg4 : W.heap.size < g6 := by rw [← hg6]; exact Nat.lt_of_lt_of_le hw1 HB2.out.size
  have hgr : ad.block < g6 := by rw [← hg6]; exact (Array.getElem?_eq_some_iff.1 HRO.out).1
  clear h1b hs2 b4 b6 bL bR hbW ac6 acL ac ho6 hoL o6 oL hW3 HRO HD1 HB2 hw1 hg6
  gi_loopw [23] (fun p wr => ∃ k : Nat, k ≤ 2 ∧ p = .int .i64 (k : Int) ∧ Hid (Below W3.heap.size W3 wr)) (fun p _ => (2 - intOf p).toNat)
  case atStart => exact ⟨0, by omega, rfl, Lib.hid (Below.refl _ _)⟩
  case round =>
    obtain ⟨k, hk, rfl, HBR⟩ := hrel
    by_cases hk2 : k < 2
    · have hk3 : (k : Int) < 2 := by omega
      obtain ⟨x, hx⟩ : ∃ x : Int, wr.cell? ⟨g6 + 1, k, none⟩ = some (.int .i64 x) := by
        have h3 := blk_below BL.out HBR.out
        have hkk : k = 0 ∨ k = 1 := by omega
        rcases hkk with rfl | rfl
        · exact ⟨_, blk_cell h3 0⟩
        · exact ⟨_, blk_cell h3 1⟩
      by_cases hx0 : 0 ≤ x
      · by_cases hx1 : x < 32
        · obtain ⟨m, rfl⟩ : ∃ m : Nat, x = (m : Int) := ⟨x.toNat, by omega⟩
          have hm : m < 32 := by omega
          have hin : isin s (m : Int) = s.testBit m := isin_nat s m hm
          gi_wp2_with (first
            | (refine ⟨trivial, ?_⟩; refine (callsIn_wide.2 (ref_below s HS.out (m : Int) _)).mono ?_; rintro e w6 ⟨rfl, hb⟩; have HBc := Lib.hid (HBb.out.trans (hb.mono HBb.out.size)); clear hb)
            | (refine ⟨trivial, ?_⟩; refine (callsIn_wide.2 (place_calls s HS.out (m : Int) _)).mono ?_; rintro e w5 ⟨rfl, hb⟩; have HBb := Lib.hid (HBa.out.trans (hb.mono HBa.out.size)); clear hb)
            | (refine ⟨trivial, ?_⟩; refine (callsIn_wide.2 (has_calls s HS.out (m : Int) _)).mono ?_; rw [hin]; rintro e w4 ⟨rfl, hb⟩; have HBa := Lib.hid (HBR.out.trans (hb.mono HBR.out.size)); clear hb; have q6 := blk_cell (blk_below B6.out HBa.out) 0; have qr := HALL.out _ ((HBa.out.block _ (by omega)).trans BR.out) m hm))
          go_roundw
          case rel => exact ⟨k + 1, hk2, by simp, HBc⟩
          case measure => simp [intOf]; omega
        · have hin : isin s x = false := by unfold isin; rw [decide_eq_true hx0, decide_eq_false hx1]; rfl
          gi_wp2_with (first
            | (refine ⟨trivial, ?_⟩; refine (callsIn_wide.2 (ref_below s HS.out x _)).mono ?_; rintro e w6 ⟨rfl, hb⟩; have HBc := Lib.hid (HBb.out.trans (hb.mono HBb.out.size)); clear hb)
            | (refine ⟨trivial, ?_⟩; refine (callsIn_wide.2 (place_calls s HS.out x _)).mono ?_; rintro e w5 ⟨rfl, hb⟩; have HBb := Lib.hid (HBa.out.trans (hb.mono HBa.out.size)); clear hb)
            | (refine ⟨trivial, ?_⟩; refine (callsIn_wide.2 (has_calls s HS.out x _)).mono ?_; rw [hin]; rintro e w4 ⟨rfl, hb⟩; have HBa := Lib.hid (HBR.out.trans (hb.mono HBR.out.size)); clear hb))
          go_roundw
          case rel => exact ⟨k + 1, hk2, by simp, HBc⟩
          case measure => simp [intOf]; omega
      · have hin : isin s x = false := by unfold isin; rw [decide_eq_false hx0]; rfl
        gi_wp2_with (first
          | (refine ⟨trivial, ?_⟩; refine (callsIn_wide.2 (ref_below s HS.out x _)).mono ?_; rintro e w6 ⟨rfl, hb⟩; have HBc := Lib.hid (HBb.out.trans (hb.mono HBb.out.size)); clear hb)
          | (refine ⟨trivial, ?_⟩; refine (callsIn_wide.2 (place_calls s HS.out x _)).mono ?_; rintro e w5 ⟨rfl, hb⟩; have HBb := Lib.hid (HBa.out.trans (hb.mono HBa.out.size)); clear hb)
          | (refine ⟨trivial, ?_⟩; refine (callsIn_wide.2 (has_calls s HS.out x _)).mono ?_; rw [hin]; rintro e w4 ⟨rfl, hb⟩; have HBa := Lib.hid (HBR.out.trans (hb.mono HBR.out.size)); clear hb))
        go_roundw
        case rel => exact ⟨k + 1, hk2, by simp, HBc⟩
        case measure => simp [intOf]; omega
    · obtain rfl : k = 2 := by omega
      have hk3 : ¬ ((2 : Nat) : Int) < 2 := by omega
      gi_wp2
      have ac9 := below_alloc (Below.refl wr.heap.size wr) (.cells #[.int .i64 (-1)] 3)
      have ac10 := below_alloc (Below.refl (wr.alloc (.cells #[.int .i64 (-1)] 3)).heap.size (wr.alloc (.cells #[.int .i64 (-1)] 3))) (.cells #[.int .i64 0] 3)
      have b9 := blk_below (blk_new wr (.cells #[.int .i64 (-1)] 3)) ac10
      have b10 := blk_new (wr.alloc (.cells #[.int .i64 (-1)] 3)) (.cells #[.int .i64 0] 3)
      rw [World.size_alloc] at b10
      have ac := HBR.out.trans ((ac9.trans (ac10.mono ac9.size)).mono HBR.out.size)
      have hz4 := ac.size
      have b4 := blk_below B4.out ac
      have b6 := blk_below B6.out ac
      have bR := (ac.block ad.block (by omega)).trans BR.out
      have bW := HBW.out.trans (ac.mono HBW.out.size)
      have hgw : g6 + 2 ≤ wr.heap.size := by rw [← hz3]; exact HBR.out.size
      obtain ⟨W4, hW4⟩ : ∃ X, ((wr.alloc (.cells #[.int .i64 (-1)] 3)).alloc (.cells #[.int .i64 0] 3)) = X := ⟨_, rfl⟩
      have hz5 : W4.heap.size = wr.heap.size + 2 := by rw [← hW4, World.size_alloc, World.size_alloc]
      rw [hW4] at b9 b10 b4 b6 bR bW ⊢
      obtain ⟨g9, hg9⟩ : ∃ g, wr.heap.size = g := ⟨_, rfl⟩
      rw [hg9] at b9 b10 hgw hz5 ⊢
      clear ac9 ac10 ac hz4 hW4 hg9
      refine range_up (xs := digs s 32) (encs := fun k : Nat => #[.int .i64 (k : Int)]) rfl (by decide) (gf := 17) (lf := #[.int .u32 (s : Int)]) rfl trivial (enters_of Try.func17 (by kernel_rfl) rfl) (all_gives _ s HS.out) (fun _ => rfl) (fun pre X => In1 s W g6 g9 ad c2 o2 pre X) (fun _ _ _ => False) ?own (fun _ _ _ _ _ h _ _ => h) ?start (fun x t => (t.setIfInBounds 55 (.int .i64 (x : Int))).setIfInBounds 11 (.int .i64 (x : Int))) ?assign ?body ?done ?stop
      case own => exact in1_own HOC.out (by omega)
      case start => exact ⟨b4, b6, b9, b10, bR, bW⟩
      case assign =>
        intro l x X K hK
        gi_wp2
        exact hK
      case body =>
        intro l pre x post X hx hi
        obtain ⟨hx1, hx2, hx3, hx4⟩ := digs_next hx
        have q6 := blk_cell hi.b6 0
        have q9 := blk_cell hi.b9 0
        have q10 := blk_cell hi.b10 0
        have f9 := blk_frozen hi.b9 0
        have f10 := blk_frozen hi.b10 0
        have qr := HALL.out X hi.bR x hx1
        rw [hx2] at qr
        have hle : ¬ (x : Int) ≤ lastOf pre := by omega
        have hx5 : (x : Int) < 32 := by omega
        have hln : (pre.length : Int) < 32 := by omega
        have HI := Lib.hid hi
        simp only [List.setIfInBounds_toArray, List.set_cons_zero, List.set_cons_succ]
        clear hx hi
        gi_wp2
        refine ⟨none, rfl, (KeepsOthers.setCell _ _ _).trans (KeepsOthers.setCell _ _ _), ?_⟩
        have hi := HI.out
        have k1 : Fr (· = g9) X (X.setCell ⟨g9, 0, none⟩ (.int .i64 (x : Int))) := Fr.set g9 0 _
        have k2 : Fr (· = g9 + 1) (X.setCell ⟨g9, 0, none⟩ (.int .i64 (x : Int))) ((X.setCell ⟨g9, 0, none⟩ (.int .i64 (x : Int))).setCell ⟨g9 + 1, 0, none⟩ (.int .i64 ((pre.length : Int) + 1))) := Fr.set (g9 + 1) 0 _
        refine ⟨k2.blk (k1.blk hi.b4 (by omega)) (by omega), k2.blk (k1.blk hi.b6 (by omega)) (by omega), k2.blk (blk_put hi.b9 0 _ ?_) (by omega), blk_put (k1.blk hi.b10 (by omega)) 0 _ ?_, k2.blk (k1.blk hi.bR (by omega)) (by omega), (hi.bW.setCell (p := ⟨g9, 0, none⟩) (by show W.heap.size ≤ g9; omega) _).setCell (p := ⟨g9 + 1, 0, none⟩) (by show W.heap.size ≤ g9 + 1; omega) _⟩
        · rw [last_snoc]
          rfl
        · rw [List.length_append]
          rfl
      case done =>
        intro D Y hD hi hK
        gi_wp2
        have hDY : D < Y.heap.size := (Array.getElem?_eq_some_iff.1 hK).1
        have hYW := hi.bW.size
        have ac := below_alloc (Below.refl Y.heap.size Y) (.cells #[.int .i64 0] 3)
        have c4 := blk_below hi.b4 ac
        have c10 := blk_below hi.b10 ac
        have c12 := blk_new Y (.cells #[.int .i64 0] 3)
        have cD := (ac.block D hDY).trans hK
        have cW := hi.bW.trans (ac.mono hYW)
        rw [digs_len] at c10
        have h9 : g9 + 1 < Y.heap.size := (Array.getElem?_eq_some_iff.1 hi.b10).1
        obtain ⟨Z, hZ⟩ : ∃ Z, Y.alloc (.cells #[.int .i64 0] 3) = Z := ⟨_, rfl⟩
        have hZs : Z.heap.size = Y.heap.size + 1 := by rw [← hZ, World.size_alloc]
        rw [hZ] at c4 c10 c12 cD cW ⊢
        obtain ⟨g12, hg12⟩ : ∃ g, Y.heap.size = g := ⟨_, rfl⟩
        rw [hg12] at c12 hDY hZs h9 hYW ⊢
        clear ac hZ hi hK hg12
        refine range_up (xs := digs s 32) (encs := fun k : Nat => #[.int .i64 (k : Int)]) rfl (by decide) (gf := 17) (lf := #[.int .u32 (s : Int)]) rfl trivial (enters_of Try.func17 (by kernel_rfl) rfl) (all_gives _ s HS.out) (fun _ => rfl) (fun pre X => pre = [] ∧ In2 W g9 g12 D (cnt s 32) 0 X) (fun c pre X => (c = .exit 4 ∧ digs s 32 ≠ []) ∧ In2 W g9 g12 D (cnt s 32) 1 X) (in2_own (by omega) (by omega)) (fun c => in2_own (q := fun _ => c = .exit 4 ∧ digs s 32 ≠ []) (by omega) (by omega)) ⟨rfl, c4, c10, c12, cD, cW⟩ (fun x t => (t.setIfInBounds 71 (.int .i64 (x : Int)))) ?assign2 ?body2 ?done2 ?stop2
        case assign2 =>
          intro l x X K hK
          gi_wp2
          exact hK
        case body2 =>
          rintro l pre x post X hx ⟨rfl, hi⟩
          have q12 := blk_cell hi.b12 0
          have f12 := blk_frozen hi.b12 0
          have HI := Lib.hid hi
          have hne : digs s 32 ≠ [] := by rw [hx]; simp
          simp only [List.setIfInBounds_toArray, List.set_cons_zero, List.set_cons_succ]
          clear hx hi
          gi_wp2
          have hi := HI.out
          have k1 : Fr (· = g12) X (X.setCell ⟨g12, 0, none⟩ (.int .i64 1)) := Fr.set g12 0 _
          exact ⟨some (.exit 4), rfl, KeepsOthers.setCell _ _ _, ⟨rfl, hne⟩, k1.blk hi.b4 (by omega), k1.blk hi.b10 (by omega), blk_put hi.b12 0 _ rfl, k1.blk hi.bD (by omega), hi.bW.setCell (p := ⟨g12, 0, none⟩) (by show W.heap.size ≤ g12; omega) _⟩
        case done2 =>
          rintro D2 X hD2 ⟨hnil, hi⟩ hK2
          have hc0 : cnt s 32 = 0 := by rw [← digs_len, hnil]; rfl
          obtain ⟨m, hm⟩ : ∃ m, cnt s 32 = m := ⟨_, rfl⟩
          rw [hm] at hi hc0
          have hmin : (if (1 : Int) < (m : Int) then 1 else (m : Int)) = 0 := by split <;> omega
          have hS : ∀ w', Below X.heap.size X w' → w'.cell? ⟨g9 + 1, 0, none⟩ = some (.int .i64 (m : Int)) ∧ w'.cell? ⟨g12, 0, none⟩ = some (.int .i64 0) ∧ w'.cell? ⟨W.heap.size, 0, none⟩ = some (.bool false) ∧ w'.frozen? ⟨W.heap.size, 0, none⟩ = false := fun w' hb => ⟨blk_cell (blk_below hi.b10 hb) 0, blk_cell (blk_below hi.b12 hb) 0, blk_cell (blk_below hi.b4 hb) 0, blk_frozen (blk_below hi.b4 hb) 0⟩
          have HSS := Lib.hid hS
          have HI := Lib.hid hi
          have HK2 := Lib.hid hK2
          have HM := Lib.hid hm
          clear hS hi hK2 hm
          gi_wp2
          refine wpIn_wide.2 (wp_noPanic ?_)
          refine start_ (n := 18) (S := fun w' => w'.cell? ⟨g9 + 1, 0, none⟩ = some (.int .i64 (m : Int)) ∧ w'.cell? ⟨g12, 0, none⟩ = some (.int .i64 0) ∧ w'.cell? ⟨W.heap.size, 0, none⟩ = some (.bool false) ∧ w'.frozen? ⟨W.heap.size, 0, none⟩ = false) (ds := [17]) #[false, false, false, false, false, false, false, false, false, false, false, false, false, false, false, false, false, false] (by kernel_rfl) rfl rfl ⟨(HSS.out _ (below_drew1 (Below.refl _ _))).1, (HSS.out _ (below_drew1 (Below.refl _ _))).2.1, (HSS.out _ (below_drew1 (Below.refl _ _))).2.2.1, (HSS.out _ (below_drew1 (Below.refl _ _))).2.2.2⟩ (fun hHeld => ?_)
          refine pure_ (i := 1) (N := some 75) (v := ?_) (a' := ?_) #[false, true, false, false, false, false, false, false, false, false, false, false, false, false, false, false, false, false] rfl rfl (by kernel_rfl) (fun _ _ _ h => h) (Or.inl ⟨by rfl, ?_⟩) ?_ ?_
          rotate_left
          · intro w'
            go_simp
            with_reducible rfl
          rotate_left
          · simp only [Act.put, List.setIfInBounds_toArray, List.set_cons_zero, List.set_cons_succ, i64_w, i32_w]
            rfl
          refine take_ (i := 0) (N := some 74) (v := ?_) (a' := ?_) #[true, true, false, false, false, false, false, false, false, false, false, false, false, false, false, false, false, false] rfl rfl (by kernel_rfl) (fun _ _ _ h => h) (Or.inl ⟨by rfl, ?_⟩) hHeld ?_ ?_
          rotate_left
          · rintro w' ⟨s0, s1, s2, s3⟩
            go_simp
            with_reducible rfl
          rotate_left
          · simp only [Act.put, List.setIfInBounds_toArray, List.set_cons_zero, List.set_cons_succ, i64_w, i32_w]
            rfl
          refine one_ (i := 2) (N := some 76) #[true, true, true, false, false, false, false, false, false, false, false, false, false, false, false, false, false, false] rfl rfl (by kernel_rfl) (by decide) (fun K hK => ?_)
          refine goes_ Try.func18 (by kernel_rfl) rfl #[.int .u32 (s : Int)] (by rfl) rfl rfl (by simp only [List.map_toArray, List.map_cons, List.map_nil]; rfl) ?_
          with_reducible refine (len_is s m HS.out HM.out _).mono ?_
          rintro e w3 ⟨rfl, hB3⟩
          refine ⟨_, rfl, ?_⟩
          have hb3 := step_b (below_drew1 (Below.refl X.heap.size X)) hB3
          refine hK.out _ _ ⟨(HSS.out _ hb3).1, (HSS.out _ hb3).2.1, (HSS.out _ hb3).2.2.1, (HSS.out _ hb3).2.2.2⟩ (fun hHeld => ?_)
          clear hK K
          refine norm_ (a' := ?_) ?_ ?_
          rotate_left
          · show Act.put _ (some 76) _ = _
            simp only [Act.put, List.setIfInBounds_toArray, List.set_cons_zero, List.set_cons_succ, i64_w, i32_w]
            rfl
          refine pure_ (i := 3) (N := some 77) (v := ?_) (a' := ?_) #[true, true, true, true, false, false, false, false, false, false, false, false, false, false, false, false, false, false] rfl rfl (by kernel_rfl) (fun _ _ _ h => h) (Or.inl ⟨by rfl, ?_⟩) ?_ ?_
          rotate_left
          · intro w'
            go_simp
            with_reducible rfl
          rotate_left
          · simp only [Act.put, List.setIfInBounds_toArray, List.set_cons_zero, List.set_cons_succ, i64_w, i32_w]
            rfl
          refine pure_ (i := 4) (N := some 78) (v := ?_) (a' := ?_) #[true, true, true, true, true, false, false, false, false, false, false, false, false, false, false, false, false, false] rfl rfl (by kernel_rfl) (fun _ _ _ h => h) (Or.inl ⟨by rfl, ?_⟩) ?_ ?_
          rotate_left
          · intro w'
            go_simp
            with_reducible rfl
          rotate_left
          · simp only [Act.put, List.setIfInBounds_toArray, List.set_cons_zero, List.set_cons_succ, i64_w, i32_w]
            rfl
          refine pure_ (i := 5) (N := some 79) (v := ?_) (a' := ?_) #[true, true, true, true, true, true, false, false, false, false, false, false, false, false, false, false, false, false] rfl rfl (by kernel_rfl) (fun _ _ _ h => h) (Or.inl ⟨by rfl, ?_⟩) ?_ ?_
          rotate_left
          · intro w'
            go_simp
            with_reducible rfl
          rotate_left
          · simp only [Act.put, List.setIfInBounds_toArray, List.set_cons_zero, List.set_cons_succ, i64_w, i32_w]
            rfl
          refine pure_ (i := 7) (N := some 81) (v := ?_) (a' := ?_) #[true, true, true, true, true, true, false, true, false, false, false, false, false, false, false, false, false, false] rfl rfl (by kernel_rfl) (fun _ _ _ h => h) (Or.inl ⟨by rfl, ?_⟩) ?_ ?_
          rotate_left
          · intro w'
            go_simp
            with_reducible rfl
          rotate_left
          · simp only [Act.put, List.setIfInBounds_toArray, List.set_cons_zero, List.set_cons_succ, i64_w, i32_w]
            rfl
          refine one_ (i := 6) (N := some 80) #[true, true, true, true, true, true, true, true, false, false, false, false, false, false, false, false, false, false] rfl rfl (by kernel_rfl) (by decide) (fun K hK => ?_)
          refine goes_ Try.func18 (by kernel_rfl) rfl #[.int .u32 (s : Int)] (by rfl) rfl rfl (by simp only [List.map_toArray, List.map_cons, List.map_nil]; rfl) ?_
          with_reducible refine (len_is s m HS.out HM.out _).mono ?_
          rintro e w4 ⟨rfl, hB4⟩
          refine ⟨_, rfl, ?_⟩
          have hb4 := step_b (by assumption) hB4
          refine hK.out _ _ ⟨(HSS.out _ hb4).1, (HSS.out _ hb4).2.1, (HSS.out _ hb4).2.2.1, (HSS.out _ hb4).2.2.2⟩ (fun hHeld => ?_)
          clear hK K
          refine norm_ (a' := ?_) ?_ ?_
          rotate_left
          · show Act.put _ (some 80) _ = _
            simp only [Act.put, List.setIfInBounds_toArray, List.set_cons_zero, List.set_cons_succ, i64_w, i32_w]
            rfl
          refine one_ (i := 8) (N := some 82) #[true, true, true, true, true, true, true, true, true, false, false, false, false, false, false, false, false, false] rfl rfl (by kernel_rfl) (by decide) (fun K hK => ?_)
          refine goes_ Try.func16 (by kernel_rfl) rfl #[.int .u32 (s : Int), .int .i64 32] (by rfl) rfl rfl (by simp only [List.map_toArray, List.map_cons, List.map_nil]; rfl) ?_
          with_reducible refine (ref_is s m HS.out HM.out _).mono ?_
          rintro e w5 ⟨rfl, hB5⟩
          refine ⟨_, rfl, ?_⟩
          have hb5 := step_b (by assumption) hB5
          refine hK.out _ _ ⟨(HSS.out _ hb5).1, (HSS.out _ hb5).2.1, (HSS.out _ hb5).2.2.1, (HSS.out _ hb5).2.2.2⟩ (fun hHeld => ?_)
          clear hK K
          refine norm_ (a' := ?_) ?_ ?_
          rotate_left
          · show Act.put _ (some 82) _ = _
            simp only [Act.put, List.setIfInBounds_toArray, List.set_cons_zero, List.set_cons_succ, i64_w, i32_w]
            rfl
          refine pure_ (i := 9) (N := some 83) (v := ?_) (a' := ?_) #[true, true, true, true, true, true, true, true, true, true, false, false, false, false, false, false, false, false] rfl rfl (by kernel_rfl) (fun _ _ _ h => h) (Or.inl ⟨by rfl, ?_⟩) ?_ ?_
          rotate_left
          · intro w'
            go_simp
            with_reducible rfl
          rotate_left
          · simp only [Act.put, List.setIfInBounds_toArray, List.set_cons_zero, List.set_cons_succ, i64_w, i32_w]
            rfl
          refine pure_ (i := 10) (N := some 84) (v := ?_) (a' := ?_) #[true, true, true, true, true, true, true, true, true, true, true, false, false, false, false, false, false, false] rfl rfl (by kernel_rfl) (fun _ _ _ h => h) (Or.inl ⟨by rfl, ?_⟩) ?_ ?_
          rotate_left
          · intro w'
            go_simp
            with_reducible rfl
          rotate_left
          · simp only [Act.put, List.setIfInBounds_toArray, List.set_cons_zero, List.set_cons_succ, i64_w, i32_w]
            rfl
          refine pure_ (i := 11) (N := some 85) (v := ?_) (a' := ?_) #[true, true, true, true, true, true, true, true, true, true, true, true, false, false, false, false, false, false] rfl rfl (by kernel_rfl) (fun _ _ _ h => h) (Or.inl ⟨by rfl, ?_⟩) ?_ ?_
          rotate_left
          · intro w'
            go_simp
            with_reducible rfl
          rotate_left
          · simp only [Act.put, List.setIfInBounds_toArray, List.set_cons_zero, List.set_cons_succ, i64_w, i32_w]
            rfl
          refine take_ (i := 12) (N := some 86) (v := ?_) (a' := ?_) #[true, true, true, true, true, true, true, true, true, true, true, true, true, false, false, false, false, false] rfl rfl (by kernel_rfl) (fun _ _ _ h => h) (Or.inl ⟨by rfl, ?_⟩) hHeld ?_ ?_
          rotate_left
          · rintro w' ⟨s0, s1, s2, s3⟩
            go_simp
            with_reducible rfl
          rotate_left
          · simp only [Act.put, List.setIfInBounds_toArray, List.set_cons_zero, List.set_cons_succ, i64_w, i32_w]
            rfl
          refine take_ (i := 13) (N := some 87) (v := ?_) (a' := ?_) #[true, true, true, true, true, true, true, true, true, true, true, true, true, true, false, false, false, false] rfl rfl (by kernel_rfl) (fun _ _ _ h => h) (Or.inl ⟨by rfl, ?_⟩) hHeld ?_ ?_
          rotate_left
          · rintro w' ⟨s0, s1, s2, s3⟩
            go_simp
            with_reducible rfl
          rotate_left
          · simp only [Act.put, List.setIfInBounds_toArray, List.set_cons_zero, List.set_cons_succ, i64_w, i32_w]
            rfl
          refine pure_ (i := 14) (N := some 88) (v := ?_) (a' := ?_) #[true, true, true, true, true, true, true, true, true, true, true, true, true, true, true, false, false, false] rfl rfl (by kernel_rfl) (fun _ _ _ h => h) (Or.inl ⟨by rfl, ?_⟩) ?_ ?_
          rotate_left
          · intro w'
            go_simp
            with_reducible rfl
          rotate_left
          · simp only [Act.put, List.setIfInBounds_toArray, List.set_cons_zero, List.set_cons_succ, i64_w, i32_w]
            rfl
          refine pure_ (i := 15) (N := some 89) (v := ?_) (a' := ?_) #[true, true, true, true, true, true, true, true, true, true, true, true, true, true, true, true, false, false] rfl rfl (by kernel_rfl) (fun _ _ _ h => h) (Or.inl ⟨by rfl, ?_⟩) ?_ ?_
          rotate_left
          · intro w'
            go_simp
            with_reducible rfl
          rotate_left
          · simp only [Act.put, List.setIfInBounds_toArray, List.set_cons_zero, List.set_cons_succ, i64_w, i32_w]
            rfl
          refine pure_ (i := 16) (N := some 90) (v := ?_) (a' := ?_) #[true, true, true, true, true, true, true, true, true, true, true, true, true, true, true, true, true, false] rfl rfl (by kernel_rfl) (fun _ _ _ h => h) (Or.inl ⟨by rfl, ?_⟩) ?_ ?_
          rotate_left
          · intro w'
            go_simp
            with_reducible rfl
          rotate_left
          · simp only [Act.put, List.setIfInBounds_toArray, List.set_cons_zero, List.set_cons_succ, i64_w, i32_w]
            rfl
          refine last_ (i := 17) (N := none) #[true, true, true, true, true, true, true, true, true, true, true, true, true, true, true, true, true, true] rfl rfl (by kernel_rfl) (by decide) (fun K hK => ?_)
          refine skip_ (w1 := ?_) (by rfl) rfl ?_ ?_
          rotate_left
          · go_simp
            rfl
          refine hK.out _ _ ?_
          clear hK K
          refine done_ (by kernel_rfl) ?_

          all_goals (unfold noPanic; gi_wp2)
          have hi := HI.out
          have hXD2 : D2 < X.heap.size := (Array.getElem?_eq_some_iff.1 HK2.out).1
          have hXD : D < X.heap.size := (Array.getElem?_eq_some_iff.1 hi.bD).1
          exact leave_two hb5 hi.b4 hi.bW hi.bD HK2.out (by omega) (by omega) (by omega) rfl
        case stop2 =>
          rintro D2 c pre X hD2 ⟨⟨rfl, hne⟩, hi⟩ hK2
          have hc0 : 0 < cnt s 32 := by rw [← digs_len]; exact List.length_pos_iff.2 hne
          obtain ⟨m, hm⟩ : ∃ m, cnt s 32 = m := ⟨_, rfl⟩
          rw [hm] at hi hc0
          have hmin : (if (1 : Int) < (m : Int) then 1 else (m : Int)) = 1 := by split <;> omega
          have hS : ∀ w', Below X.heap.size X w' → w'.cell? ⟨g9 + 1, 0, none⟩ = some (.int .i64 (m : Int)) ∧ w'.cell? ⟨g12, 0, none⟩ = some (.int .i64 1) ∧ w'.cell? ⟨W.heap.size, 0, none⟩ = some (.bool false) ∧ w'.frozen? ⟨W.heap.size, 0, none⟩ = false := fun w' hb => ⟨blk_cell (blk_below hi.b10 hb) 0, blk_cell (blk_below hi.b12 hb) 0, blk_cell (blk_below hi.b4 hb) 0, blk_frozen (blk_below hi.b4 hb) 0⟩
          have HSS := Lib.hid hS
          have HI := Lib.hid hi
          have HK2 := Lib.hid hK2
          have HM := Lib.hid hm
          clear hS hi hK2 hm
          gi_wp2
          refine wpIn_wide.2 (wp_noPanic ?_)
          refine start_ (n := 18) (S := fun w' => w'.cell? ⟨g9 + 1, 0, none⟩ = some (.int .i64 (m : Int)) ∧ w'.cell? ⟨g12, 0, none⟩ = some (.int .i64 1) ∧ w'.cell? ⟨W.heap.size, 0, none⟩ = some (.bool false) ∧ w'.frozen? ⟨W.heap.size, 0, none⟩ = false) (ds := [17]) #[false, false, false, false, false, false, false, false, false, false, false, false, false, false, false, false, false, false] (by kernel_rfl) rfl rfl ⟨(HSS.out _ (below_drew1 (Below.refl _ _))).1, (HSS.out _ (below_drew1 (Below.refl _ _))).2.1, (HSS.out _ (below_drew1 (Below.refl _ _))).2.2.1, (HSS.out _ (below_drew1 (Below.refl _ _))).2.2.2⟩ (fun hHeld => ?_)
          refine pure_ (i := 1) (N := some 75) (v := ?_) (a' := ?_) #[false, true, false, false, false, false, false, false, false, false, false, false, false, false, false, false, false, false] rfl rfl (by kernel_rfl) (fun _ _ _ h => h) (Or.inl ⟨by rfl, ?_⟩) ?_ ?_
          rotate_left
          · intro w'
            go_simp
            with_reducible rfl
          rotate_left
          · simp only [Act.put, List.setIfInBounds_toArray, List.set_cons_zero, List.set_cons_succ, i64_w, i32_w]
            rfl
          refine take_ (i := 0) (N := some 74) (v := ?_) (a' := ?_) #[true, true, false, false, false, false, false, false, false, false, false, false, false, false, false, false, false, false] rfl rfl (by kernel_rfl) (fun _ _ _ h => h) (Or.inl ⟨by rfl, ?_⟩) hHeld ?_ ?_
          rotate_left
          · rintro w' ⟨s0, s1, s2, s3⟩
            go_simp
            with_reducible rfl
          rotate_left
          · simp only [Act.put, List.setIfInBounds_toArray, List.set_cons_zero, List.set_cons_succ, i64_w, i32_w]
            rfl
          refine one_ (i := 2) (N := some 76) #[true, true, true, false, false, false, false, false, false, false, false, false, false, false, false, false, false, false] rfl rfl (by kernel_rfl) (by decide) (fun K hK => ?_)
          refine goes_ Try.func18 (by kernel_rfl) rfl #[.int .u32 (s : Int)] (by rfl) rfl rfl (by simp only [List.map_toArray, List.map_cons, List.map_nil]; rfl) ?_
          with_reducible refine (len_is s m HS.out HM.out _).mono ?_
          rintro e w3 ⟨rfl, hB3⟩
          refine ⟨_, rfl, ?_⟩
          have hb3 := step_b (below_drew1 (Below.refl X.heap.size X)) hB3
          refine hK.out _ _ ⟨(HSS.out _ hb3).1, (HSS.out _ hb3).2.1, (HSS.out _ hb3).2.2.1, (HSS.out _ hb3).2.2.2⟩ (fun hHeld => ?_)
          clear hK K
          refine norm_ (a' := ?_) ?_ ?_
          rotate_left
          · show Act.put _ (some 76) _ = _
            simp only [Act.put, List.setIfInBounds_toArray, List.set_cons_zero, List.set_cons_succ, i64_w, i32_w]
            rfl
          refine pure_ (i := 3) (N := some 77) (v := ?_) (a' := ?_) #[true, true, true, true, false, false, false, false, false, false, false, false, false, false, false, false, false, false] rfl rfl (by kernel_rfl) (fun _ _ _ h => h) (Or.inl ⟨by rfl, ?_⟩) ?_ ?_
          rotate_left
          · intro w'
            go_simp
            with_reducible rfl
          rotate_left
          · simp only [Act.put, List.setIfInBounds_toArray, List.set_cons_zero, List.set_cons_succ, i64_w, i32_w]
            rfl
          refine pure_ (i := 4) (N := some 78) (v := ?_) (a' := ?_) #[true, true, true, true, true, false, false, false, false, false, false, false, false, false, false, false, false, false] rfl rfl (by kernel_rfl) (fun _ _ _ h => h) (Or.inl ⟨by rfl, ?_⟩) ?_ ?_
          rotate_left
          · intro w'
            go_simp
            with_reducible rfl
          rotate_left
          · simp only [Act.put, List.setIfInBounds_toArray, List.set_cons_zero, List.set_cons_succ, i64_w, i32_w]
            rfl
          refine pure_ (i := 5) (N := some 79) (v := ?_) (a' := ?_) #[true, true, true, true, true, true, false, false, false, false, false, false, false, false, false, false, false, false] rfl rfl (by kernel_rfl) (fun _ _ _ h => h) (Or.inl ⟨by rfl, ?_⟩) ?_ ?_
          rotate_left
          · intro w'
            go_simp
            with_reducible rfl
          rotate_left
          · simp only [Act.put, List.setIfInBounds_toArray, List.set_cons_zero, List.set_cons_succ, i64_w, i32_w]
            rfl
          refine pure_ (i := 7) (N := some 81) (v := ?_) (a' := ?_) #[true, true, true, true, true, true, false, true, false, false, false, false, false, false, false, false, false, false] rfl rfl (by kernel_rfl) (fun _ _ _ h => h) (Or.inl ⟨by rfl, ?_⟩) ?_ ?_
          rotate_left
          · intro w'
            go_simp
            with_reducible rfl
          rotate_left
          · simp only [Act.put, List.setIfInBounds_toArray, List.set_cons_zero, List.set_cons_succ, i64_w, i32_w]
            rfl
          refine one_ (i := 6) (N := some 80) #[true, true, true, true, true, true, true, true, false, false, false, false, false, false, false, false, false, false] rfl rfl (by kernel_rfl) (by decide) (fun K hK => ?_)
          refine goes_ Try.func18 (by kernel_rfl) rfl #[.int .u32 (s : Int)] (by rfl) rfl rfl (by simp only [List.map_toArray, List.map_cons, List.map_nil]; rfl) ?_
          with_reducible refine (len_is s m HS.out HM.out _).mono ?_
          rintro e w4 ⟨rfl, hB4⟩
          refine ⟨_, rfl, ?_⟩
          have hb4 := step_b (by assumption) hB4
          refine hK.out _ _ ⟨(HSS.out _ hb4).1, (HSS.out _ hb4).2.1, (HSS.out _ hb4).2.2.1, (HSS.out _ hb4).2.2.2⟩ (fun hHeld => ?_)
          clear hK K
          refine norm_ (a' := ?_) ?_ ?_
          rotate_left
          · show Act.put _ (some 80) _ = _
            simp only [Act.put, List.setIfInBounds_toArray, List.set_cons_zero, List.set_cons_succ, i64_w, i32_w]
            rfl
          refine one_ (i := 8) (N := some 82) #[true, true, true, true, true, true, true, true, true, false, false, false, false, false, false, false, false, false] rfl rfl (by kernel_rfl) (by decide) (fun K hK => ?_)
          refine goes_ Try.func16 (by kernel_rfl) rfl #[.int .u32 (s : Int), .int .i64 32] (by rfl) rfl rfl (by simp only [List.map_toArray, List.map_cons, List.map_nil]; rfl) ?_
          with_reducible refine (ref_is s m HS.out HM.out _).mono ?_
          rintro e w5 ⟨rfl, hB5⟩
          refine ⟨_, rfl, ?_⟩
          have hb5 := step_b (by assumption) hB5
          refine hK.out _ _ ⟨(HSS.out _ hb5).1, (HSS.out _ hb5).2.1, (HSS.out _ hb5).2.2.1, (HSS.out _ hb5).2.2.2⟩ (fun hHeld => ?_)
          clear hK K
          refine norm_ (a' := ?_) ?_ ?_
          rotate_left
          · show Act.put _ (some 82) _ = _
            simp only [Act.put, List.setIfInBounds_toArray, List.set_cons_zero, List.set_cons_succ, i64_w, i32_w]
            rfl
          refine pure_ (i := 9) (N := some 83) (v := ?_) (a' := ?_) #[true, true, true, true, true, true, true, true, true, true, false, false, false, false, false, false, false, false] rfl rfl (by kernel_rfl) (fun _ _ _ h => h) (Or.inl ⟨by rfl, ?_⟩) ?_ ?_
          rotate_left
          · intro w'
            go_simp
            with_reducible rfl
          rotate_left
          · simp only [Act.put, List.setIfInBounds_toArray, List.set_cons_zero, List.set_cons_succ, i64_w, i32_w]
            rfl
          refine pure_ (i := 10) (N := some 84) (v := ?_) (a' := ?_) #[true, true, true, true, true, true, true, true, true, true, true, false, false, false, false, false, false, false] rfl rfl (by kernel_rfl) (fun _ _ _ h => h) (Or.inl ⟨by rfl, ?_⟩) ?_ ?_
          rotate_left
          · intro w'
            go_simp
            with_reducible rfl
          rotate_left
          · simp only [Act.put, List.setIfInBounds_toArray, List.set_cons_zero, List.set_cons_succ, i64_w, i32_w]
            rfl
          refine pure_ (i := 11) (N := some 85) (v := ?_) (a' := ?_) #[true, true, true, true, true, true, true, true, true, true, true, true, false, false, false, false, false, false] rfl rfl (by kernel_rfl) (fun _ _ _ h => h) (Or.inl ⟨by rfl, ?_⟩) ?_ ?_
          rotate_left
          · intro w'
            go_simp
            with_reducible rfl
          rotate_left
          · simp only [Act.put, List.setIfInBounds_toArray, List.set_cons_zero, List.set_cons_succ, i64_w, i32_w]
            rfl
          refine take_ (i := 12) (N := some 86) (v := ?_) (a' := ?_) #[true, true, true, true, true, true, true, true, true, true, true, true, true, false, false, false, false, false] rfl rfl (by kernel_rfl) (fun _ _ _ h => h) (Or.inl ⟨by rfl, ?_⟩) hHeld ?_ ?_
          rotate_left
          · rintro w' ⟨s0, s1, s2, s3⟩
            go_simp
            with_reducible rfl
          rotate_left
          · simp only [Act.put, List.setIfInBounds_toArray, List.set_cons_zero, List.set_cons_succ, i64_w, i32_w]
            rfl
          refine take_ (i := 13) (N := some 87) (v := ?_) (a' := ?_) #[true, true, true, true, true, true, true, true, true, true, true, true, true, true, false, false, false, false] rfl rfl (by kernel_rfl) (fun _ _ _ h => h) (Or.inl ⟨by rfl, ?_⟩) hHeld ?_ ?_
          rotate_left
          · rintro w' ⟨s0, s1, s2, s3⟩
            go_simp
            with_reducible rfl
          rotate_left
          · simp only [Act.put, List.setIfInBounds_toArray, List.set_cons_zero, List.set_cons_succ, i64_w, i32_w]
            rfl
          refine pure_ (i := 14) (N := some 88) (v := ?_) (a' := ?_) #[true, true, true, true, true, true, true, true, true, true, true, true, true, true, true, false, false, false] rfl rfl (by kernel_rfl) (fun _ _ _ h => h) (Or.inl ⟨by rfl, ?_⟩) ?_ ?_
          rotate_left
          · intro w'
            go_simp
            with_reducible rfl
          rotate_left
          · simp only [Act.put, List.setIfInBounds_toArray, List.set_cons_zero, List.set_cons_succ, i64_w, i32_w]
            rfl
          refine pure_ (i := 15) (N := some 89) (v := ?_) (a' := ?_) #[true, true, true, true, true, true, true, true, true, true, true, true, true, true, true, true, false, false] rfl rfl (by kernel_rfl) (fun _ _ _ h => h) (Or.inl ⟨by rfl, ?_⟩) ?_ ?_
          rotate_left
          · intro w'
            go_simp
            with_reducible rfl
          rotate_left
          · simp only [Act.put, List.setIfInBounds_toArray, List.set_cons_zero, List.set_cons_succ, i64_w, i32_w]
            rfl
          refine pure_ (i := 16) (N := some 90) (v := ?_) (a' := ?_) #[true, true, true, true, true, true, true, true, true, true, true, true, true, true, true, true, true, false] rfl rfl (by kernel_rfl) (fun _ _ _ h => h) (Or.inl ⟨by rfl, ?_⟩) ?_ ?_
          rotate_left
          · intro w'
            go_simp
            with_reducible rfl
          rotate_left
          · simp only [Act.put, List.setIfInBounds_toArray, List.set_cons_zero, List.set_cons_succ, i64_w, i32_w]
            rfl
          refine last_ (i := 17) (N := none) #[true, true, true, true, true, true, true, true, true, true, true, true, true, true, true, true, true, true] rfl rfl (by kernel_rfl) (by decide) (fun K hK => ?_)
          refine skip_ (w1 := ?_) (by rfl) rfl ?_ ?_
          rotate_left
          · go_simp
            rfl
          refine hK.out _ _ ?_
          clear hK K
          refine done_ (by kernel_rfl) ?_

          all_goals (unfold noPanic; gi_wp2)
          have hi := HI.out
          have hXD2 : D2 < X.heap.size := (Array.getElem?_eq_some_iff.1 HK2.out).1
          have hXD : D < X.heap.size := (Array.getElem?_eq_some_iff.1 hi.bD).1
          exact leave_two hb5 hi.b4 hi.bW hi.bD HK2.out (by omega) (by omega) (by omega) rfl
      case stop =>
        rintro D c pre X _ h
        exact h.elim
theorem sets_walk (x0 : Int) (x1 : Int) (W : World) (p0 : (IntKind.u32.min ≤ x0 ∧ x0 ≤ IntKind.u32.max)) (p1 : (IntKind.i64.min ≤ x1 ∧ x1 ≤ IntKind.i64.max)) :
    Calls Try.prog 3 #[.int .u32 x0, .int .i64 x1] W fun e W' => e = .returned (.bool true) ∧ Below W.heap.size W W' := by
  have h0 : 0 ≤ x0 ∧ x0 ≤ 4294967295 := p0
  have h1 : -9223372036854775808 ≤ x1 ∧ x1 ≤ 9223372036854775807 := p1
  obtain ⟨s, rfl⟩ : ∃ s : Nat, x0 = (s : Int) := ⟨x0.toNat, by omega⟩
  have hs : s < 4294967296 := by omega
  exact sets_main s hs x1 h1.1 h1.2 W
end Go.Proofs.Ytnipbfhfaefieaa.Dig
