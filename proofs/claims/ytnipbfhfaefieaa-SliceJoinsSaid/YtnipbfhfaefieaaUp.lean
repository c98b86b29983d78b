/- Texts of this claim, laid together: SlA, SlB, SlC, SlD. -/
import Derived.Test.YtnipbfhfaefieaaUo
import Derived.Deep.LoopGhost
import Derived.Test.YtnipbfhfaefieaaUb
/-! slice: how many cells there are with a vector more; a row of values is read. -/
namespace Go.Proofs.Ytnipbfhfaefieaa.Pv
open Go.RowKit Go Go.Proofs.YtnipbfhfaefieaaW.PrintWords Go.Proofs.YtnipbfhfaefieaaW.PrintMore Go.Proofs.YtnipbfhfaefieaaW.PrintLast Go.Proofs.Ytnipbfhfaefieaa.Bts Go.Proofs.Ytnipbfhfaefieaa.Fra Go.Proofs.Ytnipbfhfaefieaa.ArnP Go.Proofs.Ytnipbfhfaefieaa.Arn Go.Proofs.Ytnipbfhfaefieaa.Ao
/-- A vector's cells, in a list. -/
theorem vec_list {f : Nat → Cell} {n r t : Nat} {l : List V3} (hv : VRep f n r t l) : ∃ L : List Nat, L.length ≤ lvs n + 2 ∧ (∀ j, 0 < j → 0 < vx r t j → j ∈ L) ∧ ∀ j ∈ L, ∀ x ∈ kidsOf (f j).kids, x ∈ L := by
  obtain ⟨_, hn, hv⟩ := hv
  rcases hv with ⟨rfl, rfl, rfl⟩ | ⟨h0, hT, hR⟩
  · exact ⟨[], by simp, fun j h0 hj => by rcases vx_cases (r := 0) (t := 0) h0 hj with ⟨_, q⟩ | ⟨_, q⟩ <;> omega, fun j hj => by cases hj⟩
  · have hmem : ∀ L : List Nat, t ∈ L → (0 < r → r ∈ L) → ∀ j, 0 < j → 0 < vx r t j → j ∈ L := fun L h1 h2 j j0 hj => by
      rcases vx_cases (r := r) (t := t) j0 hj with ⟨rfl, q⟩ | ⟨rfl, q⟩
      · exact h2 q
      · exact h1
    rcases hR with ⟨hm, hr⟩ | ⟨hm, hL⟩ | ⟨h2, hr, _, hkl, hk⟩
    · refine ⟨[t], by simp, hmem _ (by simp) (fun q => by omega), fun j hj x hx => ?_⟩
      have : j = t := by simpa using hj
      subst this
      rw [hT.2.2] at hx
      cases hx
    · refine ⟨[t, r], by simp, hmem _ (by simp) (fun q => by simp), fun j hj x hx => ?_⟩
      have : j = t ∨ j = r := by simpa using hj
      rcases this with rfl | rfl
      · rw [hT.2.2] at hx
        cases hx
      · rw [hL.2.2] at hx
        cases hx
    · refine ⟨t :: r :: kidsOf (f r).kids, ?_, hmem _ (by simp) (fun q => by simp), fun j hj x hx => ?_⟩
      · have hkk := kidsOf_len (f r).kids
        simp only [List.length_cons]
        omega
      · have : j = t ∨ j = r ∨ j ∈ kidsOf (f r).kids := by simpa using hj
        rcases this with rfl | rfl | hj
        · rw [hT.2.2] at hx
          cases hx
        · simp [hx]
        · obtain ⟨z, hz, z0, rfl⟩ := kidsOf_mem hj
          obtain ⟨i, hi⟩ := List.getElem?_of_mem hz
          obtain ⟨k, rfl, hLk⟩ := hk i z hi
          rw [Int.toNat_natCast, hLk.2.2] at hx
          cases hx
section
variable {W W0 : World} {O O0 : Nat → Prop} {a a0 : Nat} {f f1 : Nat → Cell} {live live0 most most0 : Int} {rest : Nat → Nat}
theorem vec_live2 {n r t : Nat} {l : List V3} (h0 : AO W0 O0 a0 f1 live0 most0 rest nop) (h : AO W O a f live most (fun z => rest z + vx r t z) nop) (hk : KeepR rest nop f1 f) (hv : VRep f n r t l) : live ≤ live0 + (lvs n : Int) + 2 := by
  obtain ⟨L, hL, hL1, hL2⟩ := vec_list hv
  obtain ⟨m, _, hm, rfl⟩ := h0.all
  have hP := h.reach (fun j => (0 < j ∧ 0 < (f1 j).r ∧ Same f1 f j) ∨ j ∈ L) (fun j j0 hj => by
    have hj : 0 < rest j + vx r t j := hj
    by_cases e : 0 < rest j
    · exact .inl ⟨j0, h0.ext_lv j0 e, (hk j j0 e).2 rfl⟩
    · exact .inr (hL1 j j0 (by omega))) (fun j hj hq x hx => by
    rcases hq with ⟨q0, q1, q2⟩ | q
    · rw [q2.at_] at hx
      have h3 := (h0.lv_kid ⟨q0, q1, rfl⟩ hx).1
      exact .inl ⟨h3.1, h3.2.1, q2.kid hx⟩
    · exact .inr (hL2 j q x hx))
  have hq := h.live_le (m ++ L) (fun j j0 hr => by
    rw [List.mem_append]
    exact (hP j j0 hr).imp (fun q => (hm j).2 ⟨q.1, q.2.1⟩) id)
  rw [List.length_append] at hq
  omega
theorem row_at {Q : Nat → Prop} {v : Value} {xs : List V3} (h : RowIn kVal W Q v xs) (i : Nat) {k m : Int} {s : ByteArray} (hx : xs[i]? = some (k, m, s)) :
    ∃ ad c, v = .slice (some ad) xs.length c ∧ W.cell? (ad.add (i * 3)) = some (.int .u8 k) ∧ W.cell? ⟨(ad.add (i * 3)).block, (ad.add (i * 3)).off + 1, none⟩ = some (.int .i64 m) ∧ W.cell? ⟨(ad.add (i * 3)).block, (ad.add (i * 3)).off + 2, none⟩ = some (.string s) := by
  obtain ⟨A, c0, e, h1, h2, h3, h4⟩ := h
  have hi := (List.getElem?_eq_some_iff.1 hx).1
  obtain ⟨ad, c, e2, _, hK, hc⟩ := Kd.C_get h3 (0, 0, ⟨#[]⟩) (i : Int) (by omega) (by omega)
  rw [Int.toNat_natCast] at hK hc
  have hg : xs.getD i (0, 0, ⟨#[]⟩) = (k, m, s) := by
    show xs[i]?.getD _ = _
    rw [hx]
    rfl
  rw [hg] at hK
  obtain ⟨_, _, rfl, rfl, ⟨_, _, rfl, rfl, rfl⟩⟩ := hK
  have hc : ∀ j u, [Value.int .u8 k, Value.int .i64 m, Value.string s][j]? = some u → W.cell? (ad.add (i * 3 + j)) = some u := hc
  subst e2
  exact ⟨ad, c0, e, hc 0 _ rfl, by rw [← add_field _ _ 1 (by omega)]; exact hc 1 _ rfl, by rw [← add_field _ _ 2 (by omega)]; exact hc 2 _ rfl⟩
end
end Go.Proofs.Ytnipbfhfaefieaa.Pv
/-! pvec: slice.From. -/
namespace Go.Proofs.Ytnipbfhfaefieaa.Pv
open Go.RowKit Go Go.Proofs.YtnipbfhfaefieaaW.PrintWords Go.Proofs.YtnipbfhfaefieaaW.PrintMore Go.Proofs.YtnipbfhfaefieaaW.PrintLast Go.Proofs.Ytnipbfhfaefieaa.Bts Go.Proofs.Ytnipbfhfaefieaa.Fra Go.Proofs.Ytnipbfhfaefieaa.ArnP Go.Proofs.Ytnipbfhfaefieaa.Arn Go.Proofs.Ytnipbfhfaefieaa.Ao
section
variable {O : Nat → Prop} {a : Nat} {f : Nat → Cell} {live most : Int} {ext rest : Nat → Nat}
abbrev vecB' (w : World) (b : Nat) (n r t : Int) : Prop := w.heap[b]? = some (.cells #[.int .i64 n, .int .i64 r, .int .i64 t] 61 (0, 0))
structure FS (w wr : World) (O : Nat → Prop) (a : Nat) (f : Nat → Cell) (most : Int) (rest : Nat → Nat) (l : List V3) (j r t : Nat) (Oj : Nat → Prop) (fj : Nat → Cell) (lj : Int) : Prop where
  ao : AO wr Oj a fj lj most (fun z => rest z + vx r t z) nop
  rep : VRep fj j r t (l.take j)
  keep : KeepR rest nop f fj
  v : vecB' wr (w.heap.size + 1) j r t
  res : vecB' wr w.heap.size 0 0 0
  own : ∀ i, Oj i → O i ∨ w.heap.size + 2 ≤ i
  fr : Fr O w wr
theorem RR_ne {o : Int} (ho : o ≠ 0) (rest : Nat → Nat) (r t : Nat) : RR rest o r t = rest := by
  funext z
  unfold RR
  rw [if_neg ho]
  rfl
theorem fr3d (w : World) (b : Nat) (x y z : Value) : Fr (fun j => j = b) w (((w.setCell ⟨b, 0, none⟩ x).setCell ⟨b, 1, none⟩ y).setCell ⟨b, 2, none⟩ z) :=
  Fr.put (S := fun j => j = b) (Fr.put (S := fun j => j = b) (Fr.put (S := fun j => j = b) (Fr.refl (fun j => j = b) w) (p := ⟨b, 0, none⟩) (.inl rfl) x) (p := ⟨b, 1, none⟩) (.inl rfl) y) (p := ⟨b, 2, none⟩) (.inl rfl) z
def FromPost (w : World) (O : Nat → Prop) (a : Nat) (f : Nat → Cell) (live most : Int) (rest : Nat → Nat) (l : List V3) (e : Ending) (w' : World) : Prop := (∃ (r t : Nat) (O' : Nat → Prop) (f' : Nat → Cell) (live' : Int), e = .returned (.tuple #[vecV l.length r t, .int .i64 0]) ∧ AO w' O' a f' live' most (fun z => rest z + vx r t z) nop ∧ VRep f' l.length r t l ∧ KeepR rest nop f f' ∧ (∀ j, O' j → O j ∨ w.heap.size ≤ j) ∧ Fr O w w') ∨
      (∃ (c : Int) (O' : Nat → Prop) (f' : Nat → Cell) (live' : Int), e = .returned (.tuple #[vecV 0 0 0, .int .i64 c]) ∧ ((c = 12 ∧ 1024 < l.length) ∨ (c = 5 ∧ most - live < 40)) ∧ AO w' O' a f' live' most rest nop ∧ KeepR rest nop f f' ∧ (∀ j, O' j → O j ∨ w.heap.size ≤ j) ∧ Fr O w w')
set_option maxHeartbeats 4000000 in
set_option maxRecDepth 100000 in
theorem from_calls {Q : Nat → Prop} (l : List V3) (v : Value) (w : World) (h : AO w O a f live most rest nop) (hl : RowIn kVal w Q v l) (hQ : ∀ j, Q j → ¬ O j) (hlen : l.length ≤ 2000) (hb : ∀ x, rest x ≤ 50000000000) :
    Calls Try.prog 40 #[.pointer (some ⟨a, 0, none⟩), v] w (FromPost w O a f live most rest l) := by
  have hlt := h.lt
  obtain ⟨A, cp, ev, hcp, hAn, hC, hAd⟩ := id hl
  subst ev
  have hbx := below_alloc (below_alloc (Below.refl w.heap.size w) (.cells #[.int .i64 0, .int .i64 0, .int .i64 0] 61)) (.cells #[.int .i64 0, .int .i64 0, .int .i64 0] 61)
  have hS0 : FS w ((w.alloc (.cells #[.int .i64 0, .int .i64 0, .int .i64 0] 61)).alloc (.cells #[.int .i64 0, .int .i64 0, .int .i64 0] 61)) O a f most rest l 0 0 0 O f live := ⟨h.below hbx, ⟨by simp, by omega, .inl ⟨rfl, rfl, rfl⟩⟩, KeepR.refl _ _ _, new1 w (.cells #[.int .i64 0, .int .i64 0, .int .i64 0] 61) (.cells #[.int .i64 0, .int .i64 0, .int .i64 0] 61), blk_alloc (blk_new w (.cells #[.int .i64 0, .int .i64 0, .int .i64 0] 61)) (.cells #[.int .i64 0, .int .i64 0, .int .i64 0] 61), fun i hi => .inl hi, Fr.of_new hbx⟩
  have hln : (l.length : Int) ≤ 2000 := by omega
  have HA := Lib.hid h
  have HS0 := Lib.hid hS0
  have HL := Lib.hid hl
  have HQ := Lib.hid hQ
  have HLT := Lib.hid hlt
  have HBD := Lib.hid hb
  clear hbx hS0 hl hQ hlt hC hAd hAn hcp h hb
  go_enter Try.func40, Try.ntmps40
  go_wp2
  go_loopg [13] l.length (fun q i wr => ∃ (j r t : Nat) (Oj : Nat → Prop) (fj : Nat → Cell) (lj : Int), q + j = l.length ∧ i = .int .i64 (j : Int) ∧ FS w wr O a f most rest l j r t Oj fj lj)
  case atStart => exact ⟨0, 0, 0, O, f, live, rfl, rfl, HS0.out⟩
  case round =>
    obtain ⟨j, r, t, Oj, fj, lj, hq, rfl, hS⟩ := hrel
    have HS := Lib.hid hS
    have hwr := hS.fr.size
    have hbv := blk_lt hS.v
    have hnO1 : ¬ Oj (w.heap.size + 1) := fun q => by
      rcases hS.own _ q with e | e
      · have := HLT.out _ e; omega
      · omega
    have hnO0 : ¬ Oj w.heap.size := fun q => by
      rcases hS.own _ q with e | e
      · have := HLT.out _ e; omega
      · omega
    have HNO := Lib.hid (And.intro hnO0 hnO1)
    by_cases hj : j < l.length
    · have hj' : (j : Int) < (l.length : Int) := by omega
      obtain ⟨x, hx⟩ : ∃ x, l[j]? = some x := ⟨l[j], List.getElem?_eq_getElem hj⟩
      obtain ⟨k, m, s⟩ := x
      have hrow := HL.out.fr kVal_K hS.fr HQ.out
      obtain ⟨ad, c2, e2, y0, y1, y2⟩ := row_at hrow j hx
      obtain rfl : A = some ad := by injection e2
      have htk : l.take (j + 1) = l.take j ++ [(k, m, s)] := by
        rw [List.take_succ_eq_append_getElem hj]
        congr 2
        rw [List.getElem?_eq_getElem hj] at hx
        exact Option.some.inj hx
      have hvl := vec_live2 HA.out hS.ao hS.keep hS.rep
      have hj32 : lvs j ≤ 31 := by have := hS.rep.2.1; unfold lvs; omega
      have hlev : lev (lvs j + 1) ≤ 1 := by unfold lev; split <;> omega
      have hv1 := blk_alloc hS.v (.cells #[.int .u8 k, .int .i64 m, .string s] 66)
      have v0 := blk_cell hv1 0
      have v1 := blk_cell hv1 1
      have v2 := blk_cell hv1 2
      have x0 := blk_cell (blk_new wr (.cells #[.int .u8 k, .int .i64 m, .string s] 66)) 0
      have x1 := blk_cell (blk_new wr (.cells #[.int .u8 k, .int .i64 m, .string s] 66)) 1
      have x2 := blk_cell (blk_new wr (.cells #[.int .u8 k, .int .i64 m, .string s] 66)) 2
      have HTK := Lib.hid htk
      have HAX := Lib.hid (hS.ao.below (below_alloc (Below.refl _ _) (.cells #[.int .u8 k, .int .i64 m, .string s] 66)))
      have HV1 := Lib.hid hv1
      have HR1 := Lib.hid (blk_alloc hS.res (.cells #[.int .u8 k, .int .i64 m, .string s] 66))
      have HJ := Lib.hid (And.intro hvl (And.intro hj32 hlev))
      clear hS hrow htk hvl hj32 hlev hv1 hnO0 hnO1 hx e2
      by_cases h1 : j < 1024
      · by_cases h2 : most - lj < (lev (lvs j + 1) : Int) + 3
        · have H2 := Lib.hid h2
          clear h2
          go_wp2_with (first
            | (go_at_call 37; go_loud (refine (vdrop_calls j r t _ HA5.out).mono ?_; rintro e w6 ⟨rfl, O6, f6, live6, hA6, hK6, _, hO6, hF6⟩; have HA6 := Lib.hid hA6; have HK6 := Lib.hid hK6; have HO6 := Lib.hid hO6; have HF6 := Lib.hid hF6; have g0 := hF6.blk HG5.out HNO.out.1; have z0 := blk_frozen g0 0; have z1 := blk_frozen g0 1; have z2 := blk_frozen g0 2; have u0 := blk_cell g0 0; have u1 := blk_cell g0 1; have u2 := blk_cell g0 2; have HG6 := Lib.hid g0; clear hA6 hK6 hO6 hF6 g0))
            | (go_at_call 33; go_loud (refine (push_full (rest := rest) 4294967295 j r t k m s _ HAX.out (by omega) h1 HBD.out (by have := H2.out; omega)).mono ?_; rintro e w5 ⟨rfl, hB5⟩; have g1 := blk_alloc (blk_below HV1.out hB5) (.cells #[.int .i64 0, .int .i64 0, .int .i64 0] 61); have r0 := blk_cell g1 0; have r1 := blk_cell g1 1; have r2 := blk_cell g1 2; have HG5 := Lib.hid (blk_alloc (blk_below HR1.out hB5) (.cells #[.int .i64 0, .int .i64 0, .int .i64 0] 61)); have HA5 := Lib.hid ((HAX.out.below hB5).below (below_alloc (Below.refl _ _) (.cells #[.int .i64 0, .int .i64 0, .int .i64 0] 61))); have HB5 := Lib.hid hB5; clear g1 hB5)))
          refine bodyPost_ret (results_ct rfl _ _ w.heap.size 61 #[.int .i64 0, .int .i64 0, .int .i64 0] (0, 0) _ rfl (ret3 HG6.out _ _ _) Try.underlying61 rfl (by kernel_rfl)) rfl ?_
          have hz := fr3d w6 w.heap.size (.int .i64 0) (.int .i64 0) (.int .i64 0)
          have hsb := HB5.out.size
          have hO6 : ∀ i, O6 i → Oj i ∨ wr.heap.size ≤ i := fun i hi => (HO6.out i hi).imp id (fun q => by simp only [World.size_alloc] at q hsb; omega)
          have hn6 : ¬ O6 w.heap.size := fun q => by
            rcases hO6 _ q with e | e
            · exact HNO.out.1 e
            · omega
          unfold FromPost
          refine .inr ⟨_, O6, f6, live6, rfl, .inr ⟨rfl, by have := HJ.out; have := H2.out; omega⟩, HA6.out.move hz (fun i hi e => by rw [e] at hi; exact hn6 hi), HS.out.keep.trans (HK6.out.mono (fun i hi => hi)), fun i hi => ?_, ?_⟩
          · rcases hO6 i hi with e | e
            · exact (HS.out.own i e).imp id (fun q => by omega)
            · exact .inr (by omega)
          · exact (((((HS.out.fr.more (below_alloc (Below.refl _ _) (.cells #[.int .u8 k, .int .i64 m, .string s] 66))).more HB5.out).more (below_alloc (Below.refl _ _) (.cells #[.int .i64 0, .int .i64 0, .int .i64 0] 61))).then_ HF6.out (fun i hi => (HS.out.own i hi).imp id (fun q => by omega))).then_ hz (fun i hi => .inr (by omega)))
        · have H2 := Lib.hid h2
          clear h2
          go_wp2_with (go_at_call 33; go_loud (refine (push_ok (rest := rest) 4294967295 j r t (l.take j) k m s _ HAX.out HS.out.rep h1 HBD.out (by have := H2.out; omega)).mono ?_; rintro e w5 ⟨r', t', O5, f5, live5, rfl, hA5, _, hV5, hK5, hO5, hF5⟩; rw [RR_ne (by decide)] at hA5 hK5; have HA5 := Lib.hid hA5; have HV5 := Lib.hid hV5; have HK5 := Lib.hid hK5; have HO5 := Lib.hid hO5; have HF5 := Lib.hid hF5; have g1 := hF5.blk HV1.out HNO.out.2; have g0 := hF5.blk HR1.out HNO.out.1; have n1 := blk_alloc g1 (.cells #[.int .i64 ((j : Int) + 1), .int .i64 r', .int .i64 t'] 61); have z0 := blk_frozen n1 0; have z1 := blk_frozen n1 1; have z2 := blk_frozen n1 2; have u0 := blk_cell n1 0; have u1 := blk_cell n1 1; have u2 := blk_cell n1 2; have HG := Lib.hid (And.intro n1 (blk_alloc g0 (.cells #[.int .i64 ((j : Int) + 1), .int .i64 r', .int .i64 t'] 61))); clear hA5 hV5 hK5 hO5 hF5 g1 g0 n1))
          go_roundg (gk - 1)
          case measure => omega
          case rel =>
            have hz := fr3d (w5.alloc (.cells #[.int .i64 ((j : Int) + 1), .int .i64 r', .int .i64 t'] 61)) (w.heap.size + 1) (.int .i64 ((j : Int) + 1)) (.int .i64 r') (.int .i64 t')
            have hO : ∀ i, O5 i → Oj i ∨ wr.heap.size ≤ i := fun i hi => (HO5.out i hi).imp id (fun q => by simp only [World.size_alloc] at q; omega)
            have hn5 : ¬ O5 (w.heap.size + 1) := fun q => by
              rcases hO _ q with e | e
              · exact HNO.out.2 e
              · omega
            refine ⟨j + 1, r', t', O5, f5, live5, by omega, by simp, ⟨(HA5.out.below (below_alloc (Below.refl _ _) (.cells #[.int .i64 ((j : Int) + 1), .int .i64 r', .int .i64 t'] 61))).move hz (fun i hi e => by rw [e] at hi; exact hn5 hi), by rw [HTK.out]; exact HV5.out, HS.out.keep.trans HK5.out, ret3 HG.out.1 _ _ _, hz.blk HG.out.2 (by omega), fun i hi => ?_, ?_⟩⟩
            · rcases hO i hi with e | e
              · exact HS.out.own i e
              · exact .inr (by omega)
            · exact (((HS.out.fr.more (below_alloc (Below.refl _ _) (.cells #[.int .u8 k, .int .i64 m, .string s] 66))).then_ HF5.out (fun i hi => (HS.out.own i hi).imp id (fun q => by omega))).more (below_alloc (Below.refl _ _) (.cells #[.int .i64 ((j : Int) + 1), .int .i64 r', .int .i64 t'] 61))).then_ hz (fun i hi => .inr (by omega))
      · have hj4 : 1024 ≤ (j : Int) := by omega
        go_wp2_with (first
          | (go_at_call 37; go_loud (refine (vdrop_calls j r t _ HA5.out).mono ?_; rintro e w6 ⟨rfl, O6, f6, live6, hA6, hK6, _, hO6, hF6⟩; have HA6 := Lib.hid hA6; have HK6 := Lib.hid hK6; have HO6 := Lib.hid hO6; have HF6 := Lib.hid hF6; have g0 := hF6.blk HG5.out HNO.out.1; have z0 := blk_frozen g0 0; have z1 := blk_frozen g0 1; have z2 := blk_frozen g0 2; have u0 := blk_cell g0 0; have u1 := blk_cell g0 1; have u2 := blk_cell g0 2; have HG6 := Lib.hid g0; clear hA6 hK6 hO6 hF6 g0))
          | (go_at_call 33; go_loud (refine (push_long (a := a) j r t 4294967295 k m s _ hj4).mono ?_; rintro e w5 ⟨rfl, hB5⟩; have g1 := blk_alloc (blk_below HV1.out hB5) (.cells #[.int .i64 0, .int .i64 0, .int .i64 0] 61); have r0 := blk_cell g1 0; have r1 := blk_cell g1 1; have r2 := blk_cell g1 2; have HG5 := Lib.hid (blk_alloc (blk_below HR1.out hB5) (.cells #[.int .i64 0, .int .i64 0, .int .i64 0] 61)); have HA5 := Lib.hid ((HAX.out.below hB5).below (below_alloc (Below.refl _ _) (.cells #[.int .i64 0, .int .i64 0, .int .i64 0] 61))); have HB5 := Lib.hid hB5; clear g1 hB5)))
        refine bodyPost_ret (results_ct rfl _ _ w.heap.size 61 #[.int .i64 0, .int .i64 0, .int .i64 0] (0, 0) _ rfl (ret3 HG6.out _ _ _) Try.underlying61 rfl (by kernel_rfl)) rfl ?_
        have hz := fr3d w6 w.heap.size (.int .i64 0) (.int .i64 0) (.int .i64 0)
        have hsb := HB5.out.size
        have hO6 : ∀ i, O6 i → Oj i ∨ wr.heap.size ≤ i := fun i hi => (HO6.out i hi).imp id (fun q => by simp only [World.size_alloc] at q hsb; omega)
        have hn6 : ¬ O6 w.heap.size := fun q => by
          rcases hO6 _ q with e | e
          · exact HNO.out.1 e
          · omega
        unfold FromPost
        refine .inr ⟨_, O6, f6, live6, rfl, .inl ⟨rfl, by omega⟩, HA6.out.move hz (fun i hi e => by rw [e] at hi; exact hn6 hi), HS.out.keep.trans (HK6.out.mono (fun i hi => hi)), fun i hi => ?_, ?_⟩
        · rcases hO6 i hi with e | e
          · exact (HS.out.own i e).imp id (fun q => by omega)
          · exact .inr (by omega)
        · exact (((((HS.out.fr.more (below_alloc (Below.refl _ _) (.cells #[.int .u8 k, .int .i64 m, .string s] 66))).more HB5.out).more (below_alloc (Below.refl _ _) (.cells #[.int .i64 0, .int .i64 0, .int .i64 0] 61))).then_ HF6.out (fun i hi => (HS.out.own i hi).imp id (fun q => by omega))).then_ hz (fun i hi => .inr (by omega)))
    · have hjl : j = l.length := by omega
      subst hjl
      have hj' : ¬ (l.length : Int) < (l.length : Int) := by omega
      have v0 := blk_cell hS.v 0
      have v1 := blk_cell hS.v 1
      have v2 := blk_cell hS.v 2
      have z0 := blk_frozen hS.res 0
      have z1 := blk_frozen hS.res 1
      have z2 := blk_frozen hS.res 2
      have u0 := blk_cell hS.res 0
      have u1 := blk_cell hS.res 1
      have u2 := blk_cell hS.res 2
      clear hS
      go_wp2
      refine bodyPost_ret (results_ct rfl _ _ w.heap.size 61 #[.int .i64 l.length, .int .i64 r, .int .i64 t] (0, 0) _ rfl (ret3 HS.out.res _ _ _) Try.underlying61 rfl (by kernel_rfl)) rfl ?_
      have hz := fr3d wr w.heap.size (.int .i64 l.length) (.int .i64 r) (.int .i64 t)
      unfold FromPost
      refine .inl ⟨r, t, Oj, fj, lj, rfl, HS.out.ao.move hz (fun i hi e => by rw [e] at hi; exact HNO.out.1 hi), ?_, HS.out.keep, fun i hi => (HS.out.own i hi).imp id (fun q => by omega), HS.out.fr.then_ hz (fun i hi => .inr (by omega))⟩
      have := HS.out.rep
      rwa [List.take_length] at this
end
end Go.Proofs.Ytnipbfhfaefieaa.Pv
/-! slice.All. -/
namespace Go.Proofs.Ytnipbfhfaefieaa.Pv
open Go.RowKit Go Go.Proofs.YtnipbfhfaefieaaW.PrintWords Go.Proofs.YtnipbfhfaefieaaW.PrintMore Go.Proofs.YtnipbfhfaefieaaW.PrintLast Go.Proofs.Ytnipbfhfaefieaa.Bts Go.Proofs.Ytnipbfhfaefieaa.Fra Go.Proofs.Ytnipbfhfaefieaa.ArnP Go.Proofs.Ytnipbfhfaefieaa.Arn Go.Proofs.Ytnipbfhfaefieaa.Ao
section
variable {O : Nat → Prop} {a : Nat} {f : Nat → Cell} {live most : Int} {ext rest : Nat → Nat}
theorem VR.none (w : World) (lo : Nat) : VR w lo (.slice none 0 0) [] := by
  exact ⟨fun j hj => (by cases hj), [], ⟨rfl, .inl ⟨rfl, rfl⟩⟩, ⟨rfl, fun i x hx => (by cases hx)⟩⟩
set_option maxHeartbeats 4000000 in
set_option maxRecDepth 100000 in
theorem all_calls (n r t : Nat) (l : List V3) (w : World) (h : AO w O a f live most ext nop) (hv : VRep f n r t l) (he : ∀ x, vx r t x ≤ ext x) :
    Calls Try.prog 42 #[.pointer (some ⟨a, 0, none⟩), vecV n r t] w fun e w' => ∃ v, e = .returned v ∧ VR w' w.heap.size v l ∧ Below w.heap.size w w' := by
  have hb0 := below_alloc (Below.refl w.heap.size w) (.cells #[.int .i64 n, .int .i64 r, .int .i64 t] 61)
  have hbk := blk_new w (.cells #[.int .i64 n, .int .i64 r, .int .i64 t] 61)
  obtain ⟨W1, hW1⟩ : ∃ W1, w.alloc (.cells #[.int .i64 n, .int .i64 r, .int .i64 t] 61) = W1 := ⟨_, rfl⟩
  have hsz : W1.heap.size = w.heap.size + 1 := by rw [← hW1]; simp
  have hA := h.below hb0
  rw [hW1] at hb0 hbk hA
  have hn : n ≤ 1024 := hv.2.1
  have hln := hv.1
  have v0 : (w.alloc (.cells #[.int .i64 n, .int .i64 r, .int .i64 t] 61)).cell? ⟨w.heap.size, 0, none⟩ = some (.int .i64 (n : Int)) := by rw [hW1]; exact blk_cell hbk 0
  have HA := Lib.hid hA
  have HB := Lib.hid hb0
  have HK := Lib.hid hbk
  have HV := Lib.hid hv
  have HE := Lib.hid he
  have HS := Lib.hid hsz
  have HW := Lib.hid hW1
  have HL := Lib.hid hln
  have hn' : (n : Int) ≤ 1024 := by omega
  clear h hb0 hbk hA hv he hsz hW1 hln
  go_enter Try.func42, Try.ntmps42
  go_wp2
  go_loopg [5, 11] n (fun q v i wr => ∃ j : Nat, q + j = n ∧ i = .int .i64 (j : Int) ∧ VR wr W1.heap.size v (l.take j) ∧ Below W1.heap.size W1 wr)
  case atStart => exact ⟨0, rfl, rfl, VR.none _ _, by rw [HW.out]; exact Below.refl _ _⟩
  case round =>
    obtain ⟨j, hq, rfl, hR, hBw⟩ := hrel
    have HR := Lib.hid hR
    have HBW := Lib.hid hBw
    have hk := blk_below HK.out hBw
    have c0 := blk_cell hk 0
    have c1 := blk_cell hk 1
    have c2 := blk_cell hk 2
    clear hR hBw hk
    by_cases hj : j < n
    · have hj' : (j : Int) < (n : Int) := by omega
      obtain ⟨x, hx⟩ : ∃ x, l[j]? = some x := ⟨l[j]'(by have := HL.out; omega), List.getElem?_eq_getElem _⟩
      obtain ⟨k, m, s⟩ := x
      have htk : l.take (j + 1) = l.take j ++ [(k, m, s)] := by
        have hjl := (List.getElem?_eq_some_iff.1 hx).1
        rw [List.take_succ_eq_append_getElem hjl]
        congr 2
        rw [List.getElem?_eq_getElem hjl] at hx
        exact Option.some.inj hx
      have HX := Lib.hid hx
      have HTK := Lib.hid htk
      have hlj : (l.take j).length ≤ 1024 := by rw [List.length_take]; omega
      clear hx htk
      go_wp2_with (first
        | (go_at_call 36; go_loud (refine (get_calls n r t j l k m s _ (HA.out.below HBW.out) HV.out HE.out HX.out).mono ?_; rintro e w5 ⟨rfl, hB5⟩; have hb5 := HBW.out.trans (hB5.mono HBW.out.size); have HB5 := Lib.hid (below_alloc hb5 (.cells #[.int .u8 k, .int .i64 m, .string s] 66)); have HR5 := Lib.hid (Kd.R_alloc (Kd.R_below HR.out hB5) (.cells #[.int .u8 k, .int .i64 m, .string s] 66)); clear hB5 hb5))
        | (at_builtin; go_loud (refine Kd.R_append kVal (w0 := W1) W1.heap.size rfl (.tmp 21) (.tmp 23) 41 66 (.agg #[.int .u8 0, .int .i64 0, .string (⟨#[]⟩ : ByteArray)]) 32 rfl Try.underlying41 ClV.infoVal rfl (by decide) (by decide) _ (l.take j) (k, m, s) [.int .u8 k, .int .i64 m, .string s] (fun j => W1.heap.size ≤ j) (fun _ => False) rfl (by rw [World.size_alloc]; rfl) ⟨_, _, rfl, rfl, _, _, rfl, rfl, rfl⟩ (fun _ hk => hk.elim) (fun j hj => by have := HB5.out.size; omega) HR5.out HB5.out HB5.out.size (by omega) ?_; intro v2 w2 ho hb _ _; have HR6 := Lib.hid ho; have HB6 := Lib.hid hb; clear ho hb)))
      go_roundg (gk - 1)
      case measure => omega
      case rel => exact ⟨j + 1, by omega, by simp, by rw [HTK.out]; exact HR6.out, HB6.out⟩
    · have hjn : j = n := by omega
      subst hjn
      have hj' : ¬ (j : Int) < (j : Int) := by omega
      go_wp2
      go_ret
      have hR := HR.out
      rw [List.take_of_length_le (by have := HL.out; omega)] at hR
      have hz := HS.out
      exact ⟨_, rfl, Kd.R_lower (Kd.R_mono hR (fun j hj => by omega)) (by omega), HB.out.trans (HBW.out.mono HB.out.size)⟩
end
end Go.Proofs.Ytnipbfhfaefieaa.Pv
/-! slices.Equal of values. -/
namespace Go.Proofs.Ytnipbfhfaefieaa.Pv
open Go.RowKit Go Go.Proofs.YtnipbfhfaefieaaW.PrintWords Go.Proofs.YtnipbfhfaefieaaW.PrintMore Go.Proofs.YtnipbfhfaefieaaW.PrintLast Go.Proofs.Ytnipbfhfaefieaa.Bts Go.Proofs.Ytnipbfhfaefieaa.Fra Go.Proofs.Ytnipbfhfaefieaa.ArnP Go.Proofs.Ytnipbfhfaefieaa.Arn Go.Proofs.Ytnipbfhfaefieaa.Ao
theorem toList_inj1 {a b : ByteArray} (h : a.toList = b.toList) : a = b := by
  rw [ByteArray.toList_eq, ByteArray.toList_eq] at h
  have : a.data = b.data := Array.ext' h
  cases a
  cases b
  simp_all
set_option maxHeartbeats 4000000 in
set_option maxRecDepth 100000 in
theorem equal_calls {Q R : Nat → Prop} (l m : List V3) (v u : Value) (w : World) (hl : RowIn kVal w Q v l) (hm : RowIn kVal w R u m) (hll : l.length ≤ 100000) (hml : m.length ≤ 100000) :
    Calls Try.prog 41 #[v, u] w fun e w' => e = .returned (.bool (decide (l = m))) ∧ Below w.heap.size w w' := by
  obtain ⟨A, c, e1, _⟩ := id hl
  obtain ⟨B, d, e2, _⟩ := id hm
  subst e1 e2
  by_cases hne : l.length = m.length
  · have HL := Lib.hid hl
    have HM := Lib.hid hm
    have hml' : (m.length : Int) ≤ 100000 := by omega
    rw [hne]
    obtain ⟨P9, hP⟩ : ∃ P9 : Bool, decide (l = m) = P9 := ⟨_, rfl⟩
    rw [hP]
    have HP := Lib.hid hP
    have HNE := Lib.hid hne
    clear hl hm hP hne hll hml
    go_enter Try.func41, Try.ntmps41
    go_wp2
    go_loopg [13] m.length (fun q i wr => ∃ j : Nat, q + j = m.length ∧ i = .int .i64 (j : Int) ∧ l.take j = m.take j ∧ Below w.heap.size w wr)
    case atStart => exact ⟨0, rfl, rfl, rfl, Below.refl _ _⟩
    case round =>
      obtain ⟨j, hq, rfl, hT, hB⟩ := hrel
      have HT := Lib.hid hT
      have HB := Lib.hid hB
      clear hT hB
      by_cases hj : j < m.length
      · have hj' : (j : Int) < (m.length : Int) := by omega
        have hjl : j < l.length := by have := HNE.out; omega
        obtain ⟨x, hx⟩ : ∃ x, l[j]? = some x := ⟨l[j], List.getElem?_eq_getElem hjl⟩
        obtain ⟨y, hy⟩ : ∃ y, m[j]? = some y := ⟨m[j], List.getElem?_eq_getElem hj⟩
        obtain ⟨k1, m1, s1⟩ := x
        obtain ⟨k2, m2, s2⟩ := y
        have hFD : Fr (fun _ => False) w wr.drew := Fr.of_new (below_drew1 HB.out)
        obtain ⟨ad, c', e1, x0, x1, x2⟩ := row_at (HL.out.fr kVal_K hFD (fun _ _ h => h)) j hx
        obtain ⟨bd, d', e2, y0, y1, y2⟩ := row_at (HM.out.fr kVal_K hFD (fun _ _ h => h)) j hy
        obtain rfl : A = some ad := by injection e1
        obtain rfl : B = some bd := by injection e2
        have HX := Lib.hid hx
        have HY := Lib.hid hy
        clear hx hy e1 e2 hFD
        obtain ⟨V, hV⟩ : ∃ V, wr.drew = V := ⟨_, rfl⟩
        rw [hV] at x0 x1 x2 y0 y1 y2
        by_cases q1 : k1 = k2
        · subst q1
          by_cases q2 : m1 = m2
          · subst q2
            by_cases q3 : s1.toList = s2.toList
            · obtain rfl : s1 = s2 := toList_inj1 q3
              go_wp2
              refine start_ (n := 9) (S := fun w' => w'.cell? (ad.add (j * 3)) = some (.int .u8 k1) ∧ w'.cell? ⟨(ad.add (j * 3)).block, (ad.add (j * 3)).off + 1, none⟩ = some (.int .i64 m1) ∧ w'.cell? ⟨(ad.add (j * 3)).block, (ad.add (j * 3)).off + 2, none⟩ = some (.string s1) ∧ w'.cell? (bd.add (j * 3)) = some (.int .u8 k1) ∧ w'.cell? ⟨(bd.add (j * 3)).block, (bd.add (j * 3)).off + 1, none⟩ = some (.int .i64 m1) ∧ w'.cell? ⟨(bd.add (j * 3)).block, (bd.add (j * 3)).off + 2, none⟩ = some (.string s1)) (ds := []) #[false, false, false, false, false, false, false, false, false] (by kernel_rfl) rfl rfl ⟨(by rw [hV]; exact x0), (by rw [hV]; exact x1), (by rw [hV]; exact x2), (by rw [hV]; exact y0), (by rw [hV]; exact y1), (by rw [hV]; exact y2)⟩ (fun hHeld => ?_)
              refine pure_ (i := 0) (N := some 16) (v := ?_) (a' := ?_) #[true, false, false, false, false, false, false, false, false] rfl rfl (by kernel_rfl) (fun _ _ _ h => h) (Or.inl ⟨by rfl, ?_⟩) ?_ ?_
              rotate_left
              · intro w'
                go_simp
                with_reducible rfl
              rotate_left
              · simp only [Act.put, List.setIfInBounds_toArray, List.set_cons_zero, List.set_cons_succ]
                rfl
              refine pure_ (i := 1) (N := some 17) (v := ?_) (a' := ?_) #[true, true, false, false, false, false, false, false, false] rfl rfl (by kernel_rfl) (fun _ _ _ h => h) (Or.inl ⟨by rfl, ?_⟩) ?_ ?_
              rotate_left
              · intro w'
                go_simp
                with_reducible rfl
              rotate_left
              · simp only [Act.put, List.setIfInBounds_toArray, List.set_cons_zero, List.set_cons_succ]
                rfl
              refine pure_ (i := 2) (N := some 18) (v := ?_) (a' := ?_) #[true, true, true, false, false, false, false, false, false] rfl rfl (by kernel_rfl) (fun _ _ _ h => h) (Or.inl ⟨by rfl, ?_⟩) ?_ ?_
              rotate_left
              · intro w'
                go_simp
                with_reducible rfl
              rotate_left
              · simp only [Act.put, List.setIfInBounds_toArray, List.set_cons_zero, List.set_cons_succ]
                rfl
              refine pure_ (i := 4) (N := some 20) (v := ?_) (a' := ?_) #[true, true, true, false, true, false, false, false, false] rfl rfl (by kernel_rfl) (fun _ _ _ h => h) (Or.inl ⟨by rfl, ?_⟩) ?_ ?_
              rotate_left
              · intro w'
                go_simp
                with_reducible rfl
              rotate_left
              · simp only [Act.put, List.setIfInBounds_toArray, List.set_cons_zero, List.set_cons_succ]
                rfl
              refine pure_ (i := 5) (N := some 21) (v := ?_) (a' := ?_) #[true, true, true, false, true, true, false, false, false] rfl rfl (by kernel_rfl) (fun _ _ _ h => h) (Or.inl ⟨by rfl, ?_⟩) ?_ ?_
              rotate_left
              · intro w'
                go_simp
                with_reducible rfl
              rotate_left
              · simp only [Act.put, List.setIfInBounds_toArray, List.set_cons_zero, List.set_cons_succ]
                rfl
              refine pure_ (i := 6) (N := some 22) (v := ?_) (a' := ?_) #[true, true, true, false, true, true, true, false, false] rfl rfl (by kernel_rfl) (fun _ _ _ h => h) (Or.inl ⟨by rfl, ?_⟩) ?_ ?_
              rotate_left
              · intro w'
                go_simp
                with_reducible rfl
              rotate_left
              · simp only [Act.put, List.setIfInBounds_toArray, List.set_cons_zero, List.set_cons_succ]
                rfl
              refine take_ (i := 3) (N := some 19) (v := ?_) (a' := ?_) #[true, true, true, true, true, true, true, false, false] rfl rfl (by kernel_rfl) (fun _ _ _ h => h) (Or.inl ⟨by rfl, ?_⟩) hHeld ?_ ?_
              rotate_left
              · rintro w' ⟨s0, s1, s2, s3, s4, s5⟩
                go_simp
                with_reducible rfl
              rotate_left
              · simp only [Act.put, List.setIfInBounds_toArray, List.set_cons_zero, List.set_cons_succ]
                rfl
              refine take_ (i := 7) (N := some 23) (v := ?_) (a' := ?_) #[true, true, true, true, true, true, true, true, false] rfl rfl (by kernel_rfl) (fun _ _ _ h => h) (Or.inl ⟨by rfl, ?_⟩) hHeld ?_ ?_
              rotate_left
              · rintro w' ⟨s0, s1, s2, s3, s4, s5⟩
                go_simp
                with_reducible rfl
              rotate_left
              · simp only [Act.put, List.setIfInBounds_toArray, List.set_cons_zero, List.set_cons_succ]
                rfl
              refine pure_ (i := 8) (N := some 24) (v := ?_) (a' := ?_) #[true, true, true, true, true, true, true, true, true] rfl rfl (by kernel_rfl) (fun _ _ _ h => h) (Or.inl ⟨by rfl, ?_⟩) ?_ ?_
              rotate_left
              · intro w'
                go_simp
                with_reducible rfl
              rotate_left
              · simp only [Act.put, List.setIfInBounds_toArray, List.set_cons_zero, List.set_cons_succ]
                rfl
              refine done_ (by kernel_rfl) ?_

              go_wp2
              go_roundg (gk - 1)
              case measure => omega
              case rel =>
                refine ⟨j + 1, by omega, by simp, ?_, by rw [← hV]; exact below_drew1 HB.out⟩
                have h1 := HX.out
                have h2 := HY.out
                rw [List.getElem?_eq_getElem hjl] at h1
                rw [List.getElem?_eq_getElem hj] at h2
                rw [List.take_succ_eq_append_getElem hjl, List.take_succ_eq_append_getElem hj, HT.out, Option.some.inj h1, Option.some.inj h2]
            · go_wp2
              refine start_ (n := 9) (S := fun w' => w'.cell? (ad.add (j * 3)) = some (.int .u8 k1) ∧ w'.cell? ⟨(ad.add (j * 3)).block, (ad.add (j * 3)).off + 1, none⟩ = some (.int .i64 m1) ∧ w'.cell? ⟨(ad.add (j * 3)).block, (ad.add (j * 3)).off + 2, none⟩ = some (.string s1) ∧ w'.cell? (bd.add (j * 3)) = some (.int .u8 k1) ∧ w'.cell? ⟨(bd.add (j * 3)).block, (bd.add (j * 3)).off + 1, none⟩ = some (.int .i64 m1) ∧ w'.cell? ⟨(bd.add (j * 3)).block, (bd.add (j * 3)).off + 2, none⟩ = some (.string s2)) (ds := []) #[false, false, false, false, false, false, false, false, false] (by kernel_rfl) rfl rfl ⟨(by rw [hV]; exact x0), (by rw [hV]; exact x1), (by rw [hV]; exact x2), (by rw [hV]; exact y0), (by rw [hV]; exact y1), (by rw [hV]; exact y2)⟩ (fun hHeld => ?_)
              refine pure_ (i := 0) (N := some 16) (v := ?_) (a' := ?_) #[true, false, false, false, false, false, false, false, false] rfl rfl (by kernel_rfl) (fun _ _ _ h => h) (Or.inl ⟨by rfl, ?_⟩) ?_ ?_
              rotate_left
              · intro w'
                go_simp
                with_reducible rfl
              rotate_left
              · simp only [Act.put, List.setIfInBounds_toArray, List.set_cons_zero, List.set_cons_succ]
                rfl
              refine pure_ (i := 1) (N := some 17) (v := ?_) (a' := ?_) #[true, true, false, false, false, false, false, false, false] rfl rfl (by kernel_rfl) (fun _ _ _ h => h) (Or.inl ⟨by rfl, ?_⟩) ?_ ?_
              rotate_left
              · intro w'
                go_simp
                with_reducible rfl
              rotate_left
              · simp only [Act.put, List.setIfInBounds_toArray, List.set_cons_zero, List.set_cons_succ]
                rfl
              refine pure_ (i := 2) (N := some 18) (v := ?_) (a' := ?_) #[true, true, true, false, false, false, false, false, false] rfl rfl (by kernel_rfl) (fun _ _ _ h => h) (Or.inl ⟨by rfl, ?_⟩) ?_ ?_
              rotate_left
              · intro w'
                go_simp
                with_reducible rfl
              rotate_left
              · simp only [Act.put, List.setIfInBounds_toArray, List.set_cons_zero, List.set_cons_succ]
                rfl
              refine pure_ (i := 4) (N := some 20) (v := ?_) (a' := ?_) #[true, true, true, false, true, false, false, false, false] rfl rfl (by kernel_rfl) (fun _ _ _ h => h) (Or.inl ⟨by rfl, ?_⟩) ?_ ?_
              rotate_left
              · intro w'
                go_simp
                with_reducible rfl
              rotate_left
              · simp only [Act.put, List.setIfInBounds_toArray, List.set_cons_zero, List.set_cons_succ]
                rfl
              refine pure_ (i := 5) (N := some 21) (v := ?_) (a' := ?_) #[true, true, true, false, true, true, false, false, false] rfl rfl (by kernel_rfl) (fun _ _ _ h => h) (Or.inl ⟨by rfl, ?_⟩) ?_ ?_
              rotate_left
              · intro w'
                go_simp
                with_reducible rfl
              rotate_left
              · simp only [Act.put, List.setIfInBounds_toArray, List.set_cons_zero, List.set_cons_succ]
                rfl
              refine pure_ (i := 6) (N := some 22) (v := ?_) (a' := ?_) #[true, true, true, false, true, true, true, false, false] rfl rfl (by kernel_rfl) (fun _ _ _ h => h) (Or.inl ⟨by rfl, ?_⟩) ?_ ?_
              rotate_left
              · intro w'
                go_simp
                with_reducible rfl
              rotate_left
              · simp only [Act.put, List.setIfInBounds_toArray, List.set_cons_zero, List.set_cons_succ]
                rfl
              refine take_ (i := 3) (N := some 19) (v := ?_) (a' := ?_) #[true, true, true, true, true, true, true, false, false] rfl rfl (by kernel_rfl) (fun _ _ _ h => h) (Or.inl ⟨by rfl, ?_⟩) hHeld ?_ ?_
              rotate_left
              · rintro w' ⟨s0, s1, s2, s3, s4, s5⟩
                go_simp
                with_reducible rfl
              rotate_left
              · simp only [Act.put, List.setIfInBounds_toArray, List.set_cons_zero, List.set_cons_succ]
                rfl
              refine take_ (i := 7) (N := some 23) (v := ?_) (a' := ?_) #[true, true, true, true, true, true, true, true, false] rfl rfl (by kernel_rfl) (fun _ _ _ h => h) (Or.inl ⟨by rfl, ?_⟩) hHeld ?_ ?_
              rotate_left
              · rintro w' ⟨s0, s1, s2, s3, s4, s5⟩
                go_simp
                with_reducible rfl
              rotate_left
              · simp only [Act.put, List.setIfInBounds_toArray, List.set_cons_zero, List.set_cons_succ]
                rfl
              refine pure_ (i := 8) (N := some 24) (v := ?_) (a' := ?_) #[true, true, true, true, true, true, true, true, true] rfl rfl (by kernel_rfl) (fun _ _ _ h => h) (Or.inl ⟨by rfl, ?_⟩) ?_ ?_
              rotate_left
              · intro w'
                go_simp
                with_reducible rfl
              rotate_left
              · simp only [Act.put, List.setIfInBounds_toArray, List.set_cons_zero, List.set_cons_succ]
                rfl
              refine done_ (by kernel_rfl) ?_

              go_wp2
              go_ret
              refine ⟨?_, by first | exact below_drew1 HB.out | (rw [← hV]; exact below_drew1 HB.out)⟩
              have hP := HP.out
              rw [decide_eq_false (fun e => by rw [e] at HX; have h2 := HX.out.symm.trans HY.out; simp at h2; exact q3 (by rw [h2]))] at hP
              rw [← hP]
              rfl
          · go_wp2
            refine start_ (n := 9) (S := fun w' => w'.cell? (ad.add (j * 3)) = some (.int .u8 k1) ∧ w'.cell? ⟨(ad.add (j * 3)).block, (ad.add (j * 3)).off + 1, none⟩ = some (.int .i64 m1) ∧ w'.cell? ⟨(ad.add (j * 3)).block, (ad.add (j * 3)).off + 2, none⟩ = some (.string s1) ∧ w'.cell? (bd.add (j * 3)) = some (.int .u8 k1) ∧ w'.cell? ⟨(bd.add (j * 3)).block, (bd.add (j * 3)).off + 1, none⟩ = some (.int .i64 m2) ∧ w'.cell? ⟨(bd.add (j * 3)).block, (bd.add (j * 3)).off + 2, none⟩ = some (.string s2)) (ds := []) #[false, false, false, false, false, false, false, false, false] (by kernel_rfl) rfl rfl ⟨(by rw [hV]; exact x0), (by rw [hV]; exact x1), (by rw [hV]; exact x2), (by rw [hV]; exact y0), (by rw [hV]; exact y1), (by rw [hV]; exact y2)⟩ (fun hHeld => ?_)
            refine pure_ (i := 0) (N := some 16) (v := ?_) (a' := ?_) #[true, false, false, false, false, false, false, false, false] rfl rfl (by kernel_rfl) (fun _ _ _ h => h) (Or.inl ⟨by rfl, ?_⟩) ?_ ?_
            rotate_left
            · intro w'
              go_simp
              with_reducible rfl
            rotate_left
            · simp only [Act.put, List.setIfInBounds_toArray, List.set_cons_zero, List.set_cons_succ]
              rfl
            refine pure_ (i := 1) (N := some 17) (v := ?_) (a' := ?_) #[true, true, false, false, false, false, false, false, false] rfl rfl (by kernel_rfl) (fun _ _ _ h => h) (Or.inl ⟨by rfl, ?_⟩) ?_ ?_
            rotate_left
            · intro w'
              go_simp
              with_reducible rfl
            rotate_left
            · simp only [Act.put, List.setIfInBounds_toArray, List.set_cons_zero, List.set_cons_succ]
              rfl
            refine pure_ (i := 2) (N := some 18) (v := ?_) (a' := ?_) #[true, true, true, false, false, false, false, false, false] rfl rfl (by kernel_rfl) (fun _ _ _ h => h) (Or.inl ⟨by rfl, ?_⟩) ?_ ?_
            rotate_left
            · intro w'
              go_simp
              with_reducible rfl
            rotate_left
            · simp only [Act.put, List.setIfInBounds_toArray, List.set_cons_zero, List.set_cons_succ]
              rfl
            refine pure_ (i := 4) (N := some 20) (v := ?_) (a' := ?_) #[true, true, true, false, true, false, false, false, false] rfl rfl (by kernel_rfl) (fun _ _ _ h => h) (Or.inl ⟨by rfl, ?_⟩) ?_ ?_
            rotate_left
            · intro w'
              go_simp
              with_reducible rfl
            rotate_left
            · simp only [Act.put, List.setIfInBounds_toArray, List.set_cons_zero, List.set_cons_succ]
              rfl
            refine pure_ (i := 5) (N := some 21) (v := ?_) (a' := ?_) #[true, true, true, false, true, true, false, false, false] rfl rfl (by kernel_rfl) (fun _ _ _ h => h) (Or.inl ⟨by rfl, ?_⟩) ?_ ?_
            rotate_left
            · intro w'
              go_simp
              with_reducible rfl
            rotate_left
            · simp only [Act.put, List.setIfInBounds_toArray, List.set_cons_zero, List.set_cons_succ]
              rfl
            refine pure_ (i := 6) (N := some 22) (v := ?_) (a' := ?_) #[true, true, true, false, true, true, true, false, false] rfl rfl (by kernel_rfl) (fun _ _ _ h => h) (Or.inl ⟨by rfl, ?_⟩) ?_ ?_
            rotate_left
            · intro w'
              go_simp
              with_reducible rfl
            rotate_left
            · simp only [Act.put, List.setIfInBounds_toArray, List.set_cons_zero, List.set_cons_succ]
              rfl
            refine take_ (i := 3) (N := some 19) (v := ?_) (a' := ?_) #[true, true, true, true, true, true, true, false, false] rfl rfl (by kernel_rfl) (fun _ _ _ h => h) (Or.inl ⟨by rfl, ?_⟩) hHeld ?_ ?_
            rotate_left
            · rintro w' ⟨s0, s1, s2, s3, s4, s5⟩
              go_simp
              with_reducible rfl
            rotate_left
            · simp only [Act.put, List.setIfInBounds_toArray, List.set_cons_zero, List.set_cons_succ]
              rfl
            refine take_ (i := 7) (N := some 23) (v := ?_) (a' := ?_) #[true, true, true, true, true, true, true, true, false] rfl rfl (by kernel_rfl) (fun _ _ _ h => h) (Or.inl ⟨by rfl, ?_⟩) hHeld ?_ ?_
            rotate_left
            · rintro w' ⟨s0, s1, s2, s3, s4, s5⟩
              go_simp
              with_reducible rfl
            rotate_left
            · simp only [Act.put, List.setIfInBounds_toArray, List.set_cons_zero, List.set_cons_succ]
              rfl
            refine pure_ (i := 8) (N := some 24) (v := ?_) (a' := ?_) #[true, true, true, true, true, true, true, true, true] rfl rfl (by kernel_rfl) (fun _ _ _ h => h) (Or.inl ⟨by rfl, ?_⟩) ?_ ?_
            rotate_left
            · intro w'
              go_simp
              with_reducible rfl
            rotate_left
            · simp only [Act.put, List.setIfInBounds_toArray, List.set_cons_zero, List.set_cons_succ]
              rfl
            refine done_ (by kernel_rfl) ?_

            go_wp2
            go_ret
            refine ⟨?_, by first | exact below_drew1 HB.out | (rw [← hV]; exact below_drew1 HB.out)⟩
            have hP := HP.out
            rw [decide_eq_false (fun e => by rw [e] at HX; have h2 := HX.out.symm.trans HY.out; simp at h2; exact q2 h2.1)] at hP
            rw [← hP]
            rfl
        · go_wp2
          refine start_ (n := 9) (S := fun w' => w'.cell? (ad.add (j * 3)) = some (.int .u8 k1) ∧ w'.cell? ⟨(ad.add (j * 3)).block, (ad.add (j * 3)).off + 1, none⟩ = some (.int .i64 m1) ∧ w'.cell? ⟨(ad.add (j * 3)).block, (ad.add (j * 3)).off + 2, none⟩ = some (.string s1) ∧ w'.cell? (bd.add (j * 3)) = some (.int .u8 k2) ∧ w'.cell? ⟨(bd.add (j * 3)).block, (bd.add (j * 3)).off + 1, none⟩ = some (.int .i64 m2) ∧ w'.cell? ⟨(bd.add (j * 3)).block, (bd.add (j * 3)).off + 2, none⟩ = some (.string s2)) (ds := []) #[false, false, false, false, false, false, false, false, false] (by kernel_rfl) rfl rfl ⟨(by rw [hV]; exact x0), (by rw [hV]; exact x1), (by rw [hV]; exact x2), (by rw [hV]; exact y0), (by rw [hV]; exact y1), (by rw [hV]; exact y2)⟩ (fun hHeld => ?_)
          refine pure_ (i := 0) (N := some 16) (v := ?_) (a' := ?_) #[true, false, false, false, false, false, false, false, false] rfl rfl (by kernel_rfl) (fun _ _ _ h => h) (Or.inl ⟨by rfl, ?_⟩) ?_ ?_
          rotate_left
          · intro w'
            go_simp
            with_reducible rfl
          rotate_left
          · simp only [Act.put, List.setIfInBounds_toArray, List.set_cons_zero, List.set_cons_succ]
            rfl
          refine pure_ (i := 1) (N := some 17) (v := ?_) (a' := ?_) #[true, true, false, false, false, false, false, false, false] rfl rfl (by kernel_rfl) (fun _ _ _ h => h) (Or.inl ⟨by rfl, ?_⟩) ?_ ?_
          rotate_left
          · intro w'
            go_simp
            with_reducible rfl
          rotate_left
          · simp only [Act.put, List.setIfInBounds_toArray, List.set_cons_zero, List.set_cons_succ]
            rfl
          refine pure_ (i := 2) (N := some 18) (v := ?_) (a' := ?_) #[true, true, true, false, false, false, false, false, false] rfl rfl (by kernel_rfl) (fun _ _ _ h => h) (Or.inl ⟨by rfl, ?_⟩) ?_ ?_
          rotate_left
          · intro w'
            go_simp
            with_reducible rfl
          rotate_left
          · simp only [Act.put, List.setIfInBounds_toArray, List.set_cons_zero, List.set_cons_succ]
            rfl
          refine pure_ (i := 4) (N := some 20) (v := ?_) (a' := ?_) #[true, true, true, false, true, false, false, false, false] rfl rfl (by kernel_rfl) (fun _ _ _ h => h) (Or.inl ⟨by rfl, ?_⟩) ?_ ?_
          rotate_left
          · intro w'
            go_simp
            with_reducible rfl
          rotate_left
          · simp only [Act.put, List.setIfInBounds_toArray, List.set_cons_zero, List.set_cons_succ]
            rfl
          refine pure_ (i := 5) (N := some 21) (v := ?_) (a' := ?_) #[true, true, true, false, true, true, false, false, false] rfl rfl (by kernel_rfl) (fun _ _ _ h => h) (Or.inl ⟨by rfl, ?_⟩) ?_ ?_
          rotate_left
          · intro w'
            go_simp
            with_reducible rfl
          rotate_left
          · simp only [Act.put, List.setIfInBounds_toArray, List.set_cons_zero, List.set_cons_succ]
            rfl
          refine pure_ (i := 6) (N := some 22) (v := ?_) (a' := ?_) #[true, true, true, false, true, true, true, false, false] rfl rfl (by kernel_rfl) (fun _ _ _ h => h) (Or.inl ⟨by rfl, ?_⟩) ?_ ?_
          rotate_left
          · intro w'
            go_simp
            with_reducible rfl
          rotate_left
          · simp only [Act.put, List.setIfInBounds_toArray, List.set_cons_zero, List.set_cons_succ]
            rfl
          refine take_ (i := 3) (N := some 19) (v := ?_) (a' := ?_) #[true, true, true, true, true, true, true, false, false] rfl rfl (by kernel_rfl) (fun _ _ _ h => h) (Or.inl ⟨by rfl, ?_⟩) hHeld ?_ ?_
          rotate_left
          · rintro w' ⟨s0, s1, s2, s3, s4, s5⟩
            go_simp
            with_reducible rfl
          rotate_left
          · simp only [Act.put, List.setIfInBounds_toArray, List.set_cons_zero, List.set_cons_succ]
            rfl
          refine take_ (i := 7) (N := some 23) (v := ?_) (a' := ?_) #[true, true, true, true, true, true, true, true, false] rfl rfl (by kernel_rfl) (fun _ _ _ h => h) (Or.inl ⟨by rfl, ?_⟩) hHeld ?_ ?_
          rotate_left
          · rintro w' ⟨s0, s1, s2, s3, s4, s5⟩
            go_simp
            with_reducible rfl
          rotate_left
          · simp only [Act.put, List.setIfInBounds_toArray, List.set_cons_zero, List.set_cons_succ]
            rfl
          refine pure_ (i := 8) (N := some 24) (v := ?_) (a' := ?_) #[true, true, true, true, true, true, true, true, true] rfl rfl (by kernel_rfl) (fun _ _ _ h => h) (Or.inl ⟨by rfl, ?_⟩) ?_ ?_
          rotate_left
          · intro w'
            go_simp
            with_reducible rfl
          rotate_left
          · simp only [Act.put, List.setIfInBounds_toArray, List.set_cons_zero, List.set_cons_succ]
            rfl
          refine done_ (by kernel_rfl) ?_

          go_wp2
          go_ret
          refine ⟨?_, by first | exact below_drew1 HB.out | (rw [← hV]; exact below_drew1 HB.out)⟩
          have hP := HP.out
          rw [decide_eq_false (fun e => by rw [e] at HX; have h2 := HX.out.symm.trans HY.out; simp at h2; exact q1 h2.1)] at hP
          rw [← hP]
          rfl
      · have hjm : j = m.length := by omega
        subst hjm
        have hj' : ¬ (m.length : Int) < (m.length : Int) := by omega
        go_wp2
        go_ret
        refine ⟨?_, HB.out⟩
        have hT := HT.out
        have hne := HNE.out
        rw [List.take_length, ← hne, List.take_length] at hT
        have hP := HP.out
        rw [decide_eq_true hT] at hP
        rw [← hP]
        rfl
  · rw [decide_eq_false (fun e => hne (by rw [e]))]
    have hne' : ¬ (l.length : Int) = (m.length : Int) := by omega
    clear hl hm hne
    go_enter Try.func41, Try.ntmps41
    go_wp2
    go_ret
    exact ⟨rfl, Below.refl _ _⟩
end Go.Proofs.Ytnipbfhfaefieaa.Pv
