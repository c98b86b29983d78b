/- Texts of this claim, laid together: SlH, SlI, SlJ, SlK. -/
import Derived.Test.YtnipbfhfaefieaaUq
/-! slice: SliceRoom. -/
namespace Go.Proofs.Ytnipbfhfaefieaa.Sl
open Go.RowKit Go Go.Proofs.YtnipbfhfaefieaaW.PrintWords Go.Proofs.YtnipbfhfaefieaaW.PrintMore Go.Proofs.YtnipbfhfaefieaaW.PrintLast Go.Proofs.Ytnipbfhfaefieaa.Bts Go.Proofs.Ytnipbfhfaefieaa.Fra Go.Proofs.Ytnipbfhfaefieaa.ArnP Go.Proofs.Ytnipbfhfaefieaa.Arn Go.Proofs.Ytnipbfhfaefieaa.Ao Go.Proofs.Ytnipbfhfaefieaa.Pv
theorem C_nil {W : World} : kVal.C W none ([] : List V3).length [] := by
  exact ⟨rfl, by simp, fun h => absurd h (by simp)⟩
theorem mod_nat (x : Int) (n : Nat) (hn : 0 < n) (hb : n ≤ 100000) : ∃ k : Nat, (IntKind.u64.wrap x).tmod (n : Int) = k ∧ k < n ∧ wrap64 (k : Int) = k := by
  have h1 : 0 ≤ IntKind.u64.wrap x := (by rw [IntKind.wrap_u64]; omega)
  have h2 : 0 ≤ (IntKind.u64.wrap x).tmod (n : Int) := Int.tmod_nonneg _ h1
  have h3 : (IntKind.u64.wrap x).tmod (n : Int) < (n : Int) := Int.tmod_lt_of_pos _ (by omega)
  obtain ⟨m, hm⟩ : ∃ m, (IntKind.u64.wrap x).tmod (n : Int) = m := ⟨_, rfl⟩
  rw [hm] at h2 h3 ⊢
  refine ⟨m.toNat, by omega, by omega, ?_⟩
  unfold wrap64
  omega
theorem from_room {O Q : Nat → Prop} {a : Nat} {most : Int} (k : Nat) (l : List V3) (v : Value) (w : World) (h : AO w O a f0 0 most no0 nop) (hl : RowIn kVal w Q v l) (hQ : ∀ j, Q j → ¬ O j) (hk : l.length = k) (hk2 : k ≤ 1024) :
    Calls Try.prog 40 #[.pointer (some ⟨a, 0, none⟩), v] w fun e w' => (∃ (r t : Nat) (O' : Nat → Prop) (f' : Nat → Cell) (live' : Int), e = .returned (.tuple #[vecV k r t, .int .i64 0]) ∧ Hid (AO w' O' a f' live' most (fun z => no0 z + vx r t z) nop) ∧ Hid (VRep f' k r t l) ∧ Hid (Fr O w w')) ∨ (∃ (O' : Nat → Prop) (f' : Nat → Cell), e = .returned (.tuple #[vecV 0 0 0, .int .i64 5]) ∧ Hid (AO w' O' a f' 0 most no0 nop) ∧ Hid (Fr O w w')) := by
  refine (from_calls l v w h hl hQ (by omega) (fun _ => Nat.zero_le _)).mono ?_
  intro e w' hp
  unfold FromPost at hp
  rw [hk] at hp
  rcases hp with ⟨r, t, O', f', live', he, hA, hV, _, hO, hF⟩ | ⟨c, O', f', live', he, hc, hA, _, hO, hF⟩
  · exact .inl ⟨r, t, O', f', live', he, Lib.hid hA, Lib.hid hV, Lib.hid hF⟩
  · have hz := hA.none_live (fun _ _ => rfl)
    subst hz
    have hc5 : c = 5 := by omega
    subst hc5
    exact .inr ⟨O', f', he, Lib.hid hA, Lib.hid hF⟩
set_option maxHeartbeats 4000000 in
set_option maxRecDepth 100000 in
theorem room_walk (x0 : Int) (x1 : Int) (W : World) (p0 : (IntKind.i64.min ≤ x0 ∧ x0 ≤ IntKind.i64.max)) (p1 : (IntKind.i64.min ≤ x1 ∧ x1 ≤ IntKind.i64.max)) :
    Calls Try.prog 8 #[.int .i64 x0, .int .i64 x1] W fun e W' => e = .returned (.bool true) ∧ Below W.heap.size W W' := by
  clear p0 p1
  obtain ⟨d, hd, hd2, hd3⟩ := mod_nat x1 60 (by decide) (by decide)
  obtain ⟨k, hk, hk2, hk3⟩ := mod_nat x0 1025 (by decide) (by decide)
  have hd : (IntKind.u64.wrap x1).tmod 60 = d := hd
  have hk : (IntKind.u64.wrap x0).tmod 1025 = k := hk
  have hd4 : wrap64 (1 + (d : Int)) = 1 + d := by unfold wrap64; omega
  have hlen := fillL_len [] k
  have HLEN := Lib.hid hlen
  clear hlen
  go_enter Try.func8, Try.ntmps8
  go_wp2_with (first
    | (go_at_call 22; go_loud (refine (live_AO _ (HAer.out.below (below_alloc (Below.refl _ _) (.cells #[.int .i64 0, .int .i64 0, .int .i64 0] 61)))).mono ?_; rintro e w5 ⟨rfl, rfl⟩))
    | (go_at_call 41; go_loud (refine (equal_calls (fillL [] k) (fillL [] k) v5 u3 _ (RowIn.of_R HV5.out) (((HR3.out.fr kVal_K HF4.out (fun j hj hj2 => by have := HLT.out j hj2; omega)).fr kVal_K (Fr.of_new (S := fun _ => False) (below_alloc (Below.refl w4.heap.size w4) (.cells #[.int .i64 (k : Int), .int .i64 r, .int .i64 t] 61))) (fun _ _ h => h)).fr kVal_K (Fr.of_new (S := fun _ => False) HB5.out) (fun _ _ h => h)) (by rw [HLEN.out]; omega) (by rw [HLEN.out]; omega)).mono ?_; rintro e w6 ⟨rfl, hB6⟩; have HB6 := Lib.hid hB6; clear hB6))
    | (go_at_call 42; go_loud (refine (all_calls k r t (fillL [] k) _ (HAok.out.below (below_alloc (Below.refl _ _) (.cells #[.int .i64 (k : Int), .int .i64 r, .int .i64 t] 61))) HV4.out (fun _ => Nat.le_add_left _ _)).mono ?_; rintro e w5 ⟨v5, rfl, hV5, hB5⟩; have HV5 := Lib.hid hV5; have HB5 := Lib.hid hB5; clear hV5 hB5))
    | (go_at_call 40; go_loud (refine (from_room (Q := fun j => w2.heap.size ≤ j ∧ j < w3.heap.size) k (fillL [] k) u3 _ HA3.out HR3.out (fun j hj hj2 => by have := HLT.out j hj2; omega) HLEN.out (by omega)).mono ?_; rintro e w4 (⟨r, t, O4, f4, live4, rfl, HAok, HV4, HF4⟩ | ⟨O4, f4, rfl, HAer, HF4⟩)))
    | (go_at_call 39; go_loud (refine (fill_calls [] none 0 k _ C_nil (by omega) (by decide)).mono ?_; rintro e w3 ⟨u3, rfl, hR3, hB3⟩; have HLT := Lib.hid HA2.out.lt; have HA3 := Lib.hid (HA2.out.below hB3); have HR3 := Lib.hid (row_lt (RowIn.of_R hR3) (fun j hj hjl => (⟨hj, hjl⟩ : w2.heap.size ≤ j ∧ j < w3.heap.size))); have HB3 := Lib.hid hB3; clear hR3 hB3))
    | (go_at_call 20; go_loud (refine (new_AO (1 + (d : Int)) _ (by omega) (by omega)).mono ?_; rintro e w2 ⟨a, O, rfl, hA2, hO2, hB2⟩; rw [no0_vx] at hA2; have HA2 := Lib.hid hA2; have HO2 := Lib.hid (fun j hj => Nat.le_trans HB1.out.size (hO2 j hj)); have HB2 := Lib.hid (HB1.out.trans (hB2.mono HB1.out.size)); clear hA2 hO2 hB2))
    | (go_at_call 38; go_loud (refine (lives_calls _).mono ?_; rintro e w1 ⟨rfl, hb1⟩; have HB1 := Lib.hid hb1; clear hb1)))
  · go_ret
    have hF := (((((Fr.of_new (S := fun j => W.heap.size ≤ j) HB2.out).more HB3.out).then_ HF4.out (fun i hi => .inl (HO2.out i hi))).more (below_alloc (Below.refl _ _) (.cells #[.int .i64 (k : Int), .int .i64 r, .int .i64 t] 61))).more HB5.out).more HB6.out
    exact ⟨by simp, Fr.below hF (fun _ h => h) (Nat.le_refl _)⟩
  · go_ret
    have hF := (((Fr.of_new (S := fun j => W.heap.size ≤ j) HB2.out).more HB3.out).then_ HF4.out (fun i hi => .inl (HO2.out i hi))).more (below_alloc (Below.refl _ _) (.cells #[.int .i64 0, .int .i64 0, .int .i64 0] 61))
    exact ⟨by simp, Fr.below hF (fun _ h => h) (Nat.le_refl _)⟩
end Go.Proofs.Ytnipbfhfaefieaa.Sl
/-! slice: a part of a row of values; fits; pages and cuts that are refused; a cut. -/
namespace Go.Proofs.Ytnipbfhfaefieaa.Sl
open Go.RowKit Go Go.Proofs.YtnipbfhfaefieaaW.PrintWords Go.Proofs.YtnipbfhfaefieaaW.PrintMore Go.Proofs.YtnipbfhfaefieaaW.PrintLast Go.Proofs.Ytnipbfhfaefieaa.Bts Go.Proofs.Ytnipbfhfaefieaa.Fra Go.Proofs.Ytnipbfhfaefieaa.ArnP Go.Proofs.Ytnipbfhfaefieaa.Arn Go.Proofs.Ytnipbfhfaefieaa.Ao Go.Proofs.Ytnipbfhfaefieaa.Pv
def subV (a : Option Addr) (l c : Nat) : Option Addr := if c = l then a else a.map (·.add (l * 3))
theorem unVal : Try.prog.underlying 41 = some (.slice (Try.prog.elem 41)) := by kernel_rfl
theorem szVal (w : World) : (sizeOf (Try.prog.elem 41)).run Try.prog w = .ok 3 w := by kernel_rfl
theorem sl_val (w : World) (a : Option Addr) (m c p n : Nat) (h : (p : Int) + (n : Int) ≤ (c : Int)) :
    (Instr.slice 41 (.slice a m c) (some (.int .i64 (p : Int))) (some (.int .i64 ((p : Int) + (n : Int)))) none).run Try.prog w = .ok (.slice (subV a p c) n (c - p)) w := by
  rw [run_slice_lh w 41 a m c unVal .i64 .i64 (p : Int) ((p : Int) + (n : Int)) (by omega) (by omega) h, szVal]
  have e : ((p : Int) + (n : Int)).toNat = p + n := by omega
  have e2 : (p : Int).toNat = p := by omega
  have e3 : p + n - p = n := by omega
  simp only [Result.andThen, sliced, subV, e, e2, e3]
theorem row_cut {W : World} {Q : Nat → Prop} {A : Option Addr} {c p k : Nat} {xs : List V3} (h : RowIn kVal W Q (.slice A xs.length c) xs) (hpk : p + k ≤ xs.length) : RowIn kVal W Q (.slice (subV A p c) k (c - p)) ((xs.drop p).take k) := by
  have hlen : ((xs.drop p).take k).length = k := by rw [List.length_take, List.length_drop]; omega
  have hC := h
  obtain ⟨A', c', e, h1, h2, h3, h4⟩ := h
  injection e with e1 e2 e3
  subst e1 e3
  refine ⟨subV A p c, c - p, by rw [hlen], by rw [hlen]; omega, fun hA => ?_, ?_, fun ad ha => ?_⟩
  · unfold subV at hA
    split at hA
    · omega
    · cases A with
      | none => have := h2 rfl; omega
      | some x => cases hA
  · obtain ⟨g1, g2, g3⟩ := h3
    refine ⟨rfl, by rw [hlen]; omega, fun hp => ?_⟩
    rw [hlen] at hp
    obtain ⟨ad, g4, g5⟩ := g3 (by omega)
    refine ⟨if c = p then ad else ad.add (p * 3), ?_, fun j x hj => ?_⟩
    · unfold subV
      rw [g4]
      by_cases q : c = p
      · rw [if_pos q, if_pos q]
      · rw [if_neg q, if_neg q]; rfl
    · have hjk : j < k := by have := (List.getElem?_eq_some_iff.1 hj).1; rw [hlen] at this; exact this
      rw [List.getElem?_take_of_lt hjk, List.getElem?_drop] at hj
      obtain ⟨cs, g6, g7, g8⟩ := g5 (p + j) x hj
      refine ⟨cs, g6, g7, fun i u hi => ?_⟩
      rw [if_neg (show ¬ c = p by omega)]
      have := g8 i u hi
      rw [show (ad.add (p * 3)).add (j * kVal.sz + i) = ad.add ((p + j) * kVal.sz + i) by
        show (ad.add (p * 3)).add (j * 3 + i) = ad.add ((p + j) * 3 + i)
        rw [show (p + j) * 3 + i = p * 3 + (j * 3 + i) by omega]
        rw [add_add]]
      exact this
  · unfold subV at ha
    split at ha
    · exact h4 ad ha
    · cases A with
      | none => cases ha
      | some x =>
        obtain ⟨q1, q2⟩ := h4 x rfl
        have : x.add (p * 3) = ad := Option.some.inj ha
        have hb : (x.add (p * 3)).block = x.block := by unfold Addr.add; split <;> rfl
        rw [← this, hb]
        exact ⟨q1, q2⟩
def small (l : List V3) : Bool := l.all fun x => decide ((x.2.2.size : Int) ≤ 50)
def fitsB (l : List V3) : Bool := small l && decide ((l.length : Int) ≤ 60)
theorem small_snoc (l : List V3) (x : V3) : small (l ++ [x]) = (small l && decide ((x.2.2.size : Int) ≤ 50)) := by simp [small]
theorem small_mem {l : List V3} {i : Nat} {x : V3} (h : l[i]? = some x) (hx : ¬ (x.2.2.size : Int) ≤ 50) : small l = false := by
  unfold small
  rw [List.all_eq_false]
  exact ⟨x, List.mem_of_getElem? h, by simpa using hx⟩
set_option maxHeartbeats 4000000 in
set_option maxRecDepth 100000 in
theorem fits_calls (l : List V3) (A : Option Addr) (c : Nat) (w : World) (hl : kVal.C w A l.length l) (hll : l.length ≤ 4611686018427387904) :
    Calls Try.prog 43 #[.slice A l.length c] w fun e w' => e = .returned (.bool (fitsB l)) ∧ Below w.heap.size w w' := by
  have hll' : (l.length : Int) ≤ 4611686018427387904 := by omega
  obtain ⟨F, hF⟩ : ∃ F, fitsB l = F := ⟨_, rfl⟩
  rw [hF]
  have HF := Lib.hid hF
  have HL := Lib.hid hl
  clear hl hF
  go_enter Try.func43, Try.ntmps43
  go_wp2
  go_loopg [7] l.length (fun q i wr => ∃ j : Nat, q + j = l.length ∧ i = .int .i64 (j : Int) ∧ small (l.take j) = true ∧ Below w.heap.size w wr)
  case atStart => exact ⟨0, rfl, rfl, rfl, Below.refl _ _⟩
  case round =>
    obtain ⟨j, hq, rfl, hsm, hB⟩ := hrel
    have HB := Lib.hid hB
    have HSM := Lib.hid hsm
    clear hB hsm
    by_cases hj : j < l.length
    · have hj' : (j : Int) < (l.length : Int) := by omega
      obtain ⟨x, hx⟩ : ∃ x, l[j]? = some x := ⟨l[j], List.getElem?_eq_getElem hj⟩
      obtain ⟨k, m, s⟩ := x
      obtain ⟨ad, e1, x0, x1, x2⟩ := row_atC (Kd.C_below HL.out HB.out) j hx
      subst e1
      have HX := Lib.hid hx
      clear hx
      have hb := blk_cell (blk_new wr (.cells #[.int .u8 k, .int .i64 m, .string s] 66)) 2
      by_cases hs : (50 : Int) < (s.size : Int)
      · go_wp2
        go_ret
        refine ⟨?_, below_alloc HB.out _⟩
        have hF := HF.out
        unfold fitsB at hF
        rw [small_mem HX.out (by show ¬ (s.size : Int) ≤ 50; omega)] at hF
        rw [← hF]
        rfl
      · go_wp2
        go_roundg (gk - 1)
        case measure => omega
        case rel =>
          refine ⟨j + 1, by omega, by simp, ?_, below_alloc HB.out _⟩
          have hjl := (List.getElem?_eq_some_iff.1 HX.out).1
          have hxx := HX.out
          rw [List.getElem?_eq_getElem hjl] at hxx
          rw [List.take_succ_eq_append_getElem hjl, Option.some.inj hxx, small_snoc, HSM.out]
          show decide ((s.size : Int) ≤ 50) = true
          exact decide_eq_true (by omega)
    · have hjn : j = l.length := by omega
      subst hjn
      have hj' : ¬ (l.length : Int) < (l.length : Int) := by omega
      go_wp2
      go_ret
      refine ⟨?_, HB.out⟩
      have hF := HF.out
      have hsm := HSM.out
      rw [List.take_length] at hsm
      unfold fitsB at hF
      rw [hsm, Bool.true_and] at hF
      rw [← hF]
      rfl
set_option maxHeartbeats 4000000 in
set_option maxRecDepth 100000 in
theorem page_arg (a : Nat) (n r t p q : Int) (w : World) (hq : q < 0 ∨ 64 < q) :
    Calls Try.prog 44 #[.pointer (some ⟨a, 0, none⟩), vecV n r t, .int .i64 p, .int .i64 q] w fun e w' => e = .returned (.tuple #[.slice none 0 0, .int .i64 1]) ∧ Below w.heap.size w w' := by
  by_cases h : q < 0
  · clear hq
    go_enter Try.func44, Try.ntmps44
    go_wp2
    go_ret2
    exact ⟨rfl, below_alloc (Below.refl _ _) _⟩
  · have h2 := hq.resolve_left h
    clear hq
    go_enter Try.func44, Try.ntmps44
    go_wp2
    go_ret2
    exact ⟨rfl, below_alloc (Below.refl _ _) _⟩
set_option maxHeartbeats 4000000 in
set_option maxRecDepth 100000 in
theorem page_range (a : Nat) (n r t p q : Int) (w : World) (hq : 0 ≤ q ∧ q ≤ 64) (hp : p < 0 ∨ n < p) :
    Calls Try.prog 44 #[.pointer (some ⟨a, 0, none⟩), vecV n r t, .int .i64 p, .int .i64 q] w fun e w' => e = .returned (.tuple #[.slice none 0 0, .int .i64 3]) ∧ Below w.heap.size w w' := by
  have h1 : ¬ q < 0 := by omega
  have h2 : ¬ 64 < q := by omega
  by_cases h : p < 0
  · clear hp hq
    go_enter Try.func44, Try.ntmps44
    go_wp2
    go_ret2
    exact ⟨rfl, below_alloc (Below.refl _ _) _⟩
  · have h3 := hp.resolve_left h
    clear hp hq
    go_enter Try.func44, Try.ntmps44
    go_wp2
    go_ret2
    exact ⟨rfl, below_alloc (Below.refl _ _) _⟩
end Go.Proofs.Ytnipbfhfaefieaa.Sl
/-! slice.Cut. -/
namespace Go.Proofs.Ytnipbfhfaefieaa.Sl
open Go.RowKit Go Go.Proofs.YtnipbfhfaefieaaW.PrintWords Go.Proofs.YtnipbfhfaefieaaW.PrintMore Go.Proofs.YtnipbfhfaefieaaW.PrintLast Go.Proofs.Ytnipbfhfaefieaa.Bts Go.Proofs.Ytnipbfhfaefieaa.Fra Go.Proofs.Ytnipbfhfaefieaa.ArnP Go.Proofs.Ytnipbfhfaefieaa.Arn Go.Proofs.Ytnipbfhfaefieaa.Ao Go.Proofs.Ytnipbfhfaefieaa.Pv
theorem from_ok {O Q : Nat → Prop} {a : Nat} {f : Nat → Cell} {live most : Int} {rest : Nat → Nat} (k : Nat) (l : List V3) (v : Value) (w : World) (h : AO w O a f live most rest nop) (hl : RowIn kVal w Q v l) (hQ : ∀ j, Q j → ¬ O j) (hk : l.length = k) (hk2 : k ≤ 1024) (hb : ∀ x, rest x ≤ 50000000000) (hroom : 40 ≤ most - live) :
    Calls Try.prog 40 #[.pointer (some ⟨a, 0, none⟩), v] w fun e w' => ∃ (r t : Nat) (O' : Nat → Prop) (f' : Nat → Cell) (live' : Int), e = .returned (.tuple #[vecV k r t, .int .i64 0]) ∧ Hid (AO w' O' a f' live' most (fun z => rest z + vx r t z) nop) ∧ Hid (VRep f' k r t l) ∧ Hid (KeepR rest nop f f') ∧ Hid (∀ j, O' j → O j ∨ w.heap.size ≤ j) ∧ Hid (Fr O w w') ∧ live' ≤ live + 40 := by
  refine (from_calls l v w h hl hQ (by omega) hb).mono ?_
  intro e w' hp
  unfold FromPost at hp
  rw [hk] at hp
  rcases hp with ⟨r, t, O', f', live', he, hA, hV, hK, hO, hF⟩ | ⟨c, O', f', live', he, hc, hA, _, hO, hF⟩
  · have hl2 := vec_live2 h hA hK hV
    have hlv : lvs k ≤ 31 := by unfold lvs; omega
    exact ⟨r, t, O', f', live', he, Lib.hid hA, Lib.hid hV, Lib.hid hK, Lib.hid hO, Lib.hid hF, by omega⟩
  · omega
section
attribute [local go_sem high] sl_val
variable {O : Nat → Prop} {a : Nat} {f : Nat → Cell} {live most : Int} {ext rest : Nat → Nat}
set_option maxHeartbeats 4000000 in
set_option maxRecDepth 100000 in
theorem cut_ok (n r t p k : Nat) (l : List V3) (w : World) (h : AO w O a f live most (fun z => rest z + vx r t z) nop) (hv : VRep f n r t l) (hpk : p + k ≤ n) (hb : ∀ x, rest x ≤ 10000000000) (hroom : 40 ≤ most - live) :
    Calls Try.prog 45 #[.pointer (some ⟨a, 0, none⟩), vecV n r t, .int .i64 p, .int .i64 ((p : Int) + (k : Int))] w fun e w' => ∃ (r' t' : Nat) (O' : Nat → Prop) (f' : Nat → Cell) (live' : Int), e = .returned (.tuple #[vecV k r' t', .int .i64 0]) ∧ Hid (AO w' O' a f' live' most (fun z => (rest z + vx r t z) + vx r' t' z) nop) ∧ Hid (VRep f' k r' t' ((l.drop p).take k)) ∧ Hid (VRep f' n r t l) ∧ Hid (∀ j, O' j → O j ∨ w.heap.size ≤ j) ∧ Hid (Fr O w w') := by
  have hlt := h.lt
  have hn : n ≤ 1024 := hv.2.1
  have hln := hv.1
  have hbx := below_alloc (below_alloc (Below.refl w.heap.size w) (.cells #[.int .i64 n, .int .i64 r, .int .i64 t] 61)) (.cells #[.int .i64 0, .int .i64 0, .int .i64 0] 61)
  have hk1 := new1 w (.cells #[.int .i64 n, .int .i64 r, .int .i64 t] 61) (.cells #[.int .i64 0, .int .i64 0, .int .i64 0] 61)
  have hlen : ((l.drop p).take k).length = k := by rw [List.length_take, List.length_drop]; omega
  have g1 : ¬ (p : Int) < 0 := by omega
  have g2 : ¬ (p : Int) + (k : Int) < (p : Int) := by omega
  have g3 : ¬ (n : Int) < (p : Int) + (k : Int) := by omega
  have hk' : 0 ≤ (k : Int) := by omega
  have HA := Lib.hid (h.below hbx)
  have HB := Lib.hid hbx
  have HK := Lib.hid hk1
  have HV := Lib.hid hv
  have HN := Lib.hid (show ∀ j, w.heap.size ≤ j → ¬ O j from fun j hj e => by have := hlt j e; omega)
  have HLT := Lib.hid hlt
  have HL := Lib.hid hln
  have HLEN := Lib.hid hlen
  have HBD := Lib.hid (show ∀ x, rest x + vx r t x ≤ 50000000000 from fun x => by have := hb x; have : vx r t x ≤ 2 := (by unfold vx; have := hold_le r x; have := hold_le t x; omega); omega)
  have HR := Lib.hid hroom
  have HPK := Lib.hid hpk
  clear h hbx hk1 hv hlt hln hlen hb hroom hpk
  go_enter Try.func45, Try.ntmps45
  go_wp2_with (first
    | (go_at_call 40; go_loud (refine (from_ok (rest := fun z => rest z + vx r t z) k ((l.drop p).take k) _ _ HA5.out (row_cut (RowIn.of_R HV5.out) (by have := HPK.out; have := HL.out; omega)) (fun j hj hj2 => by have := HLT.out j hj2; have := HB.out.size; omega) HLEN.out (by have := HPK.out; omega) HBD.out HR.out).mono ?_; rintro e w6 ⟨r', t', O6, f6, live6, rfl, HA6, HV6, HK6, HO6, HF6, hl6⟩; have g0 := HF6.out.blk HK5.out (HN.out _ (by omega)); have z0 := blk_frozen g0 0; have z1 := blk_frozen g0 1; have z2 := blk_frozen g0 2; have u0 := blk_cell g0 0; have u1 := blk_cell g0 1; have u2 := blk_cell g0 2; have HG6 := Lib.hid g0; clear g0))
    | (go_at_call 42; go_loud (refine (all_calls n r t l _ HA.out HV.out (fun _ => Nat.le_add_left _ _)).mono ?_; rintro e w5 ⟨v5, rfl, hV5, hB5⟩; obtain ⟨A5, c5, e5, hc5, _⟩ := id (RowIn.of_R hV5); subst e5; have hcc : (p : Int) + (k : Int) ≤ (c5 : Int) := (by have := HPK.out; have := HL.out; omega); have HV5 := Lib.hid hV5; have HA5 := Lib.hid (HA.out.below hB5); have HK5 := Lib.hid (blk_below HK.out hB5); have HB5 := Lib.hid (HB.out.trans (hB5.mono HB.out.size)); have HBs := Lib.hid hB5; clear hV5 hB5)))
  refine bodyPost_ret (results_ct rfl _ _ (w.heap.size + 1) 61 #[.int .i64 k, .int .i64 r', .int .i64 t'] (0, 0) _ rfl (Pv.ret3 HG6.out _ _ _) Try.underlying61 rfl (by kernel_rfl)) rfl ?_
  have hz := fr3d w6 (w.heap.size + 1) (.int .i64 k) (.int .i64 r') (.int .i64 t')
  have hsb := HB.out.size
  have hs5 := HB5.out.size
  have hl1 := blk_lt HK5.out
  have hO6 : ∀ i, O6 i → O i ∨ w.heap.size + 2 ≤ i := fun i hi => (HO6.out i hi).imp id (fun q => by omega)
  have hn6 : ¬ O6 (w.heap.size + 1) := fun q => by
    rcases hO6 _ q with e | e
    · exact HN.out _ (by omega) e
    · omega
  exact ⟨r', t', O6, f6, live6, rfl, Lib.hid (HA6.out.move hz (fun i hi e => by rw [e] at hi; exact hn6 hi)), HV6, Lib.hid (HV.out.same (fun j h0 hj => KeepR.same HK6.out h0 (by show 0 < rest j + vx r t j; omega))), Lib.hid (fun i hi => (hO6 i hi).imp id (fun q => by omega)), Lib.hid (((Fr.of_new HB5.out).trans HF6.out).then_ hz (fun i hi => .inr (by omega)))⟩
set_option maxHeartbeats 4000000 in
set_option maxRecDepth 100000 in
theorem cut_none (n r t p q : Int) (w : World) (h : p < 0 ∨ q < p ∨ n < q) :
    Calls Try.prog 45 #[.pointer (some ⟨a, 0, none⟩), vecV n r t, .int .i64 p, .int .i64 q] w fun e w' => e = .returned (.tuple #[vecV 0 0 0, .int .i64 3]) ∧ Below w.heap.size w w' := by
  have hbx := below_alloc (below_alloc (Below.refl w.heap.size w) (.cells #[.int .i64 n, .int .i64 r, .int .i64 t] 61)) (.cells #[.int .i64 0, .int .i64 0, .int .i64 0] 61)
  have hk1 := new1 w (.cells #[.int .i64 n, .int .i64 r, .int .i64 t] 61) (.cells #[.int .i64 0, .int .i64 0, .int .i64 0] 61)
  have z0 := blk_frozen hk1 0
  have z1 := blk_frozen hk1 1
  have z2 := blk_frozen hk1 2
  have u0 := blk_cell hk1 0
  have u1 := blk_cell hk1 1
  have u2 := blk_cell hk1 2
  have HB := Lib.hid hbx
  have HK := Lib.hid hk1
  clear hbx hk1
  by_cases h1 : p < 0
  · clear h
    go_enter Try.func45, Try.ntmps45
    go_wp2
    refine bodyPost_ret (results_ct rfl _ _ (w.heap.size + 1) 61 #[.int .i64 0, .int .i64 0, .int .i64 0] (0, 0) _ rfl HK.out Try.underlying61 rfl (by kernel_rfl)) rfl ?_
    exact ⟨rfl, HB.out⟩
  · by_cases h2 : q < p
    · clear h
      go_enter Try.func45, Try.ntmps45
      go_wp2
      refine bodyPost_ret (results_ct rfl _ _ (w.heap.size + 1) 61 #[.int .i64 0, .int .i64 0, .int .i64 0] (0, 0) _ rfl HK.out Try.underlying61 rfl (by kernel_rfl)) rfl ?_
      exact ⟨rfl, HB.out⟩
    · have h3 : n < q := (h.resolve_left h1).resolve_left h2
      clear h
      go_enter Try.func45, Try.ntmps45
      go_wp2
      refine bodyPost_ret (results_ct rfl _ _ (w.heap.size + 1) 61 #[.int .i64 0, .int .i64 0, .int .i64 0] (0, 0) _ rfl HK.out Try.underlying61 rfl (by kernel_rfl)) rfl ?_
      exact ⟨rfl, HB.out⟩
end
end Go.Proofs.Ytnipbfhfaefieaa.Sl
/-! slice: SliceLists. -/
namespace Go.Proofs.Ytnipbfhfaefieaa.Sl
open Go.RowKit Go Go.Proofs.YtnipbfhfaefieaaW.PrintWords Go.Proofs.YtnipbfhfaefieaaW.PrintMore Go.Proofs.YtnipbfhfaefieaaW.PrintLast Go.Proofs.Ytnipbfhfaefieaa.Bts Go.Proofs.Ytnipbfhfaefieaa.Fra Go.Proofs.Ytnipbfhfaefieaa.ArnP Go.Proofs.Ytnipbfhfaefieaa.Arn Go.Proofs.Ytnipbfhfaefieaa.Ao Go.Proofs.Ytnipbfhfaefieaa.Pv
theorem from_big {O Q : Nat → Prop} {a : Nat} (l : List V3) (v : Value) (w : World) (h : AO w O a f0 0 4096 no0 nop) (hl : RowIn kVal w Q v l) (hQ : ∀ j, Q j → ¬ O j) (hk : 1024 < l.length) (hk2 : l.length ≤ 2000) :
    Calls Try.prog 40 #[.pointer (some ⟨a, 0, none⟩), v] w fun e w' => ∃ (O' : Nat → Prop) (f' : Nat → Cell), e = .returned (.tuple #[vecV 0 0 0, .int .i64 12]) ∧ Hid (AO w' O' a f' 0 4096 no0 nop) ∧ Hid (Fr O w w') := by
  refine (from_calls l v w h hl hQ hk2 (fun _ => Nat.zero_le _)).mono ?_
  intro e w' hp
  unfold FromPost at hp
  rcases hp with ⟨r, t, O', f', live', he, hA, hV, _, hO, hF⟩ | ⟨c, O', f', live', he, hc, hA, _, hO, hF⟩
  · have := hV.2.1
    omega
  · have hz := hA.none_live (fun _ _ => rfl)
    subst hz
    have hc5 : c = 12 := by omega
    subst hc5
    exact ⟨O', f', he, Lib.hid hA, Lib.hid hF⟩
set_option maxHeartbeats 8000000 in
set_option maxRecDepth 100000 in
theorem lists_early (A0 : Option Addr) (c0 : Nat) (x0 : List V3) (x1_0 : Int) (x1_1 : Int) (x2_0 : Int) (x2_1 : Int) (W : World) (C0 : kVal.C W A0 x0.length x0) (hm : x0.length ≤ 4611686018427387904) (hf : fitsB x0 = false) :
    Calls Try.prog 9 #[.slice A0 x0.length c0, .agg #[.int .i64 x1_0, .int .i64 x1_1], .agg #[.int .i64 x2_0, .int .i64 x2_1]] W fun e W' => e = .returned (.bool true) ∧ Below W.heap.size W W' := by
  have HC := Lib.hid C0
  have HF := Lib.hid hf
  clear C0 hf
  go_enter Try.func9, Try.ntmps9
  go_wp2_with (first
    | (go_at_call 38; have hx := HB2; clear hx; go_loud (refine (lives_calls _).mono ?_; rintro e w3 ⟨rfl, hb3⟩; have HB3 := Lib.hid (HB2.out.trans (hb3.mono HB2.out.size)); clear hb3))
    | (go_at_call 43; go_loud (refine (fits_calls x0 A0 c0 _ (Kd.C_below HC.out HB1.out) hm).mono ?_; rw [HF.out]; rintro e w2 ⟨rfl, hb2⟩; have HB2 := Lib.hid (HB1.out.trans (hb2.mono HB1.out.size)); clear hb2))
    | (go_at_call 38; go_loud (refine (lives_calls _).mono ?_; rintro e w1 ⟨rfl, hb1⟩; have HB1 := Lib.hid (below_step (below_alloc (below_alloc (Below.refl W.heap.size W) (.cells #[.int .i64 x1_0, .int .i64 x1_1] 55)) (.cells #[.int .i64 x2_0, .int .i64 x2_1] 55)) hb1); clear hb1)))
  go_ret
  exact ⟨rfl, HB3.out⟩
set_option maxHeartbeats 8000000 in
set_option maxRecDepth 100000 in
theorem lists_big (A0 : Option Addr) (c0 : Nat) (x0 : List V3) (x1_0 : Int) (x1_1 : Int) (x2_0 : Int) (x2_1 : Int) (W : World) (C0 : kVal.C W A0 x0.length x0) (hm : x0.length ≤ 4611686018427387904) (hx60 : x0.length ≤ 2000) (hf : fitsB x0 = true) (N : Nat) (hN : (IntKind.u64.wrap x1_0).tmod 1100 = N) (hN2 : N < 1100) (hN3 : wrap64 (N : Int) = N) (hbig : 1024 < N) :
    Calls Try.prog 9 #[.slice A0 x0.length c0, .agg #[.int .i64 x1_0, .int .i64 x1_1], .agg #[.int .i64 x2_0, .int .i64 x2_1]] W fun e W' => e = .returned (.bool true) ∧ Below W.heap.size W W' := by
  have hbig' : (1024 : Int) < (N : Int) := by omega
  have hlen := fillL_len x0 N
  have HLEN := Lib.hid hlen
  have HC := Lib.hid C0
  have HF := Lib.hid hf
  clear C0 hf hlen
  go_enter Try.func9, Try.ntmps9
  go_wp2_with (first
    | (go_at_call 22; go_loud (refine (live_AO _ (HA5.out.below (below_alloc (Below.refl _ _) (.cells #[.int .i64 0, .int .i64 0, .int .i64 0] 61)))).mono ?_; rintro e w6 ⟨rfl, rfl⟩))
    | (go_at_call 40; go_loud (refine (from_big (Q := fun j => w2.heap.size ≤ j ∧ j < w3.heap.size) (fillL x0 N) _ _ HA4.out (by have := HR4.out; exact this) (fun j hj hj2 => by have := HON.out j hj2; omega) (by rw [HLEN.out]; omega) (by rw [HLEN.out]; omega)).mono ?_; rintro e w5 ⟨O5, f5, rfl, HA5, HF5⟩))
    | (go_at_call 20; go_loud (refine (new_AO 4096 _ (by decide) (by decide)).mono ?_; rintro e w4 ⟨a, O, rfl, hA4, hO4, hB4⟩; rw [no0_vx] at hA4; have HA4 := Lib.hid hA4; have HON := Lib.hid hO4; have HQ41 := Lib.hid (blk_below HQ31.out hB4); have HQ42 := Lib.hid (blk_below HQ32.out hB4); have HR4 := Lib.hid (HR3.out.fr kVal_K (Fr.of_new (S := fun _ => False) hB4) (fun _ _ h => h)); have HB4 := Lib.hid (HB3.out.trans (hB4.mono HB3.out.size)); have hs34 := hB4.size; clear hA4 hO4 hB4))
    | (go_at_call 39; go_loud (refine (fill_calls x0 A0 c0 N _ (Kd.C_below HC.out HB2.out) (by omega) hx60).mono ?_; rintro e w3 ⟨u3, rfl, hR3, hB3⟩; have HQ31 := Lib.hid (blk_below HQ1.out hB3); have HQ32 := Lib.hid (blk_below HQ2.out hB3); have HB3 := Lib.hid (HB2.out.trans (hB3.mono HB2.out.size)); obtain ⟨A3, c3, e3, hc3, _⟩ := id (RowIn.of_R hR3); rw [HLEN.out] at e3 hc3; subst e3; have HR3 := Lib.hid (row_lt (RowIn.of_R hR3) (fun j hj hjl => (⟨hj, hjl⟩ : w2.heap.size ≤ j ∧ j < w3.heap.size))); clear hR3 hB3))
    | (go_at_call 43; go_loud (refine (fits_calls x0 A0 c0 _ (Kd.C_below HC.out HB1.out) hm).mono ?_; rw [HF.out]; rintro e w2 ⟨rfl, hb2⟩; have HB2 := Lib.hid (HB1.out.trans (hb2.mono HB1.out.size)); have HQ1 := Lib.hid (blk_below HP1.out hb2); have HQ2 := Lib.hid (blk_below HP2.out hb2); have p0 := blk_cell HQ1.out 0; have p1 := blk_cell HQ1.out 1; clear hb2))
    | (go_at_call 38; go_loud (refine (lives_calls _).mono ?_; rintro e w1 ⟨rfl, hb1⟩; have hbb := blk_alloc (blk_new W (.cells #[.int .i64 x1_0, .int .i64 x1_1] 55)) (.cells #[.int .i64 x2_0, .int .i64 x2_1] 55); have hbc := new1 W (.cells #[.int .i64 x1_0, .int .i64 x1_1] 55) (.cells #[.int .i64 x2_0, .int .i64 x2_1] 55); have HP1 := Lib.hid (blk_below hbb hb1); have HP2 := Lib.hid (blk_below hbc hb1); have HB1 := Lib.hid (below_step (below_alloc (below_alloc (Below.refl W.heap.size W) (.cells #[.int .i64 x1_0, .int .i64 x1_1] 55)) (.cells #[.int .i64 x2_0, .int .i64 x2_1] 55)) hb1); clear hb1 hbb hbc)))
  go_ret
  have hF := ((Fr.of_new (S := fun j => W.heap.size ≤ j) HB4.out).then_ HF5.out (fun i hi => .inl (by have := HON.out i hi; have := HB3.out.size; omega))).more (below_alloc (Below.refl _ _) (.cells #[.int .i64 0, .int .i64 0, .int .i64 0] 61))
  exact ⟨by simp, Fr.below hF (fun _ h => h) (Nat.le_refl _)⟩
theorem drop0 {O : Nat → Prop} {a : Nat} {f : Nat → Cell} {live most : Int} {rest : Nat → Nat} (w : World) (h : AO w O a f live most rest nop) :
    Calls Try.prog 37 #[.pointer (some ⟨a, 0, none⟩), vecV 0 0 0] w fun e w' => e = .returned (.tuple #[]) ∧ ∃ O' f' live', Hid (AO w' O' a f' live' most rest nop) ∧ Hid (∀ j, O' j → O j ∨ w.heap.size ≤ j) ∧ Hid (Fr O w w') := by
  have e1 : rest = fun z => rest z + vx 0 0 z := by
    funext z
    rfl
  rw [e1] at h
  have hd : Calls Try.prog 37 #[.pointer (some ⟨a, 0, none⟩), vecV 0 0 0] w _ := vdrop_calls (rest := rest) 0 0 0 w h
  refine hd.mono ?_
  rintro e w' ⟨rfl, O', f', live', hA, _, _, hO, hF⟩
  exact ⟨rfl, O', f', live', Lib.hid hA, Lib.hid hO, Lib.hid hF⟩
theorem tmod_rng (x n : Int) (hn : 0 < n) : -(n - 1) ≤ x.tmod n ∧ x.tmod n ≤ n - 1 := by
  have h := Int.natAbs_tmod x n
  have h2 : x.natAbs % n.natAbs < n.natAbs := Nat.mod_lt _ (by omega)
  omega
theorem equal_same {Q R : Nat → Prop} (l : List V3) (v u : Value) (w : World) (hl : RowIn kVal w Q v l) (hm : RowIn kVal w R u l) (hll : l.length ≤ 100000) :
    Calls Try.prog 41 #[v, u] w fun e w' => e = .returned (.bool true) ∧ Below w.heap.size w w' := by
  have := equal_calls l l v u w hl hm hll hll
  rwa [decide_eq_true (rfl : l = l)] at this
theorem cut_okI {O : Nat → Prop} {a : Nat} {f : Nat → Cell} {live most : Int} {rest : Nat → Nat} (n r t p k : Nat) (pf sz : Int) (hp : pf = p) (hs : sz = k) (l : List V3) (w : World) (h : AO w O a f live most (fun z => rest z + vx r t z) nop) (hv : VRep f n r t l) (hpk : p + k ≤ n) (hb : ∀ x, rest x ≤ 10000000000) (hroom : 40 ≤ most - live) :
    Calls Try.prog 45 #[.pointer (some ⟨a, 0, none⟩), vecV n r t, .int .i64 pf, .int .i64 (pf + sz)] w fun e w' => ∃ (r' t' : Nat) (O' : Nat → Prop) (f' : Nat → Cell) (live' : Int), e = .returned (.tuple #[vecV k r' t', .int .i64 0]) ∧ Hid (AO w' O' a f' live' most (fun z => (rest z + vx r t z) + vx r' t' z) nop) ∧ Hid (VRep f' k r' t' ((l.drop p).take k)) ∧ Hid (VRep f' n r t l) ∧ Hid (∀ j, O' j → O j ∨ w.heap.size ≤ j) ∧ Hid (Fr O w w') := by
  subst hp hs
  exact cut_ok n r t p k l w h hv hpk hb hroom
theorem page_callsI {O : Nat → Prop} {a : Nat} {f : Nat → Cell} {live most : Int} {ext : Nat → Nat} (n r t p q : Nat) (pf cn : Int) (hp : pf = p) (hc : cn = q) (l : List V3) (w : World) (h : AO w O a f live most ext nop) (hv : VRep f n r t l) (he : ∀ x, vx r t x ≤ ext x) (hpn : p ≤ n) (hq : q ≤ 64) :
    Calls Try.prog 44 #[.pointer (some ⟨a, 0, none⟩), vecV n r t, .int .i64 pf, .int .i64 cn] w fun e w' => ∃ v, e = .returned (.tuple #[v, .int .i64 0]) ∧ VR w' w.heap.size v ((l.drop p).take q) ∧ Below w.heap.size w w' := by
  subst hp hc
  exact page_calls n r t p q l w h hv he hpn hq
def minI (x y : Int) : Int := if y < x then y else x
theorem minE (w : World) (ts : Array TypeId) (t : TypeId) (x y : Int) : (Builtin.min_ ts t #[.int .i64 x, .int .i64 y]).run Try.prog w = .ok (.int .i64 (minI x y)) w := run_min_int2 (P := Try.prog) (w := w) ts t .i64 .i64 x y
theorem take_min {N : Nat} (l : List V3) (p q k : Nat) (hl : l.length = N) (hk : k = min q (N - p)) : (l.drop p).take q = (l.drop p).take k := by
  subst hk
  by_cases hc : q ≤ N - p
  · rw [Nat.min_eq_left hc]
  · rw [Nat.min_eq_right (by omega), List.take_of_length_le (by rw [List.length_drop]; omega), List.take_of_length_le (by rw [List.length_drop]; omega)]
theorem nn6 {q : Nat} (h : q ≤ 64) : ¬ (64 : Int) < (q : Int) := by omega
theorem nn7 {p N : Nat} (h : p ≤ N) : ¬ (N : Int) < (p : Int) := by omega
theorem nn8 {p q k N : Nat} (h : p ≤ N) (hk : k = min q (N - p)) : p + k ≤ N := by omega
theorem nn9 (p q : Nat) (h : p ≤ 1024) (hq : q ≤ 64) : wrap64 ((p : Int) + (q : Int)) = (p : Int) + (q : Int) := by unfold wrap64; omega
theorem nn10 {p q k N : Nat} (h : p ≤ N) (hk : k = min q (N - p)) : minI ((p : Int) + (q : Int)) (N : Int) = (p : Int) + (k : Int) := by
  unfold minI
  split <;> omega
theorem nn1 (p : Nat) : ¬ (p : Int) < 0 := by omega
theorem nn2 (p m : Nat) : ¬ (p : Int) + (m : Int) < (p : Int) := by omega
theorem nn3 {p m N : Nat} (h : p + m ≤ N) : ¬ (N : Int) < (p : Int) + (m : Int) := by omega
theorem nn4 {p m N c : Nat} (h : p + m ≤ N) (hc : N ≤ c) : (p : Int) + (m : Int) ≤ (c : Int) := by omega
theorem nn5 {l : Int} (h : l ≤ 0 + 40) : (40 : Int) ≤ 4096 - l := by omega
end Go.Proofs.Ytnipbfhfaefieaa.Sl
