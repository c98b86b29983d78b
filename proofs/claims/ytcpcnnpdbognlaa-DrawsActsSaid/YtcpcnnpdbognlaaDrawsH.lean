/- draws.Handle: the next handle that is not taken, as a contract. -/
import Derived.Test.YtcpcnnpdbognlaaDraws
import Derived.Test.YtcpcnnpdbognlaaWEqStruct
import Derived.Test.YtcpcnnpdbognlaaWLast
import Derived.Deep.LoopGhost
namespace Go.Proofs.Ytcpcnnpdbognlaa.Drw
open Go.RowKit Go Go.Proofs.YtcpcnnpdbognlaaW.PrintWords Go.Proofs.YtcpcnnpdbognlaaW.PrintMore Go.Proofs.Ytcpcnnpdbognlaa.Bts Go.Proofs.Ytcpcnnpdbognlaa.Fra

theorem eqH (d : Nat) (w : World) (x0 y0 : Int) (x1 y1 : Int) :
    (Op.equalIn (d + 2) 62 (.agg #[.int .u64 x0, .int .u64 x1]) (.agg #[.int .u64 y0, .int .u64 y1])).run Try.prog w = .ok (x0 == y0 && x1 == y1) w := by
  refine eqA_of Try.underlying62 (by kernel_rfl) ?_
  refine eqf_cons (by rfl) (by go_simp; rfl) (by go_simp; rfl) (by go_simp) ?_
  exact eqf_last (by rfl) (by go_simp; rfl) (by go_simp; rfl) (by go_simp)
attribute [local go_sem high] eqH
theorem drop_two (us : List Int) (m : Nat) (h : m + 2 ≤ us.length) : us.drop m = us.getD m 0 :: us.getD (m + 1) 0 :: us.drop (m + 2) := by
  have e1 : us.getD m 0 = us[m] := by simp [List.getD, List.getElem?_eq_getElem (show m < us.length by omega)]
  have e2 : us.getD (m + 1) 0 = us[m + 1] := by simp [List.getD, List.getElem?_eq_getElem (show m + 1 < us.length by omega)]
  rw [e1, e2, List.drop_eq_getElem_cons (by omega), List.drop_eq_getElem_cons (by omega)]
theorem hand_short (T : Int → Int → Bool) (l : List Int) (h : l.length < 2) : hand T l = (0, none) := by
  match l, h with
  | [], _ => rfl
  | [_], _ => rfl
/-- What Handle returns. -/
def handV (o : Option (Int × Int)) : Value := match o with | some (a, b) => .tuple #[.agg #[.int .u64 a, .int .u64 b], .int .i64 0] | none => .tuple #[.agg #[.int .u64 0, .int .u64 0], .int .i64 13]
def HandPost (F : Nat → Prop) (g n : Nat) (us : List Int) (T : Int → Int → Bool) (w : World) (e : Ending) (w' : World) : Prop :=
  e = .returned (handV (hand T (us.drop n)).2) ∧ Dr w' F g us (n + (hand T (us.drop n)).1) ∧ Fr (· = g) w w'
def HandRel (F : Nat → Prop) (g n : Nat) (us : List Int) (T : Int → Int → Bool) (w : World) (q m : Nat) (wr : World) : Prop :=
  m ≤ us.length ∧ q = us.length - m ∧ n ≤ m ∧ hand T (us.drop n) = ((hand T (us.drop m)).1 + (m - n), (hand T (us.drop m)).2) ∧ Dr wr F g us m ∧ Fr (· = g) w wr ∧ wr.heap[w.heap.size]? = some (.cells #[.int .u64 0, .int .u64 0] 62 (0, 0))
theorem Dr.far {w : World} {F : Nat → Prop} {g n : Nat} {us : List Int} {p : Addr} (h : Dr w F g us n) (hp : ∀ k, F k → ¬ k = p.block) (u : Value) : Dr (w.setCell p u) F g us n :=
  h.fr (S := fun k => k = p.block) (Fr.setCell (S := fun k => k = p.block) (.inl rfl) u) hp
theorem hand_skip (T : Int → Int → Bool) {us : List Int} {m : Nat} {a b : Int} (h : us.drop m = a :: b :: us.drop (m + 2)) (hs : ((a == 0 && b == 0) || T a b) = true) :
    hand T (us.drop m) = ((hand T (us.drop (m + 2))).1 + 2, (hand T (us.drop (m + 2))).2) := by
  rw [h]
  simp only [hand, hs, if_true]
theorem hand_take (T : Int → Int → Bool) {us : List Int} {m : Nat} {a b : Int} (h : us.drop m = a :: b :: us.drop (m + 2)) (hs : ((a == 0 && b == 0) || T a b) = false) :
    hand T (us.drop m) = (2, some (a, b)) := by
  rw [h]
  simp only [hand, hs]
  rfl
theorem rel_skip {F : Nat → Prop} {g n : Nat} {us : List Int} {T : Int → Int → Bool} {w w2 : World} {m : Nat} {a b : Int} (h2 : m + 2 ≤ us.length) (hnm : n ≤ m) (hh : hand T (us.drop n) = ((hand T (us.drop m)).1 + (m - n), (hand T (us.drop m)).2))
    (he : us.drop m = a :: b :: us.drop (m + 2)) (hs : ((a == 0 && b == 0) || T a b) = true) (hD : Dr w2 F g us (m + 2)) (hF : Fr (· = g) w w2) (hV : w2.heap[w.heap.size]? = some (.cells #[.int .u64 0, .int .u64 0] 62 (0, 0))) :
    HandRel F g n us T w (us.length - (m + 2)) (m + 2) w2 := by
  refine ⟨h2, rfl, by omega, ?_, hD, hF, hV⟩
  rw [hh, hand_skip T he hs]
  simp only [Prod.mk.injEq, and_true]
  omega
set_option maxHeartbeats 4000000 in
set_option maxRecDepth 100000 in
theorem handle_calls (F : Nat → Prop) (g n : Nat) (us : List Int) (fv : FuncId) (cs : Array Value) (T : Int → Int → Bool) (w : World) (h : Dr w F g us n) (hFl : ∀ k, F k → k < w.heap.size)
    (hcf : ∀ (args : Array Value) (W : World), (callFunc fv args).run Try.prog W = .ok (.enter fv args) W)
    (hT : ∀ W, Fr (· = g) w W → ∀ a b : Int, Calls Try.prog fv (#[.agg #[.int .u64 a, .int .u64 b]] ++ cs) W fun e w' => e = .returned (.bool (T a b)) ∧ Below W.heap.size W w') :
    Calls Try.prog 34 #[.pointer (some ⟨g, 0, none⟩), .func (.func fv) #[] cs] w (HandPost F g n us T w) := by
  have hgl := h.lt
  have hle := h.le
  have HT := Lib.hid hT
  have HFl := Lib.hid hFl
  have H := Lib.hid h
  clear h hT hFl
  go_enter Try.func34, Try.ntmps34
  go_wp2
  go_loopg [] (us.length - n) (fun q wr => ∃ m, HandRel F g n us T w q m wr)
  case atStart =>
    refine ⟨n, hle.1, rfl, Nat.le_refl _, ?_, H.out.below (below_alloc (Below.refl _ _) _), Fr.alloc _, blk_new _ _⟩
    rw [Nat.sub_self, Nat.add_zero]
  case round =>
    obtain ⟨m, hm, rfl, hnm, hh, hD, hF, hV⟩ := hrel
    have HH := Lib.hid hh
    have HD := Lib.hid hD
    have HF := Lib.hid hF
    have HV := Lib.hid hV
    clear hh hD hF hV
    by_cases h2 : m + 2 ≤ us.length
    · obtain ⟨a, ha⟩ : ∃ a, us.getD m 0 = a := ⟨_, rfl⟩
      obtain ⟨b, hb⟩ : ∃ b, us.getD (m + 1) 0 = b := ⟨_, rfl⟩
      have HE := drop_two us m h2
      have HA := Lib.hid ha
      have HBb := Lib.hid hb
      rw [ha, hb] at HE
      have HE := Lib.hid HE
      clear ha hb
      have hge : (2 : Int) ≤ ((us.length - m : Nat) : Int) := by omega
      have hgw : ¬ w.heap.size = g := by omega
      by_cases hz : (a == 0 && b == 0) = true
      · go_wp2_with (first
          | (go_at_call 33; refine (next_some F g (m + 1) us b _ HD1.out (by omega) HBb.out).mono ?_; rintro e w2 ⟨rfl, hD2, hF2⟩; have HD2 := Lib.hid hD2; have HF2 := Lib.hid (HF1.out.trans hF2); have HV2 := Lib.hid (HF2.out.blk HV.out hgw); have hl2 : w.heap.size < w2.heap.size := blk_lt HV2.out; clear hD2 hF2)
          | (go_at_call 38; go_loud (refine (left_calls F g m us _ HD.out).mono ?_; rintro e w1 ⟨rfl, q, rfl⟩))
          | (go_at_call 33; refine (next_some F g m us a _ (HD.out.drewN _) (by omega) HA.out).mono ?_; rintro e w1 ⟨rfl, hD1, hF1⟩; have HD1 := Lib.hid hD1; have HF1 := Lib.hid (((Fr.refl (· = g) wr).drewN _).trans hF1); clear hD1 hF1))
        go_roundg (us.length - (m + 2))
        case measure => omega
        case rel => exact ⟨m + 2, rel_skip h2 hnm HH.out HE.out (by rw [hz]; rfl) (HD2.out.below (below_alloc (Below.refl _ _) _)) ((HF.out.trans HF2.out).new _) (blk_alloc HV2.out _)⟩
      · have hz : (a == 0 && b == 0) = false := by simpa using hz
        cases ht : T a b
        · go_wp2_with (first
          | (go_at_call 33; refine (next_some F g (m + 1) us b _ HD1.out (by omega) HBb.out).mono ?_; rintro e w2 ⟨rfl, hD2, hF2⟩; have HD2 := Lib.hid hD2; have HF2 := Lib.hid (HF1.out.trans hF2); have HV2 := Lib.hid (HF2.out.blk HV.out hgw); have hl2 : w.heap.size < w2.heap.size := blk_lt HV2.out; clear hD2 hF2)
          | (go_at_call 38; go_loud (refine (left_calls F g m us _ HD.out).mono ?_; rintro e w1 ⟨rfl, q, rfl⟩))
          | (go_at_call 33; refine (next_some F g m us a _ (HD.out.drewN _) (by omega) HA.out).mono ?_; rintro e w1 ⟨rfl, hD1, hF1⟩; have HD1 := Lib.hid hD1; have HF1 := Lib.hid (((Fr.refl (· = g) wr).drewN _).trans hF1); clear hD1 hF1)
          | ((with_reducible refine (HT.out _ ((HF.out.trans HF2.out).new _) a b).mono ?_); (rintro e w3 ⟨rfl, hB3⟩; have HB3 := Lib.hid hB3; have hl3 : w2.heap.size < w3.heap.size := (by have := hB3.size; simp at this; omega); have hv3 := blk_below (blk_alloc HV2.out _) hB3; have hh3 := blk_below (blk_new w2 _) hB3; have k0 := blk_cell hh3 0; have k1 := blk_cell hh3 1; have HV3 := Lib.hid hv3; have f0 := blk_frozen hv3 0; have f1 := blk_frozen hv3 1; have v0 := blk_cell hv3 0; have v1 := blk_cell hv3 1; clear hB3 hv3 hh3)))
          have e1 : hand T (us.drop m) = (2, some (a, b)) := hand_take T HE.out (by rw [ht, hz]; rfl)
          have e2 := HH.out
          rw [e1] at e2
          refine bodyPost_ret (results_ct rfl _ _ w.heap.size 62 #[.int .u64 a, .int .u64 b] (0, 0) _ rfl (blk_put (cs := #[.int .u64 a, .int .u64 0]) (blk_put HV3.out 0 _ rfl) 1 _ rfl) Try.underlying62 rfl (by kernel_rfl)) rfl ⟨?_, ?_, ?_⟩
          · rw [e2]; rfl
          · rw [e2]
            have e3 : n + (2 + (m - n)) = m + 2 := by omega
            show Dr _ F g us (n + (2 + (m - n)))
            rw [e3]
            exact (((HD2.out.below (below_alloc (Below.refl _ _) _)).below HB3.out).far (fun k hk (e : k = w.heap.size) => absurd (HFl.out k hk) (by omega)) _).far (fun k hk (e : k = w.heap.size) => absurd (HFl.out k hk) (by omega)) _
          · exact ((((HF.out.trans HF2.out).new _).more HB3.out).put (.inr (Nat.le_refl _)) _).put (.inr (Nat.le_refl _)) _
        · go_wp2_with (first
          | (go_at_call 33; refine (next_some F g (m + 1) us b _ HD1.out (by omega) HBb.out).mono ?_; rintro e w2 ⟨rfl, hD2, hF2⟩; have HD2 := Lib.hid hD2; have HF2 := Lib.hid (HF1.out.trans hF2); have HV2 := Lib.hid (HF2.out.blk HV.out hgw); have hl2 : w.heap.size < w2.heap.size := blk_lt HV2.out; clear hD2 hF2)
          | (go_at_call 38; go_loud (refine (left_calls F g m us _ HD.out).mono ?_; rintro e w1 ⟨rfl, q, rfl⟩))
          | (go_at_call 33; refine (next_some F g m us a _ (HD.out.drewN _) (by omega) HA.out).mono ?_; rintro e w1 ⟨rfl, hD1, hF1⟩; have HD1 := Lib.hid hD1; have HF1 := Lib.hid (((Fr.refl (· = g) wr).drewN _).trans hF1); clear hD1 hF1)
          | ((with_reducible refine (HT.out _ ((HF.out.trans HF2.out).new _) a b).mono ?_); (rintro e w3 ⟨rfl, hB3⟩; have HB3 := Lib.hid hB3; have hl3 : w2.heap.size < w3.heap.size := (by have := hB3.size; simp at this; omega); have hv3 := blk_below (blk_alloc HV2.out _) hB3; have hh3 := blk_below (blk_new w2 _) hB3; have k0 := blk_cell hh3 0; have k1 := blk_cell hh3 1; have HV3 := Lib.hid hv3; have f0 := blk_frozen hv3 0; have f1 := blk_frozen hv3 1; have v0 := blk_cell hv3 0; have v1 := blk_cell hv3 1; clear hB3 hv3 hh3)))
          go_roundg (us.length - (m + 2))
          case measure => omega
          case rel => exact ⟨m + 2, rel_skip h2 hnm HH.out HE.out (by rw [ht]; simp) ((HD2.out.below (below_alloc (Below.refl _ _) _)).below HB3.out) (((HF.out.trans HF2.out).new _).more HB3.out) HV3.out⟩
    · have v0 := blk_cell HV.out 0
      have v1 := blk_cell HV.out 1
      have f0 := blk_frozen HV.out 0
      have f1 := blk_frozen HV.out 1
      have hle' : ¬ (2 : Int) ≤ ((us.length - m : Nat) : Int) := by omega
      have hle2 : decide ((2 : Int) ≤ ((us.length - m : Nat) : Int)) = false := by simp; omega
      go_wp2_with (go_at_call 38; go_loud (refine (left_calls F g m us _ HD.out).mono ?_; rintro e w1 ⟨rfl, q, rfl⟩))
      have e1 : hand T (us.drop m) = (0, none) := hand_short T _ (by rw [List.length_drop]; omega)
      have e2 := HH.out
      rw [e1] at e2
      have hgw : ¬ w.heap.size = g := by omega
      refine bodyPost_ret (results_ct rfl _ _ w.heap.size 62 #[.int .u64 0, .int .u64 0] (0, 0) _ rfl (blk_put (cs := #[.int .u64 0, .int .u64 0]) (blk_put (w := wr.drewN q) HV.out 0 _ rfl) 1 _ rfl) Try.underlying62 rfl (by kernel_rfl)) rfl ⟨?_, ?_, ?_⟩
      · rw [e2]; rfl
      · rw [e2]
        have e3 : n + (0 + (m - n)) = m := by omega
        show Dr _ F g us (n + (0 + (m - n)))
        rw [e3]
        exact ((HD.out.drewN q).far (fun k hk (e : k = w.heap.size) => absurd (HFl.out k hk) (by omega)) _).far (fun k hk (e : k = w.heap.size) => absurd (HFl.out k hk) (by omega)) _
      · exact ((HF.out.drewN q).put (.inr (Nat.le_refl _)) _).put (.inr (Nat.le_refl _)) _
theorem handle_nil (f : Value) (w : World) : Calls Try.prog 34 #[.pointer none, f] w fun e w' => e = .returned (.tuple #[.agg #[.int .u64 0, .int .u64 0], .int .i64 13]) ∧ Below w.heap.size w w' := by
  go_enter Try.func34, Try.ntmps34
  go_wp2
  go_loopg [] 0 (fun q wr => wr = w.alloc (.cells #[.int .u64 0, .int .u64 0] 62))
  case atStart => exact rfl
  case round =>
    subst hrel
    go_wp2_with (go_at_call 38; refine (left_nil _).mono ?_; rintro e w1 ⟨rfl, rfl⟩)
    refine bodyPost_ret (results_ct rfl _ _ w.heap.size 62 #[.int .u64 0, .int .u64 0] (0, 0) _ rfl (blk_new w _) Try.underlying62 rfl (by kernel_rfl)) rfl ⟨rfl, below_alloc (Below.refl _ _) _⟩
end Go.Proofs.Ytcpcnnpdbognlaa.Drw
