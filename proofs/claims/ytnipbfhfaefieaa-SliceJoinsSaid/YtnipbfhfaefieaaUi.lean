/- Texts of this claim, laid together: PvB, PvC, PvD. -/
import Derived.Test.YtnipbfhfaefieaaUh
/-! pvec: what a call keeps of others' cells; a cell is opened (let go, its others held). -/
namespace Go.Proofs.Ytnipbfhfaefieaa.Pv
open Go.RowKit Go Go.Proofs.YtnipbfhfaefieaaW.PrintWords Go.Proofs.YtnipbfhfaefieaaW.PrintMore Go.Proofs.YtnipbfhfaefieaaW.PrintLast Go.Proofs.Ytnipbfhfaefieaa.Bts Go.Proofs.Ytnipbfhfaefieaa.Fra Go.Proofs.Ytnipbfhfaefieaa.ArnP Go.Proofs.Ytnipbfhfaefieaa.Arn Go.Proofs.Ytnipbfhfaefieaa.Ao
/-- How often a list has a cell's number. -/
def kc (l : List Int) : Nat → Nat := fun x => (kidsOf l).count x
def one (i : Nat) : Nat → Nat := fun x => if x = i then 1 else 0
section
variable {W W' : World} {O S Q : Nat → Prop} {a : Nat} {f f' g : Nat → Cell} {live most : Int} {ext rest : Nat → Nat} {op : Nat → Bool}
theorem same_step (h : AO W O a f live most ext op) (P : Nat → Prop) (hst : ∀ x, Lv f op x → P x → f' x = {f x with r := (f' x).r}) (hP : ∀ x, Lv f op x → P x → ∀ y ∈ kidsOf (f x).kids, P y) : ∀ j, Lv f op j → P j → Same f f' j := fun j h1 h2 =>
  same_of (fun x => Lv f op x ∧ P x) (fun x hx => ⟨hst x hx.1 hx.2, fun y hy => ⟨(h.lv_kid hx.1 hy).1, hP x hx.1 hx.2 y hy⟩⟩) j ⟨h1, h2⟩
/-- Whom others hold is what he was: an open one wholly, another one with all that he leads to. -/
def KeepR (rest : Nat → Nat) (op : Nat → Bool) (f f' : Nat → Cell) : Prop := ∀ j, 0 < j → 0 < rest j → (op j = true → f' j = f j) ∧ (op j = false → Same f f' j)
theorem KeepR.refl (rest : Nat → Nat) (op : Nat → Bool) (f : Nat → Cell) : KeepR rest op f f := fun j _ _ => ⟨fun _ => rfl, fun _ => Same.refl f j⟩
theorem KeepR.trans (h1 : KeepR rest op f g) (h2 : KeepR rest op g f') : KeepR rest op f f' := fun j h0 hr => ⟨fun ho => ((h2 j h0 hr).1 ho).trans ((h1 j h0 hr).1 ho), fun ho => ((h1 j h0 hr).2 ho).trans ((h2 j h0 hr).2 ho)⟩
theorem KeepR.mono {rest' : Nat → Nat} (h : KeepR rest op f f') (hr : ∀ j, 0 < rest' j → 0 < rest j) : KeepR rest' op f f' := fun j h0 h1 => h j h0 (hr j h1)
theorem rec_r {c d : Cell} (h : d = {c with r := d.r}) (hr : d.r = c.r) : d = c := by
  rw [h, hr]
/-- Cells are what they were, but for how many hold them. -/
def OnlyR (f f' : Nat → Cell) : Prop := ∀ x, f' x = {f x with r := (f' x).r}
theorem OnlyR.refl (f : Nat → Cell) : OnlyR f f := fun _ => rfl
theorem OnlyR.upd (h : OnlyR f g) (k : Nat) (n : Int) : OnlyR f (upd g k {g k with r := n}) := fun x => by
  unfold Ao.upd
  split
  · rename_i e
    subst e
    show ({g x with r := n} : Cell) = {f x with r := n}
    rw [h x]
  · exact h x
/-- Behind a Drop. -/
theorem keepR_drop {ext' : Nat → Nat} {O' : Nat → Prop} {live' : Int} (h : AO W O a f live most ext op) (h' : AO W' O' a f' live' most ext' op) (hg : OnlyR f g) (hl : LeftF g f') (hr : ∀ j, 0 < j → 0 < rest j → 0 < (f j).r) (hr' : ∀ j, rest j ≤ ext' j) : KeepR rest op f f' := by
  have hst : ∀ x, 0 < (f' x).r → f' x = {f x with r := (f' x).r} := fun x hx => by
    obtain ⟨e, _⟩ := hl x hx
    rw [hg x] at e
    exact e
  intro j h0 hj
  have he := hr j h0 hj
  have he' := h'.ext_lv h0 (Nat.lt_of_lt_of_le hj (hr' j))
  refine ⟨fun ho => rec_r (hst j he') ?_, fun ho => same_step h (fun x => 0 < (f' x).r) (fun x _ hx => hst x hx) (fun x hx hx2 y hy => ?_) j ⟨h0, he, ho⟩ he'⟩
  · rw [(h'.op_r ho).2.2, (h.op_r ho).2.2]
  · have hk : kidsOf (f' x).kids = kidsOf (f x).kids := by rw [hst x hx2]
    exact (h'.lv_kid ⟨hx.1, hx2, hx.2.2⟩ (hk ▸ hy)).1.2.1
end
section
variable {W : World} {O : Nat → Prop} {a : Nat} {f : Nat → Cell} {live most : Int} {ext : Nat → Nat} {op : Nat → Bool}
/-- A live cell's lists are no longer than they may be; its others are no negative numbers. -/
theorem AO.kl (h : AO W O a f live most ext op) {i : Nat} (hr : 0 < (f i).r) : (f i).kids.length ≤ 1000 ∧ (f i).vals.length ≤ 1000000000 := by
  obtain ⟨cl, fr, rfl, h⟩ := h
  exact h.kb i _ (fn_live hr) hr
theorem AO.kn (h : AO W O a f live most ext op) {i : Nat} (hi : Lv f op i) : ∀ y ∈ (f i).kids, 0 ≤ y := by
  obtain ⟨cl, fr, rfl, h⟩ := h
  intro y hy
  have hm := mask_at (op := op) (fn_live hi.2.1)
  rw [opn_no hi.2.2] at hm
  exact (h.wf.kn i _ hm hi.2.1 y hy).1
end
theorem mem_kidsOf {l : List Int} {y : Int} (hy : y ∈ l) (h0 : y ≠ 0) : y.toNat ∈ kidsOf l := by
  unfold kidsOf
  exact List.mem_map.2 ⟨y, List.mem_filter.2 ⟨hy, by simpa using h0⟩, rfl⟩
theorem kc_le (l : List Int) (x : Nat) : kc l x ≤ l.length := Nat.le_trans (List.count_le_length ..) (kidsOf_len _)
abbrev workV (a : Nat) (o : Int) : Value := .agg #[.pointer (some ⟨a, 0, none⟩), .int .u32 o]
theorem kc_take (l : List Int) (j : Nat) (x : Int) (hj : j < l.length) (hx : rd l (j : Int) = x) (h0 : 0 ≤ x) : kc (l.take (j + 1)) = fun y => kc (l.take j) y + (if x = 0 then 0 else one x.toNat y) := by
  funext y
  have h := nz_snoc l j x hj hx
  unfold kc
  rw [← nz_map, ← nz_map, h, List.map_append, List.count_append]
  congr 1
  by_cases e : x = 0
  · rw [if_pos e, if_pos e]; rfl
  · rw [if_neg e, if_neg e]
    unfold one
    show List.count y [x.toNat] = _
    rw [List.count_singleton]
    by_cases e2 : y = x.toNat
    · subst e2; simp
    · rw [if_neg e2]
      have : (x.toNat == y) = false := by simpa using fun q => e2 (Eq.symm q)
      simp [this]
theorem kc_take0 (l : List Int) (j : Nat) (x : Int) (hj : j < l.length) (hx : rd l (j : Int) = x) (h0 : x = 0) : kc (l.take (j + 1)) = kc (l.take j) := by
  rw [kc_take l j x hj hx (by omega)]
  funext y
  rw [if_pos h0, Nat.add_zero]
theorem kc_take1 (l : List Int) (j : Nat) (x : Int) (hj : j < l.length) (hx : rd l (j : Int) = x) (h0 : 0 ≤ x) (h1 : x ≠ 0) : kc (l.take (j + 1)) = fun y => kc (l.take j) y + one x.toNat y := by
  rw [kc_take l j x hj hx h0]
  funext y
  rw [if_neg h1]
set_option maxHeartbeats 4000000 in
set_option maxRecDepth 100000 in
theorem open_calls {O : Nat → Prop} {a : Nat} {f : Nat → Cell} {live most : Int} {rest : Nat → Nat} {op : Nat → Bool} (o : Int) (i : Nat) (w : World) (h : AO w O a f live most (fun x => rest x + one i x) op) (hi : 0 < i) (ho : op i = false) (hb : ∀ x, rest x ≤ 90000000000) :
    Calls Try.prog 87 #[workV a o, .int .i64 i] w fun e w' => ∃ v k O' f' live', e = .returned (cellV (f i).ow (f i).a (f i).b v k) ∧ VR w' w.heap.size v (f i).vals ∧ KR w' w.heap.size k (f i).kids ∧ (∀ j, v.ownBlock = some j → k.ownBlock ≠ some j) ∧ (∀ j, v.ownBlock = some j ∨ k.ownBlock = some j → ¬ O' j) ∧ AO w' O' a f' live' most (fun x => rest x + kc (f i).kids x) op ∧ KeepR rest op f f' ∧ (∀ x ∈ kidsOf (f i).kids, Same f f' x) ∧ live' ≤ live ∧ (∀ j, O' j → O j ∨ w.heap.size ≤ j) ∧ Fr O w w' := by
  have hlive : 0 < (f i).r := h.ext_lv hi (by show 0 < rest i + one i i; unfold one; rw [if_pos rfl]; omega)
  have H := Lib.hid h
  have HB := Lib.hid hb
  have HLT := Lib.hid h.lt
  clear h hb
  go_enter Try.func87, Try.ntmps87
  go_wp2_with (first
    | (go_at_call 24; go_loud (refine (get_AO i _ (H.out.below (by repeat (first | (with_reducible first | exact Below.refl _ _ | apply below_alloc | apply pw_below_drewN | apply below_drew1)))) hi hlive).mono ?_; rintro e w1 ⟨v, k, rfl, hv1, hk1, hd1, hB1⟩; obtain ⟨A1, c1, e1⟩ := Kd.R_slice hv1; subst e1; obtain ⟨A2, c2, e2⟩ := Kd.R_slice hk1; subst e2; have HV1 := Lib.hid hv1; have HK1 := Lib.hid hk1; have HD1 := Lib.hid hd1; have HB1 := Lib.hid hB1; clear hv1 hk1 hd1 hB1)))
  have hnB : ∀ b, w.heap.size ≤ b → ¬ O b := fun b hb e => by have := HLT.out b e; omega
  have hbW : Below w.heap.size w (w1.alloc (.cells #[.int .u32 (f i).ow, .int .u32 (f i).a, .int .u32 (f i).b, .slice A1 (f i).vals.length c1, .slice A2 (f i).kids.length c2] 43)) := below_alloc (below_step (below_alloc (below_alloc (Below.refl _ _) _) _) HB1.out) _
  have hb2 := below_alloc (Below.refl w1.heap.size w1) (.cells #[.int .u32 (f i).ow, .int .u32 (f i).a, .int .u32 (f i).b, .slice A1 (f i).vals.length c1, .slice A2 (f i).kids.length c2] 43)
  have hbw := blk_below (blk_below (blk_alloc (blk_new w (.cells #[.pointer (some ⟨a, 0, none⟩), .int .u32 o] 133)) zeroBlk) HB1.out) hb2
  have hbr := blk_below (blk_below (new1 w (.cells #[.pointer (some ⟨a, 0, none⟩), .int .u32 o] 133) zeroBlk) HB1.out) hb2
  have hbc := blk_new w1 (.cells #[.int .u32 (f i).ow, .int .u32 (f i).a, .int .u32 (f i).b, .slice A1 (f i).vals.length c1, .slice A2 (f i).kids.length c2] 43)
  have hA2 := H.out.below hbW
  have hk2 := Kd.R_below HK1.out hb2
  have hv2 := Kd.R_below HV1.out hb2
  have hs1 : w.heap.size + 2 ≤ w1.heap.size := by have := HB1.out.size; simpa using this
  have hki : (w1.alloc (.cells #[.int .u32 (f i).ow, .int .u32 (f i).a, .int .u32 (f i).b, .slice A1 (f i).vals.length c1, .slice A2 (f i).kids.length c2] 43)).heap.size = w1.heap.size + 1 := by simp
  obtain ⟨W2, hW2⟩ : ∃ W2, w1.alloc (.cells #[.int .u32 (f i).ow, .int .u32 (f i).a, .int .u32 (f i).b, .slice A1 (f i).vals.length c1, .slice A2 (f i).kids.length c2] 43) = W2 := ⟨_, rfl⟩
  rw [hW2] at hbW hbw hbr hbc hA2 hk2 hv2 hki ⊢
  have hLv : Lv f op i := ⟨hi, hlive, ho⟩
  have hkl := (AO.kl H.out hlive).1
  have HBW := Lib.hid hbW
  have HBw := Lib.hid hbw
  have HBr := Lib.hid hbr
  have HBc := Lib.hid hbc
  have HA2 := Lib.hid hA2
  have HK2 := Lib.hid hk2
  have HV2 := Lib.hid hv2
  have hkl' : ((f i).kids.length : Int) ≤ 1000 := by omega
  clear hbW hb2 hbw hbr hbc hA2 hk2 hv2 hW2
  go_loopw [19] (fun x wr => ∃ (j : Nat) (fj : Nat → Cell), x = .int .i64 (j : Int) ∧ j ≤ (f i).kids.length ∧ AO wr O a fj live most (fun x => rest x + one i x + kc ((f i).kids.take j) x) op ∧ OnlyR f fj ∧ Fr O W2 wr) (fun x _ => (f i).kids.length - (intOf x).toNat)
  case atStart =>
    refine ⟨0, f, rfl, Nat.zero_le _, ?_, OnlyR.refl f, Fr.refl _ _⟩
    have e : (fun x => rest x + one i x + kc ((f i).kids.take 0) x) = fun x => rest x + one i x := by funext x; simp [kc, kidsOf]
    rw [e]
    exact HA2.out
  case round =>
    obtain ⟨j, fj, rfl, hj, hA, hO, hF⟩ := hrel
    have HA := Lib.hid hA
    have HO := Lib.hid hO
    have HF := Lib.hid hF
    have hbw' := hF.blk HBw.out (hnB _ (by omega))
    have q0 := blk_cell hbw' 0
    have HBw2 := Lib.hid hbw'
    clear hA hO hF hbw'
    by_cases hjl : j < (f i).kids.length
    · obtain ⟨x, hx⟩ : ∃ x, rd (f i).kids (j : Int) = x := ⟨_, rfl⟩
      obtain ⟨A, c, eA, _, hC⟩ := Kd.R_reads HK2.out
      injection eA with eA _ ec
      subst eA ec
      obtain ⟨ad, had, hcc⟩ := Kd.at_int (C_fr kInt_K hC HF.out (fun ad e => hnB _ (by have := HK2.out.1 ad.block (by rw [e]; rfl); simp at this; omega))) (j : Int) (by omega) (by omega)
      subst had
      rw [hx, Int.toNat_natCast] at hcc
      have hxm : x ∈ (f i).kids := by
        have e : (f i).kids[j] = x := by rw [← hx]; simp [rd, List.getD, hjl]
        rw [← e]; exact List.getElem_mem hjl
      have hx0 := AO.kn H.out hLv x hxm
      have HRX := Lib.hid hx
      have HXM := Lib.hid hxm
      have hjl' : (j : Int) < ((f i).kids.length : Int) := by omega
      clear hx hxm hC
      by_cases hz : x = 0
      · subst hz
        have HX := Lib.hid (kc_take0 (f i).kids j 0 hjl HRX.out rfl)
        go_wp2_with (go_at_call 27; go_loud (refine (keepn_AO 0 _ HA.out (isF_zero _)).mono ?_; rintro e w3 ⟨rfl, hB3⟩; have HB3 := Lib.hid hB3; clear hB3))
        go_roundw
        case rel =>
          refine ⟨j + 1, fj, by simp, by omega, ?_, HO.out, HF.out.more HB3.out⟩
          rw [HX.out]
          exact HA.out.below HB3.out
        case measure => simp [intOf]; omega
      · have HX := Lib.hid (kc_take1 (f i).kids j x hjl HRX.out hx0 hz)
        obtain ⟨y, rfl⟩ : ∃ y : Nat, x = y := ⟨x.toNat, by omega⟩
        have hy0 : 0 < y := by omega
        have hif : 0 < (fj i).r := HA.out.ext_lv hi (by show 0 < rest i + one i i + _; unfold one; rw [if_pos rfl]; omega)
        have hyk : y ∈ kidsOf (fj i).kids := by
          rw [HO.out i]
          have := mem_kidsOf HXM.out (by omega)
          rwa [Int.toNat_natCast] at this
        have hyl := (HA.out.lv_kid ⟨hi, hif, ho⟩ hyk).1
        have hey : rest y + one i y + kc ((f i).kids.take j) y < 100000000000 := by
          have h1 := HB.out y
          have h2 := kc_le ((f i).kids.take j) y
          have h3 : ((f i).kids.take j).length ≤ 1000 := by rw [List.length_take]; omega
          have h4 : one i y ≤ 1 := by unfold one; split <;> omega
          omega
        have HY := Lib.hid hyl
        have HEY := Lib.hid hey
        clear hyl hey hyk hif
        go_wp2_with (go_at_call 27; go_loud (refine (keep_AO y _ HA.out hy0 HY.out.2.1 HY.out.2.2 HEY.out).mono ?_; rintro e w3 ⟨rfl, hA3, hF3⟩; have HA3 := Lib.hid hA3; have HF3 := Lib.hid hF3; clear hA3 hF3))
        go_roundw
        case rel =>
          refine ⟨j + 1, Ao.upd fj y {fj y with r := (fj y).r + 1}, by simp, by omega, ?_, HO.out.upd y _, HF.out.trans HF3.out⟩
          rw [HX.out]
          have e : (fun x => if x = y then rest x + one i x + kc ((f i).kids.take j) x + 1 else rest x + one i x + kc ((f i).kids.take j) x) = fun x => rest x + one i x + (kc ((f i).kids.take j) x + one (Int.toNat (y : Int)) x) := by
            funext x
            rw [Int.toNat_natCast]
            unfold one
            split <;> omega
          rw [← e]
          exact HA3.out
        case measure => simp [intOf]; omega
    · have hjl' : ¬ (j : Int) < ((f i).kids.length : Int) := by omega
      obtain rfl : j = (f i).kids.length := by omega
      have hbc' := HF.out.blk HBc.out (hnB _ (by omega))
      have hbr' := HF.out.blk HBr.out (hnB _ (by omega))
      have HBc2 := Lib.hid hbc'
      have HBr2 := Lib.hid hbr'
      clear hbc' hbr'
      go_wp2_with (go_at_call 23; go_loud (refine (drop_AO i _ HA.out hi (by show 0 < rest i + one i i + _; unfold one; rw [if_pos rfl]; omega) ho).mono ?_; rintro e w4 ⟨rfl, O4, f4, live4, hA4, hL4, hll4, hO4, hF4⟩; have hbc4 := hF4.blk HBc2.out (hnB _ (by omega)); have hbr4 := hF4.blk HBr2.out (hnB _ (by omega)); have r0 := blk_cell hbc4 0; have r1 := blk_cell hbc4 1; have r2 := blk_cell hbc4 2; have r3 := blk_cell hbc4 3; have r4 := blk_cell hbc4 4; have s0 := blk_cell hbr4 0; have s1 := blk_cell hbr4 1; have s2 := blk_cell hbr4 2; have s3 := blk_cell hbr4 3; have s4 := blk_cell hbr4 4; have z0 := blk_frozen hbr4 0; have z1 := blk_frozen hbr4 1; have z2 := blk_frozen hbr4 2; have z3 := blk_frozen hbr4 3; have z4 := blk_frozen hbr4 4; have HBr4 := Lib.hid hbr4; have HA4 := Lib.hid hA4; have HL4 := Lib.hid hL4; have HLL4 := Lib.hid hll4; have HO4 := Lib.hid hO4; have HF4 := Lib.hid hF4; clear hbc4 hbr4 hA4 hL4 hll4 hO4 hF4))
      refine bodyPost_ret (results_cell_row rfl _ _ (w.heap.size + 1) 43 #[.int .u32 (f i).ow, .int .u32 (f i).a, .int .u32 (f i).b, .slice A1 (f i).vals.length c1, .slice A2 (f i).kids.length c2] (0, 0) _ rfl (ret5 HBr4.out _ _ _ _ _) Try.underlying43 rfl (by kernel_rfl)) rfl ?_
      have hf5 := fr5 w4 (w.heap.size + 1) (.int .u32 (f i).ow) (.int .u32 (f i).a) (.int .u32 (f i).b) (.slice A1 (f i).vals.length c1) (.slice A2 (f i).kids.length c2)
      have hF5 : Fr (fun b => O b ∨ b = w.heap.size + 1) W2 _ := ((HF.out.trans HF4.out).mono (S' := fun b => O b ∨ b = w.heap.size + 1) (fun b hb => .inl (.inl hb))).then_ hf5 (fun b hb => .inl (.inr hb))
      have hek : (fun x => if x = i then rest x + one i x + kc ((f i).kids.take (f i).kids.length) x - 1 else rest x + one i x + kc ((f i).kids.take (f i).kids.length) x) = fun x => rest x + kc (f i).kids x := by
        funext x
        rw [List.take_length]
        unfold one
        split <;> omega
      have hA5 := HA4.out
      rw [hek] at hA5
      have h4lt := hA5.lt
      have hno4 : ∀ b, O4 b → b ≠ w.heap.size + 1 := fun b hb e => by
        rcases HO4.out b hb with q | q
        · exact hnB b (by omega) q
        · have := HF.out.size
          omega
      have hk5 := AO.move hA5 hf5 hno4
      have hkeep := keepR_drop (rest := fun x => rest x + kc (f i).kids x) HA2.out hA5 HO.out HL4.out (fun x h0 hx => by
        by_cases hr : 0 < rest x
        · exact HA2.out.ext_lv h0 (by show 0 < rest x + _; omega)
        · exact (HA2.out.lv_kid hLv (List.count_pos_iff.1 (by show 0 < kc (f i).kids x; omega))).1.2.1) (fun x => Nat.le_refl _)
      have hVb : ∀ b, (Value.slice A1 (f i).vals.length c1).ownBlock = some b → w.heap.size + 2 ≤ b ∧ b < W2.heap.size := fun b hb => ⟨by have := HV2.out.1 b hb; simpa using this, by obtain ⟨q, ho⟩ := Kd.R_own HV2.out; exact own_lt ho b hb⟩
      have hKb : ∀ b, (Value.slice A2 (f i).kids.length c2).ownBlock = some b → w.heap.size + 2 ≤ b ∧ b < W2.heap.size := fun b hb => ⟨by have := HK2.out.1 b hb; simpa using this, by obtain ⟨q, ho⟩ := Kd.R_own HK2.out; exact own_lt ho b hb⟩
      have hsz : ((w.alloc (.cells #[.pointer (some ⟨a, 0, none⟩), .int .u32 o] 133)).alloc zeroBlk).heap.size = w.heap.size + 2 := by simp
      have hv5 : VR _ w.heap.size (.slice A1 (f i).vals.length c1) (f i).vals := Kd.R_lower (Kd.R_mono (Kd.R_kept (Kd.R_reok (ok := fun b => w.heap.size + 2 ≤ b) rfl HV2.out (fun b hb => (hVb b hb).1)) hF5.kept (fun b hb e => e.elim (hnB b (by omega)) (fun q => by omega))) (fun b hb => by omega)) (by rw [hsz]; omega)
      have hk5' : KR _ w.heap.size (.slice A2 (f i).kids.length c2) (f i).kids := Kd.R_lower (Kd.R_mono (Kd.R_kept (Kd.R_reok (ok := fun b => w.heap.size + 2 ≤ b) rfl HK2.out (fun b hb => (hKb b hb).1)) hF5.kept (fun b hb e => e.elim (hnB b (by omega)) (fun q => by omega))) (fun b hb => by omega)) (by rw [hsz]; omega)
      refine ⟨_, _, O4, f4, live4, rfl, hv5, hk5', HD1.out, fun b hb e => ?_, hk5, hkeep.mono (fun x hx => by show 0 < rest x + _; omega), fun x hx => ?_, HLL4.out, fun b hb => ?_, ?_⟩
      · have hb2 : w.heap.size + 2 ≤ b ∧ b < W2.heap.size := hb.elim (hVb b) (hKb b)
        rcases HO4.out b e with q | q
        · exact hnB b (by omega) q
        · have := HF.out.size
          omega
      · have hk := (HA2.out.lv_kid hLv hx).1
        exact (hkeep x hk.1 (by show 0 < rest x + kc (f i).kids x; have : 0 < kc (f i).kids x := List.count_pos_iff.2 hx; omega)).2 hk.2.2
      · rcases HO4.out b hb with q | q
        · exact .inl q
        · have := HF.out.size
          exact .inr (by omega)
      · exact Fr.then_ (Fr.of_new HBW.out) hF5 (fun b hb => hb.elim .inl (fun q => .inr (by omega)))
end Go.Proofs.Ytnipbfhfaefieaa.Pv
/-! pvec: a cell is made. -/
namespace Go.Proofs.Ytnipbfhfaefieaa.Pv
open Go.RowKit Go Go.Proofs.YtnipbfhfaefieaaW.PrintWords Go.Proofs.YtnipbfhfaefieaaW.PrintMore Go.Proofs.YtnipbfhfaefieaaW.PrintLast Go.Proofs.Ytnipbfhfaefieaa.Bts Go.Proofs.Ytnipbfhfaefieaa.Fra Go.Proofs.Ytnipbfhfaefieaa.ArnP Go.Proofs.Ytnipbfhfaefieaa.Arn Go.Proofs.Ytnipbfhfaefieaa.Ao
section
variable {W W' : World} {O S Q : Nat → Prop} {a : Nat} {f f' g : Nat → Cell} {live most : Int} {ext rest : Nat → Nat} {op : Nat → Bool}
theorem upd_ne {f : Nat → Cell} {k x : Nat} (c : Cell) (h : x ≠ k) : upd f k c x = f x := if_neg h
theorem upd_eq (f : Nat → Cell) (k : Nat) (c : Cell) : upd f k c k = c := if_pos rfl
/-- Behind a Make, or an Edit: nobody else leads to the cell. -/
theorem keepR_upd (h : AO W O a f live most ext op) (k : Nat) (c : Cell) (hk : ¬ Lv f op k) (hko : op k = false ∨ rest k = 0) (hr : ∀ j, 0 < j → 0 < rest j → 0 < (f j).r) : KeepR rest op f (upd f k c) := by
  intro j h0 hj
  have hlj := hr j h0 hj
  refine ⟨fun ho => upd_ne _ (fun e => ?_), fun ho => same_step h (fun x => True) (fun x hx _ => ?_) (fun _ _ _ _ _ => trivial) j ⟨h0, hlj, ho⟩ trivial⟩
  · subst e
    rcases hko with q | q
    · rw [ho] at q; cases q
    · omega
  · rw [upd_ne _ (fun e => by subst e; exact hk hx)]
/-- Open cells: their holds are among the others'. -/
theorem op_kc {l : List Int} (h : AO W O a f live most (fun x => rest x + kc l x) op) (hro : ∀ x, op x = true → 1 ≤ rest x) : ∀ x, op x = true → kc l x = 0 := fun x hx => by
  have h1 := (h.op_r hx).2.1
  have h2 := hro x hx
  have h1 : rest x + kc l x = 1 := h1
  omega
end
theorem make_ao {O Q : Nat → Prop} {a : Nat} {f : Nat → Cell} {live most : Int} {rest : Nat → Nat} {op : Nat → Bool} (ow x y : Int) (v k : Value) (vals : List (Int × Int × ByteArray)) (kids : List Int) (w : World) (h : AO w O a f live most (fun z => rest z + kc kids z) op) (hv : RowIn kVal w Q v vals) (hk : RowIn (Kd.int .i64) w Q k kids) (hQ : ∀ j, Q j → ¬ O j) (hn : ∀ z ∈ kids, 0 ≤ z) (hlm : live < most) (hkl : kids.length ≤ 1000) (hvl : vals.length ≤ 1000000000) (hro : ∀ z, op z = true → 1 ≤ rest z) :
    Calls Try.prog 21 #[.pointer (some ⟨a, 0, none⟩), cellV ow x y v k] w fun e w' => ∃ (i : Nat) (O' : Nat → Prop), e = .returned (.tuple #[.int .i64 i, .int .i64 0]) ∧ AO w' O' a (upd f i ⟨ow, x, y, vals, kids, 1⟩) (live + 1) most (fun z => rest z + one i z) op ∧ 0 < i ∧ (f i).r = 0 ∧ op i = false ∧ KeepR rest op f (upd f i ⟨ow, x, y, vals, kids, 1⟩) ∧ (∀ j, O' j → O j ∨ w.heap.size ≤ j) ∧ Fr O w w' := by
  have hct : ∀ z, 0 < z → (kidsOf kids).count z ≤ rest z + kc kids z := fun z _ => Nat.le_add_left _ _
  have hop := op_kc h hro
  refine (make_AO ow x y v k vals kids w h hv hk hQ (bad_of_ext h hn hct) hlm hkl hvl hct hop).mono ?_
  rintro e w' ⟨i, O', he, hA, h0, hr, ho, hO, hF⟩
  have hx := h.ext_r h0
  have hx : ((rest i + kc kids i : Nat) : Int) ≤ (f i).r := hx
  have e1 : (fun z => if z = i then 1 else rest z + kc kids z - (kidsOf kids).count z) = fun z => rest z + one i z := by
    funext z
    unfold one
    by_cases q : z = i
    · rw [if_pos q, if_pos q, q]; omega
    · rw [if_neg q, if_neg q]
      show rest z + kc kids z - kc kids z = _
      omega
  rw [e1] at hA
  exact ⟨i, O', he, hA, h0, hr, ho, keepR_upd h i _ (fun q => by have := q.2.1; omega) (.inl ho) (fun j hj hr2 => h.ext_lv hj (by show 0 < rest j + _; omega)), hO, hF⟩
set_option maxHeartbeats 4000000 in
set_option maxRecDepth 100000 in
/-- make, with nothing to be done to the cell. -/
theorem make_nil {O Q : Nat → Prop} {a : Nat} {f : Nat → Cell} {live most : Int} {rest : Nat → Nat} {op : Nat → Bool} (o ow x y : Int) (v k : Value) (vals : List (Int × Int × ByteArray)) (kids : List Int) (w : World) (h : AO w O a f live most (fun z => rest z + kc kids z) op) (hv : RowIn kVal w Q v vals) (hk : RowIn (Kd.int .i64) w Q k kids) (hQ : ∀ j, Q j → ¬ O j) (hn : ∀ z ∈ kids, 0 ≤ z) (hlm : live < most) (hkl : kids.length ≤ 1000) (hvl : vals.length ≤ 1000000000) (hro : ∀ z, op z = true → 1 ≤ rest z) :
    Calls Try.prog 82 #[workV a o, cellV ow x y v k, .nilFunc] w fun e w' => ∃ (i : Nat) (O' : Nat → Prop), e = .returned (.int .i64 i) ∧ AO w' O' a (upd f i ⟨o, x, y, vals, kids, 1⟩) (live + 1) most (fun z => rest z + one i z) op ∧ 0 < i ∧ (f i).r = 0 ∧ op i = false ∧ KeepR rest op f (upd f i ⟨o, x, y, vals, kids, 1⟩) ∧ (∀ j, O' j → O j ∨ w.heap.size ≤ j) ∧ Fr O w w' := by
  have HVR := Lib.hid hv
  have HKR := Lib.hid hk
  obtain ⟨A1, c1, rfl, _⟩ := hv
  obtain ⟨A2, c2, rfl, _⟩ := hk
  have H := Lib.hid h
  have hb : Below w.heap.size w ((w.alloc (.cells #[.pointer (some ⟨a, 0, none⟩), .int .u32 o] 133)).alloc (.cells #[.int .u32 o, .int .u32 x, .int .u32 y, .slice A1 vals.length c1, .slice A2 kids.length c2] 43)) := below_alloc (below_alloc (Below.refl _ _) _) _
  have HA := Lib.hid (h.below hb)
  have hvs := HVR.out.below hb
  have hks := HKR.out.below hb
  have hnf : ∀ w : World, (binOp .neq 138 .nilFunc .nilFunc).run Try.prog w = .ok (.bool false) w := fun _ => by kernel_rfl
  have HVS := Lib.hid hvs
  have HKS := Lib.hid hks
  have HF := Lib.hid hb
  clear h hvs hks hb
  go_enter Try.func82, Try.ntmps82
  go_wp2_with (go_at_call 21; go_loud (refine (make_ao o x y _ _ vals kids _ HA.out HVS.out HKS.out hQ hn hlm hkl hvl hro).mono ?_; rintro e w3 ⟨i, O', rfl, hA3, h0, hr, hoi, hK, hO3, hF3⟩))
  go_ret
  refine ⟨i, O', rfl, hA3, h0, hr, hoi, hK, fun j hj => (hO3 j hj).imp id (fun q => Nat.le_trans HF.out.size q), ?_⟩
  exact (Fr.of_new HF.out).trans hF3
end Go.Proofs.Ytnipbfhfaefieaa.Pv
/-! pvec: make and change, with what is done to the cell. Printed by wip/tools/gen_pvd.py. -/
namespace Go.Proofs.Ytnipbfhfaefieaa.Pv
open Go.RowKit Go Go.Proofs.YtnipbfhfaefieaaW.PrintWords Go.Proofs.YtnipbfhfaefieaaW.PrintMore Go.Proofs.YtnipbfhfaefieaaW.PrintLast Go.Proofs.Ytnipbfhfaefieaa.Bts Go.Proofs.Ytnipbfhfaefieaa.Fra Go.Proofs.Ytnipbfhfaefieaa.ArnP Go.Proofs.Ytnipbfhfaefieaa.Arn Go.Proofs.Ytnipbfhfaefieaa.Ao
/-- A cell in a block, with rows of its own, that is none of an arena's. -/
structure CBO (w : World) (O : Nat → Prop) (lo b : Nat) (v k : Value) (c : Cell) : Prop where
  blk : w.heap[b]? = some (.cells #[.int .u32 c.ow, .int .u32 c.a, .int .u32 c.b, v, k] 43 (0, 0))
  vr : VR w lo v c.vals
  kr : KR w lo k c.kids
  vk : ∀ j, v.ownBlock = some j → k.ownBlock ≠ some j ∧ j ≠ b ∧ ¬ O j
  kk : ∀ j, k.ownBlock = some j → j ≠ b ∧ ¬ O j
  no : ¬ O b
/-- What a call that does something to a cell may write. -/
def Wr (O : Nat → Prop) (b : Nat) (v k : Value) : Nat → Prop := fun j => O j ∨ j = b ∨ v.ownBlock = some j ∨ k.ownBlock = some j
theorem CBO.move {w w' : World} {O S : Nat → Prop} {lo b : Nat} {v k : Value} {c : Cell} (h : CBO w O lo b v k c) (hf : Fr S w w') (hb : ¬ S b) (hv : ∀ j, v.ownBlock = some j → ¬ S j) (hk : ∀ j, k.ownBlock = some j → ¬ S j) : CBO w' O lo b v k c := by
  have h1 := Kd.R_tight2 (d := kVal) rfl h.vr
  have h2 := Kd.R_tight2 (d := Kd.int .i64) rfl h.kr
  exact ⟨hf.blk h.blk hb, Kd.R_mono (Kd.R_kept h1 hf.kept (fun j hj => hv j hj.1.symm)) (fun j hj => hj.2), Kd.R_mono (Kd.R_kept h2 hf.kept (fun j hj => hk j hj.1.symm)) (fun j hj => hj.2), h.vk, h.kk, h.no⟩
theorem CBO.below {w w' : World} {O : Nat → Prop} {lo b : Nat} {v k : Value} {c : Cell} (h : CBO w O lo b v k c) (hb : Below w.heap.size w w') : CBO w' O lo b v k c := h.move (Fr.of_new (S := fun _ => False) hb) id (fun _ _ => id) (fun _ _ => id)
theorem CBO.rows {w : World} {O : Nat → Prop} {lo b : Nat} {v k : Value} {c : Cell} (h : CBO w O lo b v k c) : RowIn kVal w (fun j => ¬ O j) v c.vals ∧ RowIn (Kd.int .i64) w (fun j => ¬ O j) k c.kids := by
  constructor
  · obtain ⟨A, n, e, h1, h2, h3, h4⟩ := RowIn.of_R h.vr
    exact ⟨A, n, e, h1, h2, h3, fun ad ha => ⟨(h.vk ad.block (by rw [e, ha]; rfl)).2.2, (h4 ad ha).2⟩⟩
  · obtain ⟨A, n, e, h1, h2, h3, h4⟩ := RowIn.of_R h.kr
    exact ⟨A, n, e, h1, h2, h3, fun ad ha => ⟨(h.kk ad.block (by rw [e, ha]; rfl)).2, (h4 ad ha).2⟩⟩
/-- What is promised of a function that does something to a cell: args are its arguments, from the cell's address on. -/
def Cb (N : Nat) (args : Value → Array Value) (w0 : World) (O0 : Nat → Prop) (a : Nat) (most : Int) (rest ex : Nat → Nat) (op : Nat → Bool) (f0 : Nat → Cell) (need : Int) (c : Cell) (R : (Nat → Cell) → Cell → Prop) : Prop :=
  ∀ (w : World) (O : Nat → Prop) (f : Nat → Cell) (live : Int) (lo b : Nat) (v k : Value), AO w O a f live most (fun x => rest x + ex x + kc c.kids x) op → Fr O0 w0 w → (∀ j, O j → O0 j ∨ w0.heap.size ≤ j) → w0.heap.size ≤ lo → lo ≤ w.heap.size → w0.heap.size ≤ b → CBO w O lo b v k c → KeepR (fun x => rest x + ex x) op f0 f → (∀ x ∈ kidsOf c.kids, Same f0 f x) → live + need ≤ most →
    Calls Try.prog N (args (.pointer (some ⟨b, 0, none⟩))) w fun e w' => e = .returned (.tuple #[]) ∧ ∃ (O' : Nat → Prop) (f' : Nat → Cell) (live' : Int) (c' : Cell) (v' k' : Value), AO w' O' a f' live' most (fun x => rest x + kc c'.kids x) op ∧ CBO w' O' lo b v' k' c' ∧ Fr (Wr O b v k) w w' ∧ (∀ j, O' j → O j ∨ w.heap.size ≤ j) ∧ live' ≤ live + need ∧ KeepR rest op f f' ∧ R f' c' ∧ c'.ow = c.ow ∧ c'.kids.length ≤ 1000 ∧ c'.vals.length ≤ 1000000000 ∧ (∀ z ∈ c'.kids, 0 ≤ z)
/-- A row whose block is another one than those of S. -/
theorem row_ne {α : Type} {d : Kd α} {w : World} {Q S : Nat → Prop} {v : Value} {xs : List α} (h : RowIn d w Q v xs) (hs : ∀ j, v.ownBlock = some j → ¬ S j) : RowIn d w (fun j => Q j ∧ ¬ S j) v xs := by
  obtain ⟨A, c, e, h1, h2, h3, h4⟩ := h
  exact ⟨A, c, e, h1, h2, h3, fun ad ha => ⟨⟨(h4 ad ha).1, hs _ (by rw [e, ha]; rfl)⟩, (h4 ad ha).2⟩⟩
theorem cbo_new {w w1 : World} {O : Nat → Prop} {base : Nat} {v k : Value} {c : Cell} (hv : VR w1 base v c.vals) (hk : KR w1 base k c.kids) (hd : ∀ j, v.ownBlock = some j → k.ownBlock ≠ some j) (hnB : ∀ b, w.heap.size ≤ b → ¬ O b) (hb : base = w.heap.size + 1) (hle : w.heap.size + 1 ≤ w1.heap.size) : CBO (w1.alloc (.cells #[.int .u32 c.ow, .int .u32 c.a, .int .u32 c.b, v, k] 43)) O (w.heap.size + 1) w1.heap.size v k c := by
  subst hb
  have hbl := below_alloc (Below.refl w1.heap.size w1) (.cells #[.int .u32 c.ow, .int .u32 c.a, .int .u32 c.b, v, k] 43)
  obtain ⟨q1, o1⟩ := Kd.R_own hv
  obtain ⟨q2, o2⟩ := Kd.R_own hk
  exact ⟨blk_new w1 _, Kd.R_below hv hbl, Kd.R_below hk hbl, fun j hj => ⟨hd j hj, by have := own_lt o1 j hj; omega, hnB j (by have := own_base o1 j hj; omega)⟩, fun j hj => ⟨by have := own_lt o2 j hj; omega, hnB j (by have := own_base o2 j hj; omega)⟩, hnB _ (by omega)⟩
theorem rows_from {w w1 : World} {base : Nat} {v k : Value} {xs : List (Int × Int × ByteArray)} {ys : List Int} (hv : VR w1 base v xs) (hk : KR w1 base k ys) (hb : w.heap.size + 1 ≤ base) : ∀ j, v.ownBlock = some j ∨ k.ownBlock = some j → w.heap.size + 1 ≤ j := by
  obtain ⟨q1, o1⟩ := Kd.R_own hv
  obtain ⟨q2, o2⟩ := Kd.R_own hk
  rintro j (hj | hj)
  · have := own_base o1 j hj; omega
  · have := own_base o2 j hj; omega
theorem wr_no {w : World} {O : Nat → Prop} {b : Nat} {v k : Value} (hnB : ∀ b, w.heap.size ≤ b → ¬ O b) (hvk : ∀ j, v.ownBlock = some j ∨ k.ownBlock = some j → w.heap.size + 1 ≤ j) (hb : w.heap.size + 1 ≤ b) : ¬ Wr O b v k w.heap.size := by
  rintro (e | e | e | e)
  · exact hnB _ (Nat.le_refl _) e
  · omega
  · have := hvk _ (.inl e); omega
  · have := hvk _ (.inr e); omega
section
variable {O O0 : Nat → Prop} {a : Nat} {f f' : Nat → Cell} {live most : Int} {rest : Nat → Nat} {op : Nat → Bool}
theorem refs_ao {ext : Nat → Nat} (i : Nat) (w : World) (h : AO w O a f live most ext op) (hi : 0 < i) (hr : 0 < (f i).r) : Calls Try.prog 26 #[.pointer (some ⟨a, 0, none⟩), .int .i64 i] w fun e w' => e = .returned (.int .i64 (f i).r) ∧ Below w.heap.size w w' := by
  have := refs_AO (i : Int) w h
  rwa [isF_at hi hr, if_pos rfl, Int.toNat_natCast] at this
theorem open_ao {w : World} {i : Nat} (h : AO w O a f live most (fun z => rest z + one i z) op) (hi : 0 < i) (hr : (f i).r = 1) (ho : op i = false) (hone : one i i = 1) (hb : ∀ x, rest x ≤ 80000000000) : AO w O a f live most (fun x => rest x + one i x + kc (f i).kids x) (fun x => x == i || op x) :=
  h.open_ hi hr (by show 0 < rest i + one i i; omega) (fun x => by
    have h1 := hb x
    have h2 : one i x ≤ 1 := by unfold one; split <;> omega
    show rest x + one i x ≤ _
    omega) ho
theorem open_ex {ex : Nat → Nat} {w : World} {i : Nat} (h : AO w O a f live most (fun z => rest z + ex z + one i z) op) (hi : 0 < i) (hr : (f i).r = 1) (ho : op i = false) (hone : one i i = 1) (hb : ∀ x, rest x + ex x ≤ 80000000000) : AO w O a f live most (fun x => rest x + one i x + ex x + kc (f i).kids x) (fun x => x == i || op x) := by
  have := open_ao (rest := fun z => rest z + ex z) h hi hr ho hone hb
  have e : (fun x => rest x + ex x + one i x + kc (f i).kids x) = fun x => rest x + one i x + ex x + kc (f i).kids x := by funext x; omega
  rwa [e] at this
theorem edit_in {w3 : World} {O3 : Nat → Prop} {f3 : Nat → Cell} {live3 : Int} {lo b : Nat} {v k : Value} {c3 : Cell} {i : Nat} {o : Int} (hA3 : AO w3 O3 a f3 live3 most (fun x => rest x + one i x + kc c3.kids x) (fun x => x == i || op x)) (hC3 : CBO w3 O3 lo b v k c3) (hfi : f3 i = f i) (ho : o ≠ 0) (hi : 0 < i) (hr : (f i).r = 1) (how : (f i).ow = o) (hopi : op i = false) (hone : one i i = 1) (hb : ∀ x, rest x ≤ 80000000000) (hro : ∀ z, op z = true → 1 ≤ rest z) (hz1 : c3.kids.length ≤ 1000) (hz2 : c3.vals.length ≤ 1000000000) (hz3 : ∀ z ∈ c3.kids, 0 ≤ z) :
    Calls Try.prog 28 #[.pointer (some ⟨a, 0, none⟩), .int .i64 i, .int .u32 o, cellV c3.ow c3.a c3.b v k] w3 fun e w' => e = .returned (.int .i64 0) ∧ ∃ O', AO w' O' a (upd f3 i {c3 with ow := o, r := 1}) live3 most (fun z => rest z + one i z) op ∧ (∀ j, O' j → O3 j ∨ w3.heap.size ≤ j) ∧ Fr O3 w3 w' := by
  have hro' : ∀ z, (fun x => x == i || op x) z = true → 1 ≤ rest z + one i z := by
    intro z hz
    by_cases e : z = i
    · subst e; omega
    · have hz2 : (z == i || op z) = true := hz
      rw [show (z == i) = false by simpa using e, Bool.false_or] at hz2
      have := hro z hz2
      omega
  have hop := op_kc (rest := fun z => rest z + one i z) hA3 hro'
  have hct : ∀ x, 0 < x → (kidsOf c3.kids).count x ≤ rest x + one i x + kc c3.kids x := fun x _ => Nat.le_add_left _ _
  refine (edit_AO i o c3.ow c3.a c3.b v k c3.vals c3.kids w3 hA3 hi (by rw [hfi]; exact hr) (by show 0 < rest i + one i i + _; omega) hC3.rows.1 hC3.rows.2 (bad_of_ext hA3 hz3 hct) ho (by rw [hfi]; exact how) hz1 hz2 [] (by show [] = kidsOf (opn (fun x => x == i || op x) i (f3 i)).kids; unfold opn; rw [if_pos (by simp)]; rfl) (fun x hx => Nat.le_trans (hct x hx) (Nat.le_add_right _ _)) hop (hop i (by simp)) (fun x => by
    have h1 := hb x
    have h2 : one i x ≤ 1 := by unfold one; split <;> omega
    have h3 := kc_le c3.kids x
    show rest x + one i x + kc c3.kids x ≤ _
    omega)).mono ?_
  rintro e w' ⟨he, O', hA, hO, hF⟩
  have e1 : (fun x => rest x + one i x + kc c3.kids x + List.count x [] - (kidsOf c3.kids).count x) = fun z => rest z + one i z := by
    funext x
    show rest x + one i x + kc c3.kids x + 0 - kc c3.kids x = _
    omega
  have e2 : (fun x => (x == i || op x) && x != i) = op := by
    funext x
    show ((x == i || op x) && x != i) = op x
    by_cases q : x = i
    · subst q; simp [hopi]
    · have h1 : (x == i) = false := by simpa using q
      have h2 : (x != i) = true := by simpa using q
      rw [h1, h2, Bool.false_or, Bool.and_true]
  rw [e1, e2] at hA
  exact ⟨he, O', hA, hO, hF⟩
end
end Go.Proofs.Ytnipbfhfaefieaa.Pv
