/- Texts of this claim, laid together: PvDhang, PvL, PvM, PvN. -/
import Derived.Test.YtnipbfhfaefieaaUi
import Derived.Test.YtnipbfhfaefieaaUj
/-! pvec: make and change, for hang 1. Printed by wip/tools/gen_pvd.py. -/
namespace Go.Proofs.Ytnipbfhfaefieaa.Pv
open Go.RowKit Go Go.Proofs.YtnipbfhfaefieaaW.PrintWords Go.Proofs.YtnipbfhfaefieaaW.PrintMore Go.Proofs.YtnipbfhfaefieaaW.PrintLast Go.Proofs.Ytnipbfhfaefieaa.Bts Go.Proofs.Ytnipbfhfaefieaa.Fra Go.Proofs.Ytnipbfhfaefieaa.ArnP Go.Proofs.Ytnipbfhfaefieaa.Arn Go.Proofs.Ytnipbfhfaefieaa.Ao
set_option maxHeartbeats 4000000 in
set_option maxRecDepth 100000 in
theorem make_hang {O O0 : Nat → Prop} {a : Nat} {f f0 : Nat → Cell} {live most need : Int} {rest ex : Nat → Nat} {op : Nat → Bool} {c : Cell} {R : (Nat → Cell) → Cell → Prop} (o : Int) (v k p1 p2 p3 p4 : Value) (lo : Nat) (w0 w : World) (h : AO w O a f live most (fun z => rest z + ex z + kc c.kids z) op) (hv : VR w lo v c.vals) (hk : KR w lo k c.kids) (hvk : ∀ j, v.ownBlock = some j → k.ownBlock ≠ some j) (hno : ∀ j, v.ownBlock = some j ∨ k.ownBlock = some j → ¬ O j)
    (hcb : Cb 103 (fun p => #[p, p1, p2, p3, p4]) w0 O0 a most rest ex op f0 need c R) (hF : Fr O0 w0 w) (hO : ∀ j, O j → O0 j ∨ w0.heap.size ≤ j) (hlo : w0.heap.size ≤ lo) (hlo2 : lo ≤ w.heap.size) (hK : KeepR (fun x => rest x + ex x) op f0 f) (hS : ∀ x ∈ kidsOf c.kids, Same f0 f x) (hlm : live + need < most) (hro : ∀ z, op z = true → 1 ≤ rest z) :
    Calls Try.prog 82 #[workV a o, cellV c.ow c.a c.b v k, .func (.func 103) #[] #[p1, p2, p3, p4]] w fun e w' => ∃ (i : Nat) (O' : Nat → Prop) (f' : Nat → Cell) (live' : Int) (c' : Cell), e = .returned (.int .i64 i) ∧ AO w' O' a (upd f' i {c' with ow := o, r := 1}) live' most (fun z => rest z + one i z) op ∧ live' ≤ live + need + 1 ∧ R f' c' ∧ (∀ x ∈ kidsOf c'.kids, Same f' (upd f' i {c' with ow := o, r := 1}) x) ∧ 0 < i ∧ op i = false ∧ KeepR rest op f (upd f' i {c' with ow := o, r := 1}) ∧ (∀ j, O' j → O j ∨ w.heap.size ≤ j) ∧ Fr (fun j => O j ∨ v.ownBlock = some j ∨ k.ownBlock = some j) w w' := by
  obtain ⟨A1, c1, e1⟩ := Kd.R_slice hv
  obtain ⟨A2, c2, e2⟩ := Kd.R_slice hk
  subst e1 e2
  have hb : Below w.heap.size w ((w.alloc (.cells #[.pointer (some ⟨a, 0, none⟩), .int .u32 o] 133)).alloc (.cells #[.int .u32 c.ow, .int .u32 c.a, .int .u32 c.b, .slice A1 c.vals.length c1, .slice A2 c.kids.length c2] 43)) := below_alloc (below_alloc (Below.refl _ _) _) _
  have hbw := blk_alloc (blk_new w (.cells #[.pointer (some ⟨a, 0, none⟩), .int .u32 o] 133)) (.cells #[.int .u32 c.ow, .int .u32 c.a, .int .u32 c.b, .slice A1 c.vals.length c1, .slice A2 c.kids.length c2] 43)
  have hbc := new1 w (.cells #[.pointer (some ⟨a, 0, none⟩), .int .u32 o] 133) (.cells #[.int .u32 c.ow, .int .u32 c.a, .int .u32 c.b, .slice A1 c.vals.length c1, .slice A2 c.kids.length c2] 43)
  have hlt := h.lt
  have hvl : ∀ j, (Value.slice A1 c.vals.length c1).ownBlock = some j → j < w.heap.size := fun j hj => by obtain ⟨q, ho⟩ := Kd.R_own hv; exact own_lt ho j hj
  have hkl : ∀ j, (Value.slice A2 c.kids.length c2).ownBlock = some j → j < w.heap.size := fun j hj => by obtain ⟨q, ho⟩ := Kd.R_own hk; exact own_lt ho j hj
  have hcbo : CBO _ O lo (w.heap.size + 1) (.slice A1 c.vals.length c1) (.slice A2 c.kids.length c2) c := ⟨hbc, Kd.R_below hv hb, Kd.R_below hk hb, fun j hj => ⟨hvk j hj, by have := hvl j hj; omega, hno j (.inl hj)⟩, fun j hj => ⟨by have := hkl j hj; omega, hno j (.inr hj)⟩, fun e => by have := hlt _ e; omega⟩
  have hnf : ∀ w : World, (binOp .neq 138 (.func (.func 103) #[] #[p1, p2, p3, p4]) .nilFunc).run Try.prog w = .ok (.bool true) w := fun _ => by kernel_rfl
  have HB := Lib.hid hb
  have HBW := Lib.hid hbw
  have HCB := Lib.hid hcbo
  have HA := Lib.hid (h.below hb)
  have HC := Lib.hid hcb
  have HF := Lib.hid (hF.more hb)
  have HO := Lib.hid hO
  have HK := Lib.hid hK
  have HS := Lib.hid hS
  have HVL := Lib.hid hvl
  have HKL := Lib.hid hkl
  have HLT := Lib.hid hlt
  have HSZ := Lib.hid (show w0.heap.size ≤ w.heap.size from hF.size)
  clear h hcb hbc hbw hcbo hb hF hO hK hS hv hk hvl hkl hlt
  go_enter Try.func82, Try.ntmps82
  go_wp2_with (first
    | (go_at_call 21; go_loud (refine (make_ao o _ _ _ _ c3.vals c3.kids _ HA4.out HV4.out HK4.out (fun j hj => hj) HZ3.out.2.2 (by have := HLL3.out; omega) HZ3.out.1 HZ3.out.2.1 hro).mono ?_; rintro e w5 ⟨i, O5, rfl, hA5, h0, hr, hoi, hK5, hO5, hF5⟩; have HA5 := Lib.hid hA5; have HK5 := Lib.hid hK5; have HO5 := Lib.hid hO5; have HF5 := Lib.hid hF5; clear hA5 hK5 hO5 hF5))
    | (go_at_call 103; go_loud (refine (HC.out _ O f live lo (w.heap.size + 1) _ _ HA.out HF.out HO.out hlo (by simp; omega) (by have := HSZ.out; omega) HCB.out HK.out HS.out (by omega)).mono ?_; rintro e w3 ⟨rfl, O3, f3, live3, c3, v3, k3, hA3, hC3, hF3, hO3, hll3, hK3, hR3, how3, hz1, hz2, hz3⟩; have hbw3 := hF3.blk HBW.out (fun e => by rcases e with e | e | e | e; (have := HLT.out _ e; omega); omega; (have := HVL.out _ e; omega); (have := HKL.out _ e; omega)); obtain ⟨A3, d3, e3⟩ := Kd.R_slice hC3.vr; subst e3; obtain ⟨A4, d4, e4⟩ := Kd.R_slice hC3.kr; subst e4; have r0 := blk_cell hC3.blk 0; have r1 := blk_cell hC3.blk 1; have r2 := blk_cell hC3.blk 2; have r3 := blk_cell hC3.blk 3; have r4 := blk_cell hC3.blk 4; have z0 := blk_frozen hC3.blk 0; have q0 := blk_cell hbw3 0; have q1 := blk_cell hbw3 1; have hF4 : Fr (fun j => j = w.heap.size + 1) w3 (w3.setCell ⟨w.heap.size + 1, 0, none⟩ (.int .u32 o)) := Fr.set _ 0 _; have HF4 := Lib.hid hF4; have HA4 := Lib.hid (hA3.move hF4 (fun j hj e => hC3.no (e ▸ hj))); have HV4 := Lib.hid ((row_ne hC3.rows.1 (fun j hj => (hC3.vk j hj).2.1)).fr kVal_K hF4 (fun j hj => hj.2) |>.mono (fun j hj => hj.1)); have HK4 := Lib.hid ((row_ne hC3.rows.2 (fun j hj => (hC3.kk j hj).1)).fr kInt_K hF4 (fun j hj => hj.2) |>.mono (fun j hj => hj.1)); have HZ3 := Lib.hid (show c3.kids.length ≤ 1000 ∧ c3.vals.length ≤ 1000000000 ∧ ∀ z ∈ c3.kids, 0 ≤ z from ⟨hz1, hz2, hz3⟩); have HLL3 := Lib.hid hll3; have HK3 := Lib.hid hK3; have HR3 := Lib.hid hR3; have HF3 := Lib.hid hF3; have HO3 := Lib.hid hO3; clear hA3 hC3 hF3 hO3 hll3 hK3 hR3 hz1 hz2 hz3 hbw3 hF4)))
  go_ret
  have hll := HLL3.out
  have e5 : (⟨o, c3.a, c3.b, c3.vals, c3.kids, 1⟩ : Cell) = {c3 with ow := o, r := 1} := rfl
  refine ⟨i, O5, f3, live3 + 1, c3, rfl, HA5.out, by omega, HR3.out, fun x hx => ?_, h0, hoi, HK3.out.trans HK5.out, fun j hj => ?_, ?_⟩
  · have hA4 := HA4.out
    have hp : 0 < x := by obtain ⟨z, hz1, hz2, rfl⟩ := kidsOf_mem hx; have := HZ3.out.2.2 z hz1; omega
    have hc : 0 < kc c3.kids x := List.count_pos_iff.2 hx
    have hlx := hA4.ext_lv hp (by show 0 < rest x + kc c3.kids x; omega)
    have hox : op x = false := by
      cases hq : op x
      · rfl
      · have := op_kc hA4 hro x hq; omega
    refine same_step hA4 (fun _ => True) (fun y hy _ => ?_) (fun _ _ _ _ _ => trivial) x ⟨hp, hlx, hox⟩ trivial
    rw [upd_ne _ (fun e => by have := hy.2.1; rw [e] at this; omega)]
  · rcases HO5.out j hj with q | q
    · rcases HO3.out j q with q | q
      · exact .inl q
      · exact .inr (Nat.le_trans HB.out.size q)
    · have h1 := HF3.out.size
      have h2 := HB.out.size
      have h3 := HF4.out.size
      exact .inr (by omega)
  · have h2 := HB.out.size
    have hF34 : Fr (Wr O (w.heap.size + 1) (.slice A1 c.vals.length c1) (.slice A2 c.kids.length c2)) _ _ := HF3.out.then_ HF4.out (fun j hj => .inl (.inr (.inl hj)))
    refine ((Fr.of_new (S := fun j => O j ∨ (Value.slice A1 c.vals.length c1).ownBlock = some j ∨ (Value.slice A2 c.kids.length c2).ownBlock = some j) HB.out).then_ hF34 (fun j hj => ?_)).then_ HF5.out (fun j hj => ?_)
    · rcases hj with e | e | e | e
      · exact .inl (.inl e)
      · exact .inr (by omega)
      · exact .inl (.inr (.inl e))
      · exact .inl (.inr (.inr e))
    · rcases HO3.out j hj with q | q
      · exact .inl (.inl q)
      · exact .inr (by omega)
set_option maxHeartbeats 2000000 in
set_option maxRecDepth 100000 in
theorem change_hang {O O0 : Nat → Prop} {a : Nat} {f : Nat → Cell} {live most need : Int} {rest ex : Nat → Nat} {op : Nat → Bool} {R : (Nat → Cell) → Cell → Prop} (o : Int) (i : Nat) (p1 p2 p3 p4 : Value) (w0 w : World) (h : AO w O a f live most (fun z => rest z + ex z + one i z) op) (hi : 0 < i) (ho : op i = false) (hb : ∀ x, rest x + ex x ≤ 80000000000) (hro : ∀ z, op z = true → 1 ≤ rest z)
    (hF : Fr O0 w0 w) (hO : ∀ j, O j → O0 j ∨ w0.heap.size ≤ j) (hc1 : Cb 103 (fun p => #[p, p1, p2, p3, p4]) w0 O0 a most rest ex op f need (f i) R) (hc2 : Cb 103 (fun p => #[p, p1, p2, p3, p4]) w0 O0 a most (fun z => rest z + one i z) ex (fun x => x == i || op x) f need (f i) R) (hlm : live + need < most) :
    Calls Try.prog 78 #[workV a o, .int .i64 i, .func (.func 103) #[] #[p1, p2, p3, p4]] w fun e w' => ∃ (i' : Nat) (O' : Nat → Prop) (f' : Nat → Cell) (live' : Int) (c' : Cell), e = .returned (.int .i64 i') ∧ AO w' O' a (upd f' i' {c' with ow := o, r := 1}) live' most (fun z => rest z + one i' z) op ∧ live' ≤ live + need + 1 ∧ R f' c' ∧ (∀ x ∈ kidsOf c'.kids, Same f' (upd f' i' {c' with ow := o, r := 1}) x) ∧ 0 < i' ∧ op i' = false ∧ KeepR rest op f (upd f' i' {c' with ow := o, r := 1}) ∧ (∀ j, O' j → O j ∨ w.heap.size ≤ j) ∧ Fr O w w' := by
  have hone : one i i = 1 := if_pos rfl
  have hlive : 0 < (f i).r := h.ext_lv hi (by show 0 < rest i + ex i + one i i; omega)
  have hLv : Lv f op i := ⟨hi, hlive, ho⟩
  have hkn := AO.kn h hLv
  have hkl := AO.kl h hlive
  have H := Lib.hid h
  have HF := Lib.hid hF
  have HO := Lib.hid hO
  have HC1 := Lib.hid hc1
  have HC2 := Lib.hid hc2
  have HLT := Lib.hid h.lt
  have HBB := Lib.hid hb
  have HRO := Lib.hid hro
  have HKN := Lib.hid hkn
  have HKL := Lib.hid hkl
  have HSZ := Lib.hid (show w0.heap.size ≤ w.heap.size from hF.size)
  have hnB : ∀ b, w.heap.size ≤ b → ¬ O b := fun b hb e => by have := HLT.out b e; omega
  have HNB := Lib.hid hnB
  clear h hc1 hc2 hkn hkl hF hO hb hro hnB
  by_cases hin : o ≠ 0 ∧ (f i).ow = o ∧ (f i).r = 1
  · obtain ⟨g0, g1, g2⟩ := hin
    have b0 : (o != 0) = true := by simpa using g0
    have b1 : ((f i).ow == o) = true := by simpa using g1
    have b2 : ((f i).r == 1) = true := by simpa using g2
    have hri : rest i = 0 := by
      have h1 : ((rest i + ex i + one i i : Nat) : Int) ≤ (f i).r := H.out.ext_r hi
      omega
    have HG := Lib.hid g1
    have HG2 := Lib.hid g2
    have HRI := Lib.hid hri
    clear g1 g2 hri
    go_enter Try.func78, Try.ntmps78
    go_wp2_with (first
      | (go_at_call 28; go_loud (refine HE.out.mono ?_; rintro e w5 ⟨rfl, O5, hA5, hO5, hF5⟩; have HA5 := Lib.hid hA5; have HO5 := Lib.hid hO5; have HF5 := Lib.hid hF5; clear hA5 hO5 hF5))
      | (go_at_call 103; go_loud (refine (HC2.out _ O f live (w.heap.size + 1) w1.heap.size _ _ HAO.out HF2.out HO.out (by have := HSZ.out; omega) HS2.out.1 (by have := HSZ.out; have := HS2.out.2; omega) HCB2.out (KeepR.refl _ _ _) (fun x _ => Same.refl _ _) (by omega)).mono ?_; rintro e w3 ⟨rfl, O3, f3, live3, c3, v3, k3, hA3, hC3, hF3, hO3, hll3, hK3, hR3, how3, hz1, hz2, hz3⟩; have hbw3 := hF3.blk HBW2.out (HNW.out); have q0 := blk_cell hbw3 0; have q1 := blk_cell hbw3 1; obtain ⟨A3, d3, e3⟩ := Kd.R_slice hC3.vr; subst e3; obtain ⟨A4, d4, e4⟩ := Kd.R_slice hC3.kr; subst e4; have r0 := blk_cell hC3.blk 0; have r1 := blk_cell hC3.blk 1; have r2 := blk_cell hC3.blk 2; have r3 := blk_cell hC3.blk 3; have r4 := blk_cell hC3.blk 4; have hf3i : f3 i = f i := (hK3 i hi (by show 0 < rest i + one i i; omega)).1 (by simp); have HE := Lib.hid (edit_in hA3 hC3 hf3i g0 hi HG2.out HG.out ho hone (fun x => Nat.le_trans (Nat.le_add_right _ _) (HBB.out x)) HRO.out hz1 hz2 hz3); have HA3 := Lib.hid hA3; have HZ3 := Lib.hid (show c3.kids.length ≤ 1000 ∧ c3.vals.length ≤ 1000000000 ∧ ∀ z ∈ c3.kids, 0 ≤ z from ⟨hz1, hz2, hz3⟩); have HLL3 := Lib.hid hll3; have HK3 := Lib.hid hK3; have HR3 := Lib.hid hR3; have HF3 := Lib.hid hF3; have HO3 := Lib.hid hO3; clear how3 hA3 hC3 hF3 hO3 hll3 hK3 hR3 hz1 hz2 hz3 hbw3 hf3i))
      | (go_at_call 26; go_loud (refine (refs_ao i _ (H.out.below HB2.out) hi hlive).mono ?_; rintro e w2 ⟨rfl, hB2⟩; have hb3 := below_step HB2.out hB2; have hbw := blk_below HBW1.out hB2; have q0 := blk_cell hbw 0; have q1 := blk_cell hbw 1; have hcb2 := HCB1.out.below hB2; have HBW2 := Lib.hid hbw; have HCB2 := Lib.hid hcb2; have HF2 := Lib.hid (HF.out.more hb3); have HAO := Lib.hid (open_ex (H.out.below hb3) hi HG2.out ho hone HBB.out); have HS2 := Lib.hid (show w.heap.size + 1 ≤ w2.heap.size ∧ w.heap.size + 1 ≤ w1.heap.size from ⟨by have h1 := hB2.size; simp at h1; have h2 := HS1.out; omega, HS1.out⟩); have HNW := Lib.hid (wr_no HNB.out HVK1.out (show w.heap.size + 1 ≤ w1.heap.size from HS1.out)); have HB3 := Lib.hid hb3; clear hB2 hbw hcb2 hb3))
      | (go_at_call 24; go_loud (refine (get_AO i _ (H.out.below (by repeat (first | (with_reducible first | exact Below.refl _ _ | apply below_alloc | apply pw_below_drewN | apply below_drew1)))) hi hlive).mono ?_; rintro e w1 ⟨v, k, rfl, hv1, hk1, hd1, hB1⟩; obtain ⟨A1, c1, e1⟩ := Kd.R_slice hv1; subst e1; obtain ⟨A2, c2, e2⟩ := Kd.R_slice hk1; subst e2; have HS1 := Lib.hid (show w.heap.size + 1 ≤ w1.heap.size by have := hB1.size; simpa using this); have hb2 := below_alloc (below_step (below_alloc (Below.refl w.heap.size w) (.cells #[.pointer (some ⟨a, 0, none⟩), .int .u32 o] 133)) hB1) (.cells #[.int .u32 (f i).ow, .int .u32 (f i).a, .int .u32 (f i).b, .slice A1 (f i).vals.length c1, .slice A2 (f i).kids.length c2] 43); have HBW1 := Lib.hid (blk_alloc (blk_below (blk_new w (.cells #[.pointer (some ⟨a, 0, none⟩), .int .u32 o] 133)) hB1) (.cells #[.int .u32 (f i).ow, .int .u32 (f i).a, .int .u32 (f i).b, .slice A1 (f i).vals.length c1, .slice A2 (f i).kids.length c2] 43)); have q0 := blk_cell HBW1.out 0; have q1 := blk_cell HBW1.out 1; have HCB1 := Lib.hid (cbo_new hv1 hk1 hd1 HNB.out (by simp) HS1.out); have HVK1 := Lib.hid (rows_from (w := w) hv1 hk1 (by simp)); have HB2 := Lib.hid hb2; clear hv1 hk1 hd1 hB1 hb2)))
    go_ret
    have hll := HLL3.out
    have hA3 := HA3.out
    have hlvE : ∀ j, Lv f3 (fun x => x == i || op x) j → Same f3 (upd f3 i {c3 with ow := o, r := 1}) j := fun j hj => same_step hA3 (fun _ => True) (fun y hy _ => by rw [upd_ne _ (fun (e : y = i) => by have h1 : (y == i || op y) = false := hy.2.2; rw [e] at h1; simp at h1)]) (fun _ _ _ _ _ => trivial) j hj trivial
    have hro' : ∀ z, (fun x => x == i || op x) z = true → 1 ≤ rest z + one i z := by
      intro z hz
      by_cases e : z = i
      · subst e; omega
      · have hz2 : (z == i || op z) = true := hz
        rw [show (z == i) = false by simpa using e, Bool.false_or] at hz2
        have := HRO.out z hz2
        omega
    refine ⟨i, O5, f3, live3, c3, rfl, HA5.out, by omega, HR3.out, fun x hx => ?_, hi, ho, fun j h0 hj => ?_, fun j hj => ?_, ?_⟩
    · have hp : 0 < x := by obtain ⟨z, hz1, hz2, rfl⟩ := kidsOf_mem hx; have := HZ3.out.2.2 z hz1; omega
      have hc : 0 < kc c3.kids x := List.count_pos_iff.2 hx
      refine hlvE x ⟨hp, hA3.ext_lv hp (by show 0 < rest x + one i x + kc c3.kids x; omega), ?_⟩
      cases hq : (fun x => x == i || op x) x
      · rfl
      · have := op_kc (rest := fun z => rest z + one i z) hA3 hro' x hq; omega
    · have hji : j ≠ i := fun e => by have := HRI.out; rw [e] at hj; omega
      have hji' : (j == i) = false := by simpa using hji
      have hk := HK3.out j h0 (by show 0 < rest j + one i j; omega)
      refine ⟨fun hoj => by rw [upd_ne _ hji]; exact hk.1 (by show (j == i || op j) = true; rw [hoj, Bool.or_true]), fun hoj => ?_⟩
      have hoj' : (j == i || op j) = false := by rw [hji', hoj]; rfl
      exact (hk.2 hoj').trans (hlvE j ⟨h0, hA3.ext_lv h0 (by show 0 < rest j + one i j + kc c3.kids j; omega), hoj'⟩)
    · have h1 := HF3.out.size
      have h2 := HB3.out.size
      rcases HO5.out j hj with q | q
      · rcases HO3.out j q with q | q
        · exact .inl q
        · exact .inr (by omega)
      · exact .inr (by omega)
    · have h1 := HS2.out
      have h2 := HB3.out.size
      refine ((Fr.of_new (S := O) HB3.out).then_ HF3.out (fun j hj => ?_)).then_ HF5.out (fun j hj => ?_)
      · rcases hj with e | e | e | e
        · exact .inl e
        · exact .inr (by omega)
        · exact .inr (by have := HVK1.out j (.inl e); omega)
        · exact .inr (by have := HVK1.out j (.inr e); omega)
      · rcases HO3.out j hj with q | q
        · exact .inl q
        · exact .inr (by omega)
  · have hcs : (o != 0) = false ∨ ((o != 0) = true ∧ ((f i).ow == o) = false) ∨ ((o != 0) = true ∧ ((f i).ow == o) = true ∧ ((f i).r == 1) = false) := by
      by_cases g0 : o = 0
      · exact .inl (by simpa using g0)
      · by_cases g1 : (f i).ow = o
        · exact .inr (.inr ⟨by simpa using g0, by simpa using g1, by simpa using fun g2 => hin ⟨g0, g1, g2⟩⟩)
        · exact .inr (.inl ⟨by simpa using g0, by simpa using g1⟩)
    clear hin
    rcases hcs with b0 | ⟨b0, b1⟩ | ⟨b0, b1, b2⟩
    all_goals (
      go_enter Try.func78, Try.ntmps78
      go_wp2_with (first
        | (go_at_call 26; go_loud (refine (refs_ao i _ (H.out.below HB2x.out) hi hlive).mono ?_; rintro e w2 ⟨rfl, hB2⟩; have hb3 := below_step HB2x.out hB2; have hbw := blk_below HBWx.out hB2; have q0 := blk_cell hbw 0; have q1 := blk_cell hbw 1; have HBWx := Lib.hid hbw; have HB2x := Lib.hid hb3; clear hB2 hbw hb3))
        | (go_at_call 24; go_loud (refine (get_AO i _ (H.out.below (by repeat (first | (with_reducible first | exact Below.refl _ _ | apply below_alloc | apply pw_below_drewN | apply below_drew1)))) hi hlive).mono ?_; rintro e w1 ⟨v, k, rfl, hv1, hk1, hd1, hB1⟩; obtain ⟨A1, c1, e1⟩ := Kd.R_slice hv1; subst e1; obtain ⟨A2, c2, e2⟩ := Kd.R_slice hk1; subst e2; have hb2 := below_alloc (below_step (below_alloc (Below.refl w.heap.size w) (.cells #[.pointer (some ⟨a, 0, none⟩), .int .u32 o] 133)) hB1) (.cells #[.int .u32 (f i).ow, .int .u32 (f i).a, .int .u32 (f i).b, .slice A1 (f i).vals.length c1, .slice A2 (f i).kids.length c2] 43); have HBWx := Lib.hid (blk_alloc (blk_below (blk_new w (.cells #[.pointer (some ⟨a, 0, none⟩), .int .u32 o] 133)) hB1) (.cells #[.int .u32 (f i).ow, .int .u32 (f i).a, .int .u32 (f i).b, .slice A1 (f i).vals.length c1, .slice A2 (f i).kids.length c2] 43)); have q0 := blk_cell HBWx.out 0; have q1 := blk_cell HBWx.out 1; have HB2x := Lib.hid hb2; clear hv1 hk1 hd1 hB1 hb2)))
      have hbd := below_drew1 HB2x.out
      have hAd := H.out.below hbd
      have hbwd := blk_drew HBWx.out
      have HBD := Lib.hid hbd
      have HAD := Lib.hid hAd
      have HBWD := Lib.hid hbwd
      have HBB9 := Lib.hid (fun x => Nat.le_trans (HBB.out x) (show 80000000000 ≤ 90000000000 by decide))
      clear hbd hAd hbwd q0 q1
      refine start_ (n := 7) (S := fun w' => w'.cell? ⟨w.heap.size, 0, none⟩ = some (.pointer (some ⟨a, 0, none⟩)) ∧ w'.cell? ⟨w.heap.size, 1, none⟩ = some (.int .u32 o)) (ds := [5]) #[false, false, false, false, false, false, false] (by kernel_rfl) rfl rfl ⟨(blk_cell HBWD.out 0), (blk_cell HBWD.out 1)⟩ (fun hHeld => ?_)
      refine pure_ (i := 2) (N := some 45) (v := ?_) (a' := ?_) #[false, false, true, false, false, false, false] rfl rfl (by kernel_rfl) (fun _ _ _ h => h) (Or.inl ⟨by rfl, ?_⟩) ?_ ?_
      rotate_left
      · intro w'
        go_simp
        with_reducible rfl
      rotate_left
      · simp only [Act.put, List.setIfInBounds_toArray, List.set_cons_zero, List.set_cons_succ, i64_w, i32_w]
        rfl
      refine pure_ (i := 4) (N := some 47) (v := ?_) (a' := ?_) #[false, false, true, false, true, false, false] rfl rfl (by kernel_rfl) (fun _ _ _ h => h) (Or.inl ⟨by rfl, ?_⟩) ?_ ?_
      rotate_left
      · intro w'
        go_simp
        with_reducible rfl
      rotate_left
      · simp only [Act.put, List.setIfInBounds_toArray, List.set_cons_zero, List.set_cons_succ, i64_w, i32_w]
        rfl
      refine take_ (i := 0) (N := some 43) (v := ?_) (a' := ?_) #[true, false, true, false, true, false, false] rfl rfl (by kernel_rfl) (fun _ _ _ h => h) (Or.inl ⟨by rfl, ?_⟩) hHeld ?_ ?_
      rotate_left
      · rintro w' ⟨s0, s1⟩
        go_simp
        with_reducible rfl
      rotate_left
      · simp only [Act.put, List.setIfInBounds_toArray, List.set_cons_zero, List.set_cons_succ, i64_w, i32_w]
        rfl
      refine take_ (i := 1) (N := some 44) (v := ?_) (a' := ?_) #[true, true, true, false, true, false, false] rfl rfl (by kernel_rfl) (fun _ _ _ h => h) (Or.inl ⟨by rfl, ?_⟩) hHeld ?_ ?_
      rotate_left
      · rintro w' ⟨s0, s1⟩
        go_simp
        with_reducible rfl
      rotate_left
      · simp only [Act.put, List.setIfInBounds_toArray, List.set_cons_zero, List.set_cons_succ, i64_w, i32_w]
        rfl
      refine one_ (i := 3) (N := some 46) #[true, true, true, true, true, false, false] rfl rfl (by kernel_rfl) (by decide) (fun K hK => ?_)
      refine goes_ Try.func87 (by kernel_rfl) rfl #[workV a o, .int .i64 i] (by rfl) rfl rfl (by simp only [List.map_toArray, List.map_cons, List.map_nil]; rfl) ?_
      with_reducible refine (open_calls o i _ HAD.out hi ho HBB9.out).mono ?_
      rintro e w3 ⟨v3, k3, O3, f3, live3, rfl, hv3, hk3, hd3, hn3, hA3, hK3, hS3, hll3, hO3, hF3⟩
      refine ⟨_, rfl, ?_⟩
      have hbw3 := hF3.blk HBWD.out (HNB.out _ (Nat.le_refl _))
      refine hK.out _ _ ⟨(blk_cell hbw3 0), (blk_cell hbw3 1)⟩ (fun hHeld => ?_)
      clear hK K
      refine norm_ (a' := ?_) ?_ ?_
      rotate_left
      · show Act.put _ (some 46) _ = _
        simp only [Act.put, List.setIfInBounds_toArray, List.set_cons_zero, List.set_cons_succ, i64_w, i32_w]
        rfl
      refine last_ (i := 5) (N := some 48) #[true, true, true, true, true, true, false] rfl rfl (by kernel_rfl) (by decide) (fun K hK => ?_)
      refine goes_ Try.func82 (by kernel_rfl) rfl #[workV a o, cellV (f i).ow (f i).a (f i).b v3 k3, .func (.func 103) #[] #[p1, p2, p3, p4]] (by rfl) rfl rfl (by simp only [List.map_toArray, List.map_cons, List.map_nil]; rfl) ?_
      with_reducible refine (make_hang o v3 k3 p1 p2 p3 p4 _ w0 _ hA3 hv3 hk3 hd3 hn3 HC1.out ((HF.out.more HBD.out).then_ hF3 (fun j hj => HO.out j hj)) (fun j hj => (hO3 j hj).elim (HO.out j) (fun q => .inr (Nat.le_trans HSZ.out (Nat.le_trans HBD.out.size q)))) (Nat.le_trans HSZ.out HBD.out.size) hF3.size hK3 hS3 (by omega) HRO.out).mono ?_
      rintro e w4 ⟨i4, O4, f4, live4, c4, rfl, hA4, hll4, hR4, hk4, hi4, ho4, hK4, hO4, hF4⟩
      refine ⟨_, rfl, ?_⟩
      refine hK.out _ _ ?_
      clear hK K
      refine norm_ (a' := ?_) ?_ ?_
      rotate_left
      · show Act.put _ (some 48) _ = _
        simp only [Act.put, List.setIfInBounds_toArray, List.set_cons_zero, List.set_cons_succ, i64_w, i32_w]
        rfl
      refine pure_ (i := 6) (N := some 6) (v := ?_) (a' := ?_) #[true, true, true, true, true, true, true] rfl rfl (by kernel_rfl) (fun _ _ _ h => h) (Or.inl ⟨by rfl, ?_⟩) ?_ ?_
      rotate_left
      · intro w'
        go_simp
        with_reducible rfl
      rotate_left
      · simp only [Act.put, List.setIfInBounds_toArray, List.set_cons_zero, List.set_cons_succ, i64_w, i32_w]
        rfl
      refine done_ (by kernel_rfl) ?_

      have HA4 := Lib.hid hA4
      have HR4 := Lib.hid hR4
      have HKS4 := Lib.hid hk4
      have HK4 := Lib.hid ((hK3.mono (rest' := rest) (fun j hj => by show 0 < rest j + ex j; omega)).trans hK4)
      have HLL4 := Lib.hid (show live4 ≤ live + need + 1 by omega)
      have HO4 := Lib.hid (show ∀ j, O4 j → O j ∨ w.heap.size ≤ j from fun j hj => by
        have h1 := HBD.out.size
        have h2 := hF3.size
        rcases hO4 j hj with q | q
        · rcases hO3 j q with q | q
          · exact .inl q
          · exact .inr (by omega)
        · exact .inr (by omega))
      have HF4 := Lib.hid (show Fr O w w4 from ((Fr.of_new (S := O) HBD.out).trans hF3).then_ hF4 (fun j hj => by
        have h1 := HBD.out.size
        rcases hj with q | q | q
        · rcases hO3 j q with q | q
          · exact .inl q
          · exact .inr (by omega)
        · obtain ⟨q1, o1⟩ := Kd.R_own hv3
          have := own_base o1 j q
          exact .inr (by omega)
        · obtain ⟨q1, o1⟩ := Kd.R_own hk3
          have := own_base o1 j q
          exact .inr (by omega)))
      clear hHeld hA4 hR4 hk4 hK3 hK4 hll3 hll4 hO3 hO4 hF3 hF4 hA3 hv3 hk3 hd3 hn3 hS3 hbw3
      go_wp2
      go_ret
      exact ⟨i4, O4, f4, live4, c4, rfl, HA4.out, HLL4.out, HR4.out, HKS4.out, hi4, ho4, HK4.out, HO4.out, HF4.out⟩)
end Go.Proofs.Ytnipbfhfaefieaa.Pv
/-! pvec: a path of no levels; a cell's kids become others. -/
namespace Go.Proofs.Ytnipbfhfaefieaa.Pv
open Go.RowKit Go Go.Proofs.YtnipbfhfaefieaaW.PrintWords Go.Proofs.YtnipbfhfaefieaaW.PrintMore Go.Proofs.YtnipbfhfaefieaaW.PrintLast Go.Proofs.Ytnipbfhfaefieaa.Bts Go.Proofs.Ytnipbfhfaefieaa.Fra Go.Proofs.Ytnipbfhfaefieaa.ArnP Go.Proofs.Ytnipbfhfaefieaa.Arn Go.Proofs.Ytnipbfhfaefieaa.Ao
theorem path0_calls (a : Nat) (o leaf : Int) (w : World) : Calls Try.prog 96 #[workV a o, .int .i64 0, .int .i64 leaf] w fun e w' => e = .returned (.int .i64 leaf) ∧ Below w.heap.size w w' := by
  go_enter Try.func96, Try.ntmps96
  go_wp2
  go_loopw [2, 8] (fun x y wr => x = .int .i64 leaf ∧ y = .int .i64 0 ∧ wr = w.alloc (.cells #[.pointer (some ⟨a, 0, none⟩), .int .u32 o] 133)) (fun _ _ _ => 0)
  case atStart => exact ⟨rfl, rfl, rfl⟩
  case round =>
    obtain ⟨rfl, rfl, rfl⟩ := hrel
    go_wp2
    go_ret
    exact ⟨rfl, below_alloc (Below.refl _ _) _⟩
/-- A cell's kids become others, in its own row or a new one. -/
theorem CBO.kidz {w w1 : World} {O : Nat → Prop} {lo b : Nat} {v k k1 : Value} {c : Cell} {kids : List Int} (h : CBO w O lo b v k c) (hlt : ∀ j, O j → j < w.heap.size) (hf : Fr (fun j => k.ownBlock = some j) w w1) (hr : KR w1 lo k1 kids) (hv : ∀ j, k1.ownBlock = some j → k.ownBlock = some j ∨ w.heap.size ≤ j) :
    CBO (w1.setCell ⟨b, 4, none⟩ k1) O lo b v k1 {c with kids := kids} ∧ Fr (Wr O b v k) w (w1.setCell ⟨b, 4, none⟩ k1) := by
  have hbl := blk_lt h.blk
  have hvl : ∀ j, v.ownBlock = some j → j < w.heap.size := fun j hj => by obtain ⟨q, ho⟩ := Kd.R_own h.vr; exact own_lt ho j hj
  have hb1 := hf.blk h.blk (fun e => (h.kk b e).1 rfl)
  have hs : Fr (fun j => j = b) w1 (w1.setCell ⟨b, 4, none⟩ k1) := Fr.set b 4 k1
  have hvb : ∀ j, k1.ownBlock = some j → j ≠ b := fun j hj e => by
    rcases hv j hj with q | q
    · exact (h.kk j q).1 e
    · omega
  refine ⟨⟨(blk_put hb1 4 k1 rfl).trans rfl, ?_, ?_, fun j hj => ⟨fun e => ?_, (h.vk j hj).2⟩, fun j hj => ⟨hvb j hj, fun e => ?_⟩, h.no⟩, (hf.mono (fun j hj => .inl (.inr (.inr (.inr hj))))).then_ hs (fun j hj => .inl (.inr (.inl hj)))⟩
  · exact Kd.R_mono (Kd.R_kept (Kd.R_mono (Kd.R_kept (Kd.R_tight2 (d := kVal) rfl h.vr) hf.kept (fun j hj e => (h.vk j hj.1.symm).1 e)) (fun j hj => hj)) hs.kept (fun j hj e => (h.vk j hj.1.symm).2.1 e)) (fun j hj => hj.2)
  · exact Kd.R_mono (Kd.R_kept (Kd.R_tight2 (d := Kd.int .i64) rfl hr) hs.kept (fun j hj e => hvb j hj.1.symm e)) (fun j hj => hj.2)
  · rcases hv j e with q | q
    · exact (h.vk j hj).1 q
    · have := hvl j hj; omega
  · rcases hv j hj with q | q
    · exact (h.kk j q).2 e
    · have := hlt j e; omega
theorem kc_snoc (l : List Int) (z : Nat) (hz : 0 < z) : kc (l ++ [(z : Int)]) = fun x => one z x + kc l x := by
  funext x
  rw [kc_app, kc_cons z _ hz]
  show kc l x + (0 + one z x) = _
  omega
end Go.Proofs.Ytnipbfhfaefieaa.Pv
/-! pvec: a leaf is hung into a trunk of one level. -/
namespace Go.Proofs.Ytnipbfhfaefieaa.Pv
open Go.RowKit Go Go.Proofs.YtnipbfhfaefieaaW.PrintWords Go.Proofs.YtnipbfhfaefieaaW.PrintMore Go.Proofs.YtnipbfhfaefieaaW.PrintLast Go.Proofs.Ytnipbfhfaefieaa.Bts Go.Proofs.Ytnipbfhfaefieaa.Fra Go.Proofs.Ytnipbfhfaefieaa.ArnP Go.Proofs.Ytnipbfhfaefieaa.Arn Go.Proofs.Ytnipbfhfaefieaa.Ao
theorem infoInt : (Try.prog.info? 3).map (fun i => (i.zero, i.size, i.bytes)) = some (some (.int .i64 0), 1, 8) := by kernel_rfl
theorem path0w_calls (a : Nat) (o leaf : Int) (w : World) : Calls Try.prog 96 #[workV a o, .int .i64 (wrap64 0), .int .i64 leaf] w fun e w' => e = .returned (.int .i64 leaf) ∧ Below w.heap.size w w' := by
  have e : wrap64 0 = 0 := by unfold wrap64; omega
  rw [e]
  exact path0_calls a o leaf w
set_option maxHeartbeats 2000000 in
set_option maxRecDepth 100000 in
theorem cb_hang {O0 : Nat → Prop} {a : Nat} {f0 : Nat → Cell} {most : Int} {rest : Nat → Nat} {op : Nat → Bool} {c : Cell} {nb lb wb fb : Nat} (o : Int) (m lf : Nat) (w0 : World) (hN : IntB w0 nb (m : Int)) (hL : IntB w0 lb 1) (hW : WorkB w0 wb a o) (hL2 : IntB w0 fb (lf : Int)) (hO0 : ¬ O0 nb ∧ ¬ O0 lb ∧ ¬ O0 wb ∧ ¬ O0 fb) (hm : c.kids.length = m) (hm32 : m < 32) (hlf : 0 < lf) (hcl : c.vals.length ≤ 1000000000) (hkn : ∀ z ∈ c.kids, 0 ≤ z) (hro : ∀ z, op z = true → 1 ≤ rest z) :
    Cb 103 (fun p => #[p, .pointer (some ⟨nb, 0, none⟩), .pointer (some ⟨lb, 0, none⟩), .pointer (some ⟨wb, 0, none⟩), .pointer (some ⟨fb, 0, none⟩)]) w0 O0 a most rest (one lf) op f0 0 c (fun f' c' => c' = {c with kids := c.kids ++ [(lf : Int)]} ∧ ∀ x ∈ kidsOf (c.kids ++ [(lf : Int)]), Same f0 f' x) := by
  intro w O f live lo b v k hA hF hO hlo hlo2 hb0 hC hK hS hlm
  have hll : one lf lf = 1 := if_pos rfl
  have hop : op lf = false := by
    cases hq : op lf with
    | false => rfl
    | true =>
      have h1 := (hA.op_r hq).2.1
      have h2 := hro lf hq
      have h1 : rest lf + one lf lf + kc c.kids lf = 1 := h1
      omega
  have hsame : ∀ x ∈ kidsOf (c.kids ++ [(lf : Int)]), Same f0 f x := by
    intro x hx
    have h1 : 0 < kc (c.kids ++ [(lf : Int)]) x := List.count_pos_iff.2 hx
    rw [kc_snoc c.kids lf hlf] at h1
    have h1 : 0 < one lf x + kc c.kids x := h1
    by_cases e : x = lf
    · subst e
      exact (hK x hlf (by show 0 < rest x + one x x; omega)).2 hop
    · have h2 : one lf x = 0 := if_neg e
      exact hS x (List.count_pos_iff.1 (show 0 < kc c.kids x by omega))
  have HSM := Lib.hid hsame
  clear hsame
  have hNw := hF.blk hN hO0.1
  have hLw := hF.blk hL hO0.2.1
  have hWw := hF.blk hW hO0.2.2.1
  have hFw := hF.blk hL2 hO0.2.2.2
  obtain ⟨A1, c1, e1⟩ := Kd.R_slice hC.kr
  rw [hm] at e1
  subst e1
  obtain ⟨V, hV⟩ : ∃ V, w.drew = V := ⟨_, rfl⟩
  have hd : Below w.heap.size w V := by rw [← hV]; exact below_drew1 (Below.refl _ _)
  have HD := Lib.hid hd
  have hCd := hC.below hd
  have hWd := blk_below hWw hd
  have hLd := blk_below hLw hd
  have hFd := blk_below hFw hd
  have n0 := blk_cell hNw 0
  have l0 := blk_cell hLw 0
  have p4w := blk_cell hC.blk 4
  have p4 := blk_cell hCd.blk 4
  have w0' := blk_cell hWd 0
  have w1' := blk_cell hWd 1
  have l0' := blk_cell hLd 0
  have f0' := blk_cell hFd 0
  have hsz := hd.size
  have hlt := (hA.below hd).lt
  have HC := Lib.hid hCd
  have HA := Lib.hid hA
  have HW := Lib.hid hWd
  have HL := Lib.hid hLd
  have HFB := Lib.hid hFd
  have HLT := Lib.hid hlt
  have HM := Lib.hid hm
  clear hK hS hF hO hC hCd hA hd hlt hNw hLw hWw hFw hWd hLd hFd hN hL hW hL2 hm
  go_enter Try.func103, Try.ntmps103
  go_wp2_with (go_at_call 61; go_loud (refine (at_zero m hm32 _).mono ?_; rintro e w4 ⟨rfl, hw4⟩; subst w4))
  refine start_ (n := 15) (S := fun w' => w'.cell? ⟨b, 4, none⟩ = some (.slice A1 m c1) ∧ w'.cell? ⟨wb, 0, none⟩ = some (.pointer (some ⟨a, 0, none⟩)) ∧ w'.cell? ⟨wb, 1, none⟩ = some (.int .u32 o) ∧ w'.cell? ⟨lb, 0, none⟩ = some (.int .i64 1) ∧ w'.cell? ⟨fb, 0, none⟩ = some (.int .i64 (lf : Int))) (ds := [11, 14]) #[false, false, false, false, false, false, false, false, false, false, false, false, false, false, false] (by kernel_rfl) rfl rfl ⟨(by rw [hV]; exact p4), (by rw [hV]; exact w0'), (by rw [hV]; exact w1'), (by rw [hV]; exact l0'), (by rw [hV]; exact f0')⟩ (fun hHeld => ?_)
  refine pure_ (i := 0) (N := some 19) (v := ?_) (a' := ?_) #[true, false, false, false, false, false, false, false, false, false, false, false, false, false, false] rfl rfl (by kernel_rfl) (fun _ _ _ h => h) (Or.inl ⟨by rfl, ?_⟩) ?_ ?_
  rotate_left
  · intro w'
    go_simp
    with_reducible rfl
  rotate_left
  · simp only [Act.put, List.setIfInBounds_toArray, List.set_cons_zero, List.set_cons_succ, i64_w, i32_w]
    rfl
  refine pure_ (i := 1) (N := some 20) (v := ?_) (a' := ?_) #[true, true, false, false, false, false, false, false, false, false, false, false, false, false, false] rfl rfl (by kernel_rfl) (fun _ _ _ h => h) (Or.inl ⟨by rfl, ?_⟩) ?_ ?_
  rotate_left
  · intro w'
    go_simp
    with_reducible rfl
  rotate_left
  · simp only [Act.put, List.setIfInBounds_toArray, List.set_cons_zero, List.set_cons_succ, i64_w, i32_w]
    rfl
  refine pure_ (i := 2) (N := some 21) (v := ?_) (a' := ?_) #[true, true, true, false, false, false, false, false, false, false, false, false, false, false, false] rfl rfl (by kernel_rfl) (fun _ _ _ h => h) (Or.inl ⟨by rfl, ?_⟩) ?_ ?_
  rotate_left
  · intro w'
    go_simp
    with_reducible rfl
  rotate_left
  · simp only [Act.put, List.setIfInBounds_toArray, List.set_cons_zero, List.set_cons_succ, i64_w, i32_w]
    rfl
  refine pure_ (i := 3) (N := some 22) (v := ?_) (a' := ?_) #[true, true, true, true, false, false, false, false, false, false, false, false, false, false, false] rfl rfl (by kernel_rfl) (fun _ _ _ h => h) (Or.inl ⟨by rfl, ?_⟩) ?_ ?_
  rotate_left
  · intro w'
    go_simp
    with_reducible rfl
  rotate_left
  · simp only [Act.put, List.setIfInBounds_toArray, List.set_cons_zero, List.set_cons_succ, i64_w, i32_w]
    rfl
  refine take_ (i := 4) (N := some 23) (v := ?_) (a' := ?_) #[true, true, true, true, true, false, false, false, false, false, false, false, false, false, false] rfl rfl (by kernel_rfl) (fun _ _ _ h => h) (Or.inl ⟨by rfl, ?_⟩) hHeld ?_ ?_
  rotate_left
  · rintro w' ⟨s0, s1, s2, s3, s4⟩
    go_simp
    with_reducible rfl
  rotate_left
  · simp only [Act.put, List.setIfInBounds_toArray, List.set_cons_zero, List.set_cons_succ, i64_w, i32_w]
    rfl
  refine take_ (i := 5) (N := some 24) (v := ?_) (a' := ?_) #[true, true, true, true, true, true, false, false, false, false, false, false, false, false, false] rfl rfl (by kernel_rfl) (fun _ _ _ h => h) (Or.inl ⟨by rfl, ?_⟩) hHeld ?_ ?_
  rotate_left
  · rintro w' ⟨s0, s1, s2, s3, s4⟩
    go_simp
    with_reducible rfl
  rotate_left
  · simp only [Act.put, List.setIfInBounds_toArray, List.set_cons_zero, List.set_cons_succ, i64_w, i32_w]
    rfl
  refine take_ (i := 6) (N := some 25) (v := ?_) (a' := ?_) #[true, true, true, true, true, true, true, false, false, false, false, false, false, false, false] rfl rfl (by kernel_rfl) (fun _ _ _ h => h) (Or.inl ⟨by rfl, ?_⟩) hHeld ?_ ?_
  rotate_left
  · rintro w' ⟨s0, s1, s2, s3, s4⟩
    go_simp
    with_reducible rfl
  rotate_left
  · simp only [Act.put, List.setIfInBounds_toArray, List.set_cons_zero, List.set_cons_succ, i64_w, i32_w]
    rfl
  refine pure_ (i := 7) (N := some 26) (v := ?_) (a' := ?_) #[true, true, true, true, true, true, true, true, false, false, false, false, false, false, false] rfl rfl (by kernel_rfl) (fun _ _ _ h => h) (Or.inl ⟨by rfl, ?_⟩) ?_ ?_
  rotate_left
  · intro w'
    go_simp
    with_reducible rfl
  rotate_left
  · simp only [Act.put, List.setIfInBounds_toArray, List.set_cons_zero, List.set_cons_succ, i64_w, i32_w]
    rfl
  refine take_ (i := 8) (N := some 27) (v := ?_) (a' := ?_) #[true, true, true, true, true, true, true, true, true, false, false, false, false, false, false] rfl rfl (by kernel_rfl) (fun _ _ _ h => h) (Or.inl ⟨by rfl, ?_⟩) hHeld ?_ ?_
  rotate_left
  · rintro w' ⟨s0, s1, s2, s3, s4⟩
    go_simp
    with_reducible rfl
  rotate_left
  · simp only [Act.put, List.setIfInBounds_toArray, List.set_cons_zero, List.set_cons_succ, i64_w, i32_w]
    rfl
  refine one_ (i := 9) (N := some 28) #[true, true, true, true, true, true, true, true, true, true, false, false, false, false, false] rfl rfl (by kernel_rfl) (by decide) (fun K hK => ?_)
  refine goes_ Try.func96 (by kernel_rfl) rfl #[workV a o, .int .i64 (wrap64 0), .int .i64 lf] (by rfl) rfl rfl (by simp only [List.map_toArray, List.map_cons, List.map_nil]; rfl) ?_
  with_reducible refine (path0w_calls a o lf _).mono ?_
  rintro e w5 ⟨rfl, hB5⟩
  refine ⟨_, rfl, ?_⟩
  have hB5 : Below V.heap.size V w5 := hV ▸ hB5
  have HB5 := Lib.hid hB5
  have hsz5 := hB5.size
  refine hK.out _ _ ⟨(blk_cell (blk_below HC.out.blk HB5.out) 4), (blk_cell (blk_below HW.out HB5.out) 0), (blk_cell (blk_below HW.out HB5.out) 1), (blk_cell (blk_below HL.out HB5.out) 0), (blk_cell (blk_below HFB.out HB5.out) 0)⟩ (fun hHeld => ?_)
  clear hK K
  refine norm_ (a' := ?_) ?_ ?_
  rotate_left
  · show Act.put _ (some 28) _ = _
    simp only [Act.put, List.setIfInBounds_toArray, List.set_cons_zero, List.set_cons_succ, i64_w, i32_w]
    rfl
  refine one_ (i := 10) (N := some 29) #[true, true, true, true, true, true, true, true, true, true, true, false, false, false, false] rfl rfl (by kernel_rfl) (by decide) (fun K hK => ?_)
  refine value_ (w1 := ?_) (v := ?_) (by rfl) rfl ?_ ?_
  rotate_left 2
  · go_simp
    constructor
    · rfl
    · rfl
  refine hK.out _ _ ⟨(pw_cell_below (below_alloc (Below.refl w5.heap.size w5) _) (blk_cell (blk_below HC.out.blk HB5.out) 4)), (pw_cell_below (below_alloc (Below.refl w5.heap.size w5) _) (blk_cell (blk_below HW.out HB5.out) 0)), (pw_cell_below (below_alloc (Below.refl w5.heap.size w5) _) (blk_cell (blk_below HW.out HB5.out) 1)), (pw_cell_below (below_alloc (Below.refl w5.heap.size w5) _) (blk_cell (blk_below HL.out HB5.out) 0)), (pw_cell_below (below_alloc (Below.refl w5.heap.size w5) _) (blk_cell (blk_below HFB.out HB5.out) 0))⟩ (fun hHeld => ?_)
  clear hK K
  refine norm_ (a' := ?_) ?_ ?_
  rotate_left
  · show Act.put _ (some 29) _ = _
    simp only [Act.put, List.setIfInBounds_toArray, List.set_cons_zero, List.set_cons_succ, i64_w, i32_w]
    rfl
  refine last_ (i := 11) (N := some 30) #[true, true, true, true, true, true, true, true, true, true, true, true, false, false, false] rfl rfl (by kernel_rfl) (by decide) (fun K hK => ?_)
  have hC5 := HC.out.below HB5.out
  have hkr5 := hC5.kr
  refine Kd.R_append_step (Kd.int .i64) (w0 := w5) (W := w5) lo (by rfl) (.tmp 23) (.tmp 29) 27 3 (.int .i64 0) 8 rfl Try.underlying27 infoInt rfl (by decide) (by decide) (.slice A1 m c1) c.kids (lf : Int) [.int .i64 (lf : Int)] (fun j => lo ≤ j) (fun _ => False) rfl rfl rfl (fun _ h => h.elim) (fun j hj => by omega) hkr5 (Below.refl _ _) (by omega) (by have := HM.out; omega) ?_
  intro v7 w7 hR7 hB7 hg7 hat7
  obtain ⟨A7, c7, e7⟩ := Kd.R_slice hR7
  subst e7
  have hcv := hC5.kidz (v := v) (k1 := .slice A7 (c.kids ++ [(lf : Int)]).length c7) (fun j hj => Nat.lt_of_lt_of_le (HLT.out j hj) hsz5) (fr_grownBy hg7) hR7 (fun j hj => hat7.elim (fun e => .inl (e ▸ hj)) (fun ⟨b', e, hb'⟩ => .inr (by rw [e] at hj; cases hj; exact hb')))
  have HG7 := Lib.hid (fr_grownBy hg7)
  have hb7 := (fr_grownBy hg7).blk hC5.blk (fun e => (hC5.kk b e).1 rfl)
  have r4 := blk_cell hb7 4
  have z4 := blk_frozen hb7 4
  have HCV := Lib.hid hcv
  clear hcv
  refine hK.out _ _ ?_
  clear hK K
  refine norm_ (a' := ?_) ?_ ?_
  rotate_left
  · show Act.put _ (some 30) _ = _
    simp only [Act.put, List.setIfInBounds_toArray, List.set_cons_zero, List.set_cons_succ, i64_w, i32_w]
    rfl
  refine pure_ (i := 12) (N := some 31) (v := ?_) (a' := ?_) #[true, true, true, true, true, true, true, true, true, true, true, true, true, false, false] rfl rfl (by kernel_rfl) (fun _ _ _ h => h) (Or.inl ⟨by rfl, ?_⟩) ?_ ?_
  rotate_left
  · intro w'
    go_simp
    with_reducible rfl
  rotate_left
  · simp only [Act.put, List.setIfInBounds_toArray, List.set_cons_zero, List.set_cons_succ, i64_w, i32_w]
    rfl
  refine pure_ (i := 13) (N := some 32) (v := ?_) (a' := ?_) #[true, true, true, true, true, true, true, true, true, true, true, true, true, true, false] rfl rfl (by kernel_rfl) (fun _ _ _ h => h) (Or.inl ⟨by rfl, ?_⟩) ?_ ?_
  rotate_left
  · intro w'
    go_simp
    with_reducible rfl
  rotate_left
  · simp only [Act.put, List.setIfInBounds_toArray, List.set_cons_zero, List.set_cons_succ, i64_w, i32_w]
    rfl
  refine last_ (i := 14) (N := none) #[true, true, true, true, true, true, true, true, true, true, true, true, true, true, true] rfl rfl (by kernel_rfl) (by decide) (fun K hK => ?_)
  refine skip_ (w1 := ?_) (by rfl) rfl ?_ ?_
  rotate_left
  · go_simp
    rfl
  refine hK.out _ _ ?_
  clear hK K
  refine done_ (by kernel_rfl) ?_

  go_end0
  have hcv := HCV.out
  have hln : (c.kids ++ [(lf : Int)]).length = c.kids.length + 1 := by simp
  rw [hln] at hcv
  have hd := HD.out
  have hmm := HM.out
  have hb4 : Fr (fun j => j = b) w7 (w7.setCell ⟨b, 4, none⟩ (.slice A7 (c.kids.length + 1) c7)) := Fr.set b 4 _
  have hfa : Fr (fun j => (Value.slice A1 m c1).ownBlock = some j ∨ j = b) w (w7.setCell ⟨b, 4, none⟩ (.slice A7 (c.kids.length + 1) c7)) := (((Fr.of_new hd).then_ (Fr.of_new (S := fun _ => False) HB5.out) (fun j hj => hj.elim)).then_ HG7.out (fun j hj => .inl (.inl hj))).then_ hb4 (fun j hj => .inl (.inr hj))
  have hA' := HA.out.move hfa (fun j hj e => e.elim (fun e => (HC.out.kk j e).2 hj) (fun e => HC.out.no (e ▸ hj)))
  have e1 : (fun x => rest x + one lf x + kc c.kids x) = fun x => rest x + kc (c.kids ++ [(lf : Int)]) x := by
    funext x
    rw [kc_snoc c.kids lf hlf]
    show _ = rest x + (_ + _)
    omega
  rw [e1] at hA'
  have hkl' : (c.kids ++ [(lf : Int)]).length ≤ 1000 := by rw [hln]; omega
  refine ⟨rfl, O, f, live, {c with kids := c.kids ++ [(lf : Int)]}, _, _, hA', hcv.1, ((Fr.of_new (S := Wr O b v (.slice A1 m c1)) hd).then_ (Fr.of_new (S := fun _ => False) HB5.out) (fun j hj => hj.elim)).then_ hcv.2 (fun j hj => .inl hj), fun j hj => .inl hj, by omega, KeepR.refl _ _ _, ⟨rfl, HSM.out⟩, rfl, hkl', hcl, fun y hy => ?_⟩
  rcases List.mem_append.1 hy with h | h
  · exact hkn y h
  · rw [List.mem_singleton.1 h]; exact Int.natCast_nonneg _
end Go.Proofs.Ytnipbfhfaefieaa.Pv
/-! pvec: a leaf is hung into a trunk of one level. -/
namespace Go.Proofs.Ytnipbfhfaefieaa.Pv
open Go.RowKit Go Go.Proofs.YtnipbfhfaefieaaW.PrintWords Go.Proofs.YtnipbfhfaefieaaW.PrintMore Go.Proofs.YtnipbfhfaefieaaW.PrintLast Go.Proofs.Ytnipbfhfaefieaa.Bts Go.Proofs.Ytnipbfhfaefieaa.Fra Go.Proofs.Ytnipbfhfaefieaa.ArnP Go.Proofs.Ytnipbfhfaefieaa.Arn Go.Proofs.Ytnipbfhfaefieaa.Ao
set_option maxHeartbeats 2000000 in
set_option maxRecDepth 100000 in
theorem hang_calls {O : Nat → Prop} {a : Nat} {f : Nat → Cell} {live most : Int} {rest : Nat → Nat} {op : Nat → Bool} (o : Int) (k m lf : Nat) (w : World) (h : AO w O a f live most (fun z => rest z + one lf z + one k z) op) (hk : 0 < k) (ho : op k = false) (hb : ∀ x, rest x ≤ 60000000000) (hro : ∀ z, op z = true → 1 ≤ rest z) (hm : (f k).kids.length = m) (hm32 : m < 32) (hlf : 0 < lf) (hlm : live < most) :
    Calls Try.prog 97 #[workV a o, .int .i64 k, .int .i64 1, .int .i64 m, .int .i64 lf] w fun e w' => ∃ (k' : Nat) (O' : Nat → Prop) (f' : Nat → Cell) (live' : Int), e = .returned (.int .i64 k') ∧ AO w' O' a f' live' most (fun z => rest z + one k' z) op ∧ live' ≤ live + 1 ∧ f' k' = {f k with kids := (f k).kids ++ [(lf : Int)], ow := o, r := 1} ∧ (∀ x ∈ kidsOf ((f k).kids ++ [(lf : Int)]), Same f f' x) ∧ 0 < k' ∧ op k' = false ∧ KeepR rest op f f' ∧ (∀ j, O' j → O j ∨ w.heap.size ≤ j) ∧ Fr O w w' := by
  have hlive : 0 < (f k).r := h.ext_lv hk (by show 0 < rest k + one lf k + one k k; have : one k k = 1 := if_pos rfl; omega)
  have hkl := (AO.kl h hlive).1
  have hcl := (AO.kl h hlive).2
  have hkn := AO.kn h ⟨hk, hlive, ho⟩
  have hlt := h.lt
  have hbx := below_alloc (below_alloc (below_alloc (below_alloc (Below.refl w.heap.size w) (.cells #[.pointer (some ⟨a, 0, none⟩), .int .u32 o] 133)) (.cells #[.int .i64 1] 3)) (.cells #[.int .i64 (m : Int)] 3)) (.cells #[.int .i64 (lf : Int)] 3)
  have hX : IntB _ (w.heap.size + 3) (lf : Int) := new3 w (.cells #[.pointer (some ⟨a, 0, none⟩), .int .u32 o] 133) (.cells #[.int .i64 1] 3) (.cells #[.int .i64 (m : Int)] 3) (.cells #[.int .i64 (lf : Int)] 3)
  have hI : IntB _ (w.heap.size + 2) (m : Int) := blk_alloc (new2 w (.cells #[.pointer (some ⟨a, 0, none⟩), .int .u32 o] 133) (.cells #[.int .i64 1] 3) (.cells #[.int .i64 (m : Int)] 3)) (.cells #[.int .i64 (lf : Int)] 3)
  have hL : IntB _ (w.heap.size + 1) 1 := blk_alloc (blk_alloc (new1 w (.cells #[.pointer (some ⟨a, 0, none⟩), .int .u32 o] 133) (.cells #[.int .i64 1] 3)) (.cells #[.int .i64 (m : Int)] 3)) (.cells #[.int .i64 (lf : Int)] 3)
  have hWk : WorkB _ w.heap.size a o := blk_alloc (blk_alloc (blk_alloc (blk_new w (.cells #[.pointer (some ⟨a, 0, none⟩), .int .u32 o] 133)) (.cells #[.int .i64 1] 3)) (.cells #[.int .i64 (m : Int)] 3)) (.cells #[.int .i64 (lf : Int)] 3)
  have hA := h.below hbx
  obtain ⟨W, hW⟩ : ∃ W, ((((w.alloc (.cells #[.pointer (some ⟨a, 0, none⟩), .int .u32 o] 133)).alloc (.cells #[.int .i64 1] 3)).alloc (.cells #[.int .i64 (m : Int)] 3)).alloc (.cells #[.int .i64 (lf : Int)] 3)) = W := ⟨_, rfl⟩
  have hnB : ∀ b, w.heap.size ≤ b → ¬ O b := fun b hb e => by have := hlt b e; omega
  rw [hW] at hX hI hL hWk
  have hA' : AO W O a f live most (fun z => rest z + one lf z + one k z) op := by rw [← hW]; exact hA
  have hbW : Below w.heap.size w W := by rw [← hW]; exact hbx
  have hO4 : ¬ O (w.heap.size + 2) ∧ ¬ O (w.heap.size + 1) ∧ ¬ O w.heap.size ∧ ¬ O (w.heap.size + 3) := ⟨hnB _ (by omega), hnB _ (by omega), hnB _ (by omega), hnB _ (by omega)⟩
  have hch := change_hang (need := 0) o k (.pointer (some ⟨w.heap.size + 2, 0, none⟩)) (.pointer (some ⟨w.heap.size + 1, 0, none⟩)) (.pointer (some ⟨w.heap.size, 0, none⟩)) (.pointer (some ⟨w.heap.size + 3, 0, none⟩)) W W hA' hk ho (bnd_one lf hb (by decide)) hro (Fr.refl O W) (fun j hj => .inl hj)
    (cb_hang o m lf W hI hL hWk hX hO4 hm hm32 hlf hcl hkn hro)
    (cb_hang o m lf W hI hL hWk hX hO4 hm hm32 hlf hcl hkn (hro_one k hro)) (by omega)
  rw [← hW] at hch
  have HC := Lib.hid hch
  have HB := Lib.hid hbW
  have HW := Lib.hid hW
  have HM := Lib.hid hm
  clear hch hA hA' hbW hbx hX hI hL hWk h hW hm
  go_enter Try.func97, Try.ntmps97
  go_wp2_with (go_at_call 78; go_loud (refine HC.out.mono ?_; rintro e w5 ⟨k', O5, f5, live5, c5, rfl, hA5, hll5, hR5, hS5, hk5, ho5, hK5, hO5, hF5⟩; have HR5 := Lib.hid hR5; clear hR5))
  go_ret
  obtain ⟨rfl, hoth⟩ := HR5.out
  have hF6 : Fr O w w5 := by
    have h1 := HB.out
    rw [← HW.out] at h1
    exact (Fr.of_new h1).trans hF5
  refine ⟨k', O5, _, live5, rfl, hA5, by omega, upd_eq _ _ _, fun x hx => (hoth x hx).trans (hS5 x hx), hk5, ho5, hK5, fun j hj => (hO5 j hj).imp id (fun q => ?_), hF6⟩
  have h1 := HB.out.size
  rw [← HW.out] at h1
  omega
end Go.Proofs.Ytnipbfhfaefieaa.Pv
