/- Texts of this claim, laid together: PvDpush, PvV. -/
import Derived.Test.YtnipbfhfaefieaaUi
import Derived.Test.YtnipbfhfaefieaaUm
/-! pvec: make and change, for Push 1. Printed by wip/tools/gen_pvd.py. -/
namespace Go.Proofs.Ytnipbfhfaefieaa.Pv
open Go.RowKit Go Go.Proofs.YtnipbfhfaefieaaW.PrintWords Go.Proofs.YtnipbfhfaefieaaW.PrintMore Go.Proofs.YtnipbfhfaefieaaW.PrintLast Go.Proofs.Ytnipbfhfaefieaa.Bts Go.Proofs.Ytnipbfhfaefieaa.Fra Go.Proofs.Ytnipbfhfaefieaa.ArnP Go.Proofs.Ytnipbfhfaefieaa.Arn Go.Proofs.Ytnipbfhfaefieaa.Ao
set_option maxHeartbeats 4000000 in
set_option maxRecDepth 100000 in
theorem make_push {O O0 : Nat → Prop} {a : Nat} {f f0 : Nat → Cell} {live most need : Int} {rest ex : Nat → Nat} {op : Nat → Bool} {c : Cell} {R : (Nat → Cell) → Cell → Prop} (o : Int) (v k p1 : Value) (lo : Nat) (w0 w : World) (h : AO w O a f live most (fun z => rest z + ex z + kc c.kids z) op) (hv : VR w lo v c.vals) (hk : KR w lo k c.kids) (hvk : ∀ j, v.ownBlock = some j → k.ownBlock ≠ some j) (hno : ∀ j, v.ownBlock = some j ∨ k.ownBlock = some j → ¬ O j)
    (hcb : Cb 79 (fun p => #[p, p1]) w0 O0 a most rest ex op f0 need c R) (hF : Fr O0 w0 w) (hO : ∀ j, O j → O0 j ∨ w0.heap.size ≤ j) (hlo : w0.heap.size ≤ lo) (hlo2 : lo ≤ w.heap.size) (hK : KeepR (fun x => rest x + ex x) op f0 f) (hS : ∀ x ∈ kidsOf c.kids, Same f0 f x) (hlm : live + need < most) (hro : ∀ z, op z = true → 1 ≤ rest z) :
    Calls Try.prog 82 #[workV a o, cellV c.ow c.a c.b v k, .func (.func 79) #[] #[p1]] w fun e w' => ∃ (i : Nat) (O' : Nat → Prop) (f' : Nat → Cell) (live' : Int) (c' : Cell), e = .returned (.int .i64 i) ∧ AO w' O' a (upd f' i {c' with ow := o, r := 1}) live' most (fun z => rest z + one i z) op ∧ live' ≤ live + need + 1 ∧ R f' c' ∧ (∀ x ∈ kidsOf c'.kids, Same f' (upd f' i {c' with ow := o, r := 1}) x) ∧ 0 < i ∧ op i = false ∧ KeepR rest op f (upd f' i {c' with ow := o, r := 1}) ∧ (∀ j, O' j → O j ∨ w.heap.size ≤ j) ∧ Fr (fun j => O j ∨ v.ownBlock = some j ∨ k.ownBlock = some j) w w' := by
  obtain ⟨A1, c1, e1⟩ := Kd.R_slice hv
  obtain ⟨A2, c2, e2⟩ := Kd.R_slice hk
  subst e1 e2
  have hb : Below w.heap.size w ((w.alloc (.cells #[.pointer (some ⟨a, 0, none⟩), .int .u32 o] 133)).alloc (.cells #[.int .u32 c.ow, .int .u32 c.a, .int .u32 c.b, .slice A1 c.vals.length c1, .slice A2 c.kids.length c2] 43)) := below_alloc (below_alloc (Below.refl _ _) _) _
  have hbw := blk_alloc (blk_new w (.cells #[.pointer (some ⟨a, 0, none⟩), .int .u32 o] 133)) (.cells #[.int .u32 c.ow, .int .u32 c.a, .int .u32 c.b, .slice A1 c.vals.length c1, .slice A2 c.kids.length c2] 43)
  have hbc := new1 w (.cells #[.pointer (some ⟨a, 0, none⟩), .int .u32 o] 133) (.cells #[.int .u32 c.ow, .int .u32 c.a, .int .u32 c.b, .slice A1 c.vals.length c1, .slice A2 c.kids.length c2] 43)
  have hlt := h.lt
  have hvl : ∀ j, (Value.slice A1 c.vals.length c1).ownBlock = some j → j < w.heap.size := fun j hj => by obtain ⟨q, ho⟩ := Kd.R_own hv; exact own_lt ho j hj
  have hkl : ∀ j, (Value.slice A2 c.kids.length c2).ownBlock = some j → j < w.heap.size := fun j hj => by obtain ⟨q, ho⟩ := Kd.R_own hk; exact own_lt ho j hj
  have hcbo : CBO _ O lo (w.heap.size + 1) (.slice A1 c.vals.length c1) (.slice A2 c.kids.length c2) c := ⟨hbc, Kd.R_below hv hb, Kd.R_below hk hb, fun j hj => ⟨hvk j hj, by have := hvl j hj; omega, hno j (.inl hj)⟩, fun j hj => ⟨by have := hkl j hj; omega, hno j (.inr hj)⟩, fun e => by have := hlt _ e; omega⟩
  have hnf : ∀ w : World, (binOp .neq 138 (.func (.func 79) #[] #[p1]) .nilFunc).run Try.prog w = .ok (.bool true) w := fun _ => by kernel_rfl
  have HB := Lib.hid hb
  have HBW := Lib.hid hbw
  have HCB := Lib.hid hcbo
  have HA := Lib.hid (h.below hb)
  have HC := Lib.hid hcb
  have HF := Lib.hid (hF.more hb)
  have HO := Lib.hid hO
  have HK := Lib.hid hK
  have HS := Lib.hid hS
  have HVL := Lib.hid hvl
  have HKL := Lib.hid hkl
  have HLT := Lib.hid hlt
  have HSZ := Lib.hid (show w0.heap.size ≤ w.heap.size from hF.size)
  clear h hcb hbc hbw hcbo hb hF hO hK hS hv hk hvl hkl hlt
  go_enter Try.func82, Try.ntmps82
  go_wp2_with (first
    | (go_at_call 21; go_loud (refine (make_ao o _ _ _ _ c3.vals c3.kids _ HA4.out HV4.out HK4.out (fun j hj => hj) HZ3.out.2.2 (by have := HLL3.out; omega) HZ3.out.1 HZ3.out.2.1 hro).mono ?_; rintro e w5 ⟨i, O5, rfl, hA5, h0, hr, hoi, hK5, hO5, hF5⟩; have HA5 := Lib.hid hA5; have HK5 := Lib.hid hK5; have HO5 := Lib.hid hO5; have HF5 := Lib.hid hF5; clear hA5 hK5 hO5 hF5))
    | (go_at_call 79; go_loud (refine (HC.out _ O f live lo (w.heap.size + 1) _ _ HA.out HF.out HO.out hlo (by simp; omega) (by have := HSZ.out; omega) HCB.out HK.out HS.out (by omega)).mono ?_; rintro e w3 ⟨rfl, O3, f3, live3, c3, v3, k3, hA3, hC3, hF3, hO3, hll3, hK3, hR3, how3, hz1, hz2, hz3⟩; have hbw3 := hF3.blk HBW.out (fun e => by rcases e with e | e | e | e; (have := HLT.out _ e; omega); omega; (have := HVL.out _ e; omega); (have := HKL.out _ e; omega)); obtain ⟨A3, d3, e3⟩ := Kd.R_slice hC3.vr; subst e3; obtain ⟨A4, d4, e4⟩ := Kd.R_slice hC3.kr; subst e4; have r0 := blk_cell hC3.blk 0; have r1 := blk_cell hC3.blk 1; have r2 := blk_cell hC3.blk 2; have r3 := blk_cell hC3.blk 3; have r4 := blk_cell hC3.blk 4; have z0 := blk_frozen hC3.blk 0; have q0 := blk_cell hbw3 0; have q1 := blk_cell hbw3 1; have hF4 : Fr (fun j => j = w.heap.size + 1) w3 (w3.setCell ⟨w.heap.size + 1, 0, none⟩ (.int .u32 o)) := Fr.set _ 0 _; have HF4 := Lib.hid hF4; have HA4 := Lib.hid (hA3.move hF4 (fun j hj e => hC3.no (e ▸ hj))); have HV4 := Lib.hid ((row_ne hC3.rows.1 (fun j hj => (hC3.vk j hj).2.1)).fr kVal_K hF4 (fun j hj => hj.2) |>.mono (fun j hj => hj.1)); have HK4 := Lib.hid ((row_ne hC3.rows.2 (fun j hj => (hC3.kk j hj).1)).fr kInt_K hF4 (fun j hj => hj.2) |>.mono (fun j hj => hj.1)); have HZ3 := Lib.hid (show c3.kids.length ≤ 1000 ∧ c3.vals.length ≤ 1000000000 ∧ ∀ z ∈ c3.kids, 0 ≤ z from ⟨hz1, hz2, hz3⟩); have HLL3 := Lib.hid hll3; have HK3 := Lib.hid hK3; have HR3 := Lib.hid hR3; have HF3 := Lib.hid hF3; have HO3 := Lib.hid hO3; clear hA3 hC3 hF3 hO3 hll3 hK3 hR3 hz1 hz2 hz3 hbw3 hF4)))
  go_ret
  have hll := HLL3.out
  have e5 : (⟨o, c3.a, c3.b, c3.vals, c3.kids, 1⟩ : Cell) = {c3 with ow := o, r := 1} := rfl
  refine ⟨i, O5, f3, live3 + 1, c3, rfl, HA5.out, by omega, HR3.out, fun x hx => ?_, h0, hoi, HK3.out.trans HK5.out, fun j hj => ?_, ?_⟩
  · have hA4 := HA4.out
    have hp : 0 < x := by obtain ⟨z, hz1, hz2, rfl⟩ := kidsOf_mem hx; have := HZ3.out.2.2 z hz1; omega
    have hc : 0 < kc c3.kids x := List.count_pos_iff.2 hx
    have hlx := hA4.ext_lv hp (by show 0 < rest x + kc c3.kids x; omega)
    have hox : op x = false := by
      cases hq : op x
      · rfl
      · have := op_kc hA4 hro x hq; omega
    refine same_step hA4 (fun _ => True) (fun y hy _ => ?_) (fun _ _ _ _ _ => trivial) x ⟨hp, hlx, hox⟩ trivial
    rw [upd_ne _ (fun e => by have := hy.2.1; rw [e] at this; omega)]
  · rcases HO5.out j hj with q | q
    · rcases HO3.out j q with q | q
      · exact .inl q
      · exact .inr (Nat.le_trans HB.out.size q)
    · have h1 := HF3.out.size
      have h2 := HB.out.size
      have h3 := HF4.out.size
      exact .inr (by omega)
  · have h2 := HB.out.size
    have hF34 : Fr (Wr O (w.heap.size + 1) (.slice A1 c.vals.length c1) (.slice A2 c.kids.length c2)) _ _ := HF3.out.then_ HF4.out (fun j hj => .inl (.inr (.inl hj)))
    refine ((Fr.of_new (S := fun j => O j ∨ (Value.slice A1 c.vals.length c1).ownBlock = some j ∨ (Value.slice A2 c.kids.length c2).ownBlock = some j) HB.out).then_ hF34 (fun j hj => ?_)).then_ HF5.out (fun j hj => ?_)
    · rcases hj with e | e | e | e
      · exact .inl (.inl e)
      · exact .inr (by omega)
      · exact .inl (.inr (.inl e))
      · exact .inl (.inr (.inr e))
    · rcases HO3.out j hj with q | q
      · exact .inl (.inl q)
      · exact .inr (by omega)
set_option maxHeartbeats 2000000 in
set_option maxRecDepth 100000 in
theorem change_push {O O0 : Nat → Prop} {a : Nat} {f : Nat → Cell} {live most need : Int} {rest ex : Nat → Nat} {op : Nat → Bool} {R : (Nat → Cell) → Cell → Prop} (o : Int) (i : Nat) (p1 : Value) (w0 w : World) (h : AO w O a f live most (fun z => rest z + ex z + one i z) op) (hi : 0 < i) (ho : op i = false) (hb : ∀ x, rest x + ex x ≤ 80000000000) (hro : ∀ z, op z = true → 1 ≤ rest z)
    (hF : Fr O0 w0 w) (hO : ∀ j, O j → O0 j ∨ w0.heap.size ≤ j) (hc1 : Cb 79 (fun p => #[p, p1]) w0 O0 a most rest ex op f need (f i) R) (hc2 : Cb 79 (fun p => #[p, p1]) w0 O0 a most (fun z => rest z + one i z) ex (fun x => x == i || op x) f need (f i) R) (hlm : live + need < most) :
    Calls Try.prog 78 #[workV a o, .int .i64 i, .func (.func 79) #[] #[p1]] w fun e w' => ∃ (i' : Nat) (O' : Nat → Prop) (f' : Nat → Cell) (live' : Int) (c' : Cell), e = .returned (.int .i64 i') ∧ AO w' O' a (upd f' i' {c' with ow := o, r := 1}) live' most (fun z => rest z + one i' z) op ∧ live' ≤ live + need + 1 ∧ R f' c' ∧ (∀ x ∈ kidsOf c'.kids, Same f' (upd f' i' {c' with ow := o, r := 1}) x) ∧ 0 < i' ∧ op i' = false ∧ KeepR rest op f (upd f' i' {c' with ow := o, r := 1}) ∧ (∀ j, O' j → O j ∨ w.heap.size ≤ j) ∧ Fr O w w' := by
  have hone : one i i = 1 := if_pos rfl
  have hlive : 0 < (f i).r := h.ext_lv hi (by show 0 < rest i + ex i + one i i; omega)
  have hLv : Lv f op i := ⟨hi, hlive, ho⟩
  have hkn := AO.kn h hLv
  have hkl := AO.kl h hlive
  have H := Lib.hid h
  have HF := Lib.hid hF
  have HO := Lib.hid hO
  have HC1 := Lib.hid hc1
  have HC2 := Lib.hid hc2
  have HLT := Lib.hid h.lt
  have HBB := Lib.hid hb
  have HRO := Lib.hid hro
  have HKN := Lib.hid hkn
  have HKL := Lib.hid hkl
  have HSZ := Lib.hid (show w0.heap.size ≤ w.heap.size from hF.size)
  have hnB : ∀ b, w.heap.size ≤ b → ¬ O b := fun b hb e => by have := HLT.out b e; omega
  have HNB := Lib.hid hnB
  clear h hc1 hc2 hkn hkl hF hO hb hro hnB
  by_cases hin : o ≠ 0 ∧ (f i).ow = o ∧ (f i).r = 1
  · obtain ⟨g0, g1, g2⟩ := hin
    have b0 : (o != 0) = true := by simpa using g0
    have b1 : ((f i).ow == o) = true := by simpa using g1
    have b2 : ((f i).r == 1) = true := by simpa using g2
    have hri : rest i = 0 := by
      have h1 : ((rest i + ex i + one i i : Nat) : Int) ≤ (f i).r := H.out.ext_r hi
      omega
    have HG := Lib.hid g1
    have HG2 := Lib.hid g2
    have HRI := Lib.hid hri
    clear g1 g2 hri
    go_enter Try.func78, Try.ntmps78
    go_wp2_with (first
      | (go_at_call 28; go_loud (refine HE.out.mono ?_; rintro e w5 ⟨rfl, O5, hA5, hO5, hF5⟩; have HA5 := Lib.hid hA5; have HO5 := Lib.hid hO5; have HF5 := Lib.hid hF5; clear hA5 hO5 hF5))
      | (go_at_call 79; go_loud (refine (HC2.out _ O f live (w.heap.size + 1) w1.heap.size _ _ HAO.out HF2.out HO.out (by have := HSZ.out; omega) HS2.out.1 (by have := HSZ.out; have := HS2.out.2; omega) HCB2.out (KeepR.refl _ _ _) (fun x _ => Same.refl _ _) (by omega)).mono ?_; rintro e w3 ⟨rfl, O3, f3, live3, c3, v3, k3, hA3, hC3, hF3, hO3, hll3, hK3, hR3, how3, hz1, hz2, hz3⟩; have hbw3 := hF3.blk HBW2.out (HNW.out); have q0 := blk_cell hbw3 0; have q1 := blk_cell hbw3 1; obtain ⟨A3, d3, e3⟩ := Kd.R_slice hC3.vr; subst e3; obtain ⟨A4, d4, e4⟩ := Kd.R_slice hC3.kr; subst e4; have r0 := blk_cell hC3.blk 0; have r1 := blk_cell hC3.blk 1; have r2 := blk_cell hC3.blk 2; have r3 := blk_cell hC3.blk 3; have r4 := blk_cell hC3.blk 4; have hf3i : f3 i = f i := (hK3 i hi (by show 0 < rest i + one i i; omega)).1 (by simp); have HE := Lib.hid (edit_in hA3 hC3 hf3i g0 hi HG2.out HG.out ho hone (fun x => Nat.le_trans (Nat.le_add_right _ _) (HBB.out x)) HRO.out hz1 hz2 hz3); have HA3 := Lib.hid hA3; have HZ3 := Lib.hid (show c3.kids.length ≤ 1000 ∧ c3.vals.length ≤ 1000000000 ∧ ∀ z ∈ c3.kids, 0 ≤ z from ⟨hz1, hz2, hz3⟩); have HLL3 := Lib.hid hll3; have HK3 := Lib.hid hK3; have HR3 := Lib.hid hR3; have HF3 := Lib.hid hF3; have HO3 := Lib.hid hO3; clear how3 hA3 hC3 hF3 hO3 hll3 hK3 hR3 hz1 hz2 hz3 hbw3 hf3i))
      | (go_at_call 26; go_loud (refine (refs_ao i _ (H.out.below HB2.out) hi hlive).mono ?_; rintro e w2 ⟨rfl, hB2⟩; have hb3 := below_step HB2.out hB2; have hbw := blk_below HBW1.out hB2; have q0 := blk_cell hbw 0; have q1 := blk_cell hbw 1; have hcb2 := HCB1.out.below hB2; have HBW2 := Lib.hid hbw; have HCB2 := Lib.hid hcb2; have HF2 := Lib.hid (HF.out.more hb3); have HAO := Lib.hid (open_ex (H.out.below hb3) hi HG2.out ho hone HBB.out); have HS2 := Lib.hid (show w.heap.size + 1 ≤ w2.heap.size ∧ w.heap.size + 1 ≤ w1.heap.size from ⟨by have h1 := hB2.size; simp at h1; have h2 := HS1.out; omega, HS1.out⟩); have HNW := Lib.hid (wr_no HNB.out HVK1.out (show w.heap.size + 1 ≤ w1.heap.size from HS1.out)); have HB3 := Lib.hid hb3; clear hB2 hbw hcb2 hb3))
      | (go_at_call 24; go_loud (refine (get_AO i _ (H.out.below (by repeat (first | (with_reducible first | exact Below.refl _ _ | apply below_alloc | apply pw_below_drewN | apply below_drew1)))) hi hlive).mono ?_; rintro e w1 ⟨v, k, rfl, hv1, hk1, hd1, hB1⟩; obtain ⟨A1, c1, e1⟩ := Kd.R_slice hv1; subst e1; obtain ⟨A2, c2, e2⟩ := Kd.R_slice hk1; subst e2; have HS1 := Lib.hid (show w.heap.size + 1 ≤ w1.heap.size by have := hB1.size; simpa using this); have hb2 := below_alloc (below_step (below_alloc (Below.refl w.heap.size w) (.cells #[.pointer (some ⟨a, 0, none⟩), .int .u32 o] 133)) hB1) (.cells #[.int .u32 (f i).ow, .int .u32 (f i).a, .int .u32 (f i).b, .slice A1 (f i).vals.length c1, .slice A2 (f i).kids.length c2] 43); have HBW1 := Lib.hid (blk_alloc (blk_below (blk_new w (.cells #[.pointer (some ⟨a, 0, none⟩), .int .u32 o] 133)) hB1) (.cells #[.int .u32 (f i).ow, .int .u32 (f i).a, .int .u32 (f i).b, .slice A1 (f i).vals.length c1, .slice A2 (f i).kids.length c2] 43)); have q0 := blk_cell HBW1.out 0; have q1 := blk_cell HBW1.out 1; have HCB1 := Lib.hid (cbo_new hv1 hk1 hd1 HNB.out (by simp) HS1.out); have HVK1 := Lib.hid (rows_from (w := w) hv1 hk1 (by simp)); have HB2 := Lib.hid hb2; clear hv1 hk1 hd1 hB1 hb2)))
    go_ret
    have hll := HLL3.out
    have hA3 := HA3.out
    have hlvE : ∀ j, Lv f3 (fun x => x == i || op x) j → Same f3 (upd f3 i {c3 with ow := o, r := 1}) j := fun j hj => same_step hA3 (fun _ => True) (fun y hy _ => by rw [upd_ne _ (fun (e : y = i) => by have h1 : (y == i || op y) = false := hy.2.2; rw [e] at h1; simp at h1)]) (fun _ _ _ _ _ => trivial) j hj trivial
    have hro' : ∀ z, (fun x => x == i || op x) z = true → 1 ≤ rest z + one i z := by
      intro z hz
      by_cases e : z = i
      · subst e; omega
      · have hz2 : (z == i || op z) = true := hz
        rw [show (z == i) = false by simpa using e, Bool.false_or] at hz2
        have := HRO.out z hz2
        omega
    refine ⟨i, O5, f3, live3, c3, rfl, HA5.out, by omega, HR3.out, fun x hx => ?_, hi, ho, fun j h0 hj => ?_, fun j hj => ?_, ?_⟩
    · have hp : 0 < x := by obtain ⟨z, hz1, hz2, rfl⟩ := kidsOf_mem hx; have := HZ3.out.2.2 z hz1; omega
      have hc : 0 < kc c3.kids x := List.count_pos_iff.2 hx
      refine hlvE x ⟨hp, hA3.ext_lv hp (by show 0 < rest x + one i x + kc c3.kids x; omega), ?_⟩
      cases hq : (fun x => x == i || op x) x
      · rfl
      · have := op_kc (rest := fun z => rest z + one i z) hA3 hro' x hq; omega
    · have hji : j ≠ i := fun e => by have := HRI.out; rw [e] at hj; omega
      have hji' : (j == i) = false := by simpa using hji
      have hk := HK3.out j h0 (by show 0 < rest j + one i j; omega)
      refine ⟨fun hoj => by rw [upd_ne _ hji]; exact hk.1 (by show (j == i || op j) = true; rw [hoj, Bool.or_true]), fun hoj => ?_⟩
      have hoj' : (j == i || op j) = false := by rw [hji', hoj]; rfl
      exact (hk.2 hoj').trans (hlvE j ⟨h0, hA3.ext_lv h0 (by show 0 < rest j + one i j + kc c3.kids j; omega), hoj'⟩)
    · have h1 := HF3.out.size
      have h2 := HB3.out.size
      rcases HO5.out j hj with q | q
      · rcases HO3.out j q with q | q
        · exact .inl q
        · exact .inr (by omega)
      · exact .inr (by omega)
    · have h1 := HS2.out
      have h2 := HB3.out.size
      refine ((Fr.of_new (S := O) HB3.out).then_ HF3.out (fun j hj => ?_)).then_ HF5.out (fun j hj => ?_)
      · rcases hj with e | e | e | e
        · exact .inl e
        · exact .inr (by omega)
        · exact .inr (by have := HVK1.out j (.inl e); omega)
        · exact .inr (by have := HVK1.out j (.inr e); omega)
      · rcases HO3.out j hj with q | q
        · exact .inl q
        · exact .inr (by omega)
  · have hcs : (o != 0) = false ∨ ((o != 0) = true ∧ ((f i).ow == o) = false) ∨ ((o != 0) = true ∧ ((f i).ow == o) = true ∧ ((f i).r == 1) = false) := by
      by_cases g0 : o = 0
      · exact .inl (by simpa using g0)
      · by_cases g1 : (f i).ow = o
        · exact .inr (.inr ⟨by simpa using g0, by simpa using g1, by simpa using fun g2 => hin ⟨g0, g1, g2⟩⟩)
        · exact .inr (.inl ⟨by simpa using g0, by simpa using g1⟩)
    clear hin
    rcases hcs with b0 | ⟨b0, b1⟩ | ⟨b0, b1, b2⟩
    all_goals (
      go_enter Try.func78, Try.ntmps78
      go_wp2_with (first
        | (go_at_call 26; go_loud (refine (refs_ao i _ (H.out.below HB2x.out) hi hlive).mono ?_; rintro e w2 ⟨rfl, hB2⟩; have hb3 := below_step HB2x.out hB2; have hbw := blk_below HBWx.out hB2; have q0 := blk_cell hbw 0; have q1 := blk_cell hbw 1; have HBWx := Lib.hid hbw; have HB2x := Lib.hid hb3; clear hB2 hbw hb3))
        | (go_at_call 24; go_loud (refine (get_AO i _ (H.out.below (by repeat (first | (with_reducible first | exact Below.refl _ _ | apply below_alloc | apply pw_below_drewN | apply below_drew1)))) hi hlive).mono ?_; rintro e w1 ⟨v, k, rfl, hv1, hk1, hd1, hB1⟩; obtain ⟨A1, c1, e1⟩ := Kd.R_slice hv1; subst e1; obtain ⟨A2, c2, e2⟩ := Kd.R_slice hk1; subst e2; have hb2 := below_alloc (below_step (below_alloc (Below.refl w.heap.size w) (.cells #[.pointer (some ⟨a, 0, none⟩), .int .u32 o] 133)) hB1) (.cells #[.int .u32 (f i).ow, .int .u32 (f i).a, .int .u32 (f i).b, .slice A1 (f i).vals.length c1, .slice A2 (f i).kids.length c2] 43); have HBWx := Lib.hid (blk_alloc (blk_below (blk_new w (.cells #[.pointer (some ⟨a, 0, none⟩), .int .u32 o] 133)) hB1) (.cells #[.int .u32 (f i).ow, .int .u32 (f i).a, .int .u32 (f i).b, .slice A1 (f i).vals.length c1, .slice A2 (f i).kids.length c2] 43)); have q0 := blk_cell HBWx.out 0; have q1 := blk_cell HBWx.out 1; have HB2x := Lib.hid hb2; clear hv1 hk1 hd1 hB1 hb2)))
      have hbd := below_drew1 HB2x.out
      have hAd := H.out.below hbd
      have hbwd := blk_drew HBWx.out
      have HBD := Lib.hid hbd
      have HAD := Lib.hid hAd
      have HBWD := Lib.hid hbwd
      have HBB9 := Lib.hid (fun x => Nat.le_trans (HBB.out x) (show 80000000000 ≤ 90000000000 by decide))
      clear hbd hAd hbwd q0 q1
      refine start_ (n := 7) (S := fun w' => w'.cell? ⟨w.heap.size, 0, none⟩ = some (.pointer (some ⟨a, 0, none⟩)) ∧ w'.cell? ⟨w.heap.size, 1, none⟩ = some (.int .u32 o)) (ds := [5]) #[false, false, false, false, false, false, false] (by kernel_rfl) rfl rfl ⟨(blk_cell HBWD.out 0), (blk_cell HBWD.out 1)⟩ (fun hHeld => ?_)
      refine pure_ (i := 2) (N := some 45) (v := ?_) (a' := ?_) #[false, false, true, false, false, false, false] rfl rfl (by kernel_rfl) (fun _ _ _ h => h) (Or.inl ⟨by rfl, ?_⟩) ?_ ?_
      rotate_left
      · intro w'
        go_simp
        with_reducible rfl
      rotate_left
      · simp only [Act.put, List.setIfInBounds_toArray, List.set_cons_zero, List.set_cons_succ, i64_w, i32_w]
        rfl
      refine pure_ (i := 4) (N := some 47) (v := ?_) (a' := ?_) #[false, false, true, false, true, false, false] rfl rfl (by kernel_rfl) (fun _ _ _ h => h) (Or.inl ⟨by rfl, ?_⟩) ?_ ?_
      rotate_left
      · intro w'
        go_simp
        with_reducible rfl
      rotate_left
      · simp only [Act.put, List.setIfInBounds_toArray, List.set_cons_zero, List.set_cons_succ, i64_w, i32_w]
        rfl
      refine take_ (i := 0) (N := some 43) (v := ?_) (a' := ?_) #[true, false, true, false, true, false, false] rfl rfl (by kernel_rfl) (fun _ _ _ h => h) (Or.inl ⟨by rfl, ?_⟩) hHeld ?_ ?_
      rotate_left
      · rintro w' ⟨s0, s1⟩
        go_simp
        with_reducible rfl
      rotate_left
      · simp only [Act.put, List.setIfInBounds_toArray, List.set_cons_zero, List.set_cons_succ, i64_w, i32_w]
        rfl
      refine take_ (i := 1) (N := some 44) (v := ?_) (a' := ?_) #[true, true, true, false, true, false, false] rfl rfl (by kernel_rfl) (fun _ _ _ h => h) (Or.inl ⟨by rfl, ?_⟩) hHeld ?_ ?_
      rotate_left
      · rintro w' ⟨s0, s1⟩
        go_simp
        with_reducible rfl
      rotate_left
      · simp only [Act.put, List.setIfInBounds_toArray, List.set_cons_zero, List.set_cons_succ, i64_w, i32_w]
        rfl
      refine one_ (i := 3) (N := some 46) #[true, true, true, true, true, false, false] rfl rfl (by kernel_rfl) (by decide) (fun K hK => ?_)
      refine goes_ Try.func87 (by kernel_rfl) rfl #[workV a o, .int .i64 i] (by rfl) rfl rfl (by simp only [List.map_toArray, List.map_cons, List.map_nil]; rfl) ?_
      with_reducible refine (open_calls o i _ HAD.out hi ho HBB9.out).mono ?_
      rintro e w3 ⟨v3, k3, O3, f3, live3, rfl, hv3, hk3, hd3, hn3, hA3, hK3, hS3, hll3, hO3, hF3⟩
      refine ⟨_, rfl, ?_⟩
      have hbw3 := hF3.blk HBWD.out (HNB.out _ (Nat.le_refl _))
      refine hK.out _ _ ⟨(blk_cell hbw3 0), (blk_cell hbw3 1)⟩ (fun hHeld => ?_)
      clear hK K
      refine norm_ (a' := ?_) ?_ ?_
      rotate_left
      · show Act.put _ (some 46) _ = _
        simp only [Act.put, List.setIfInBounds_toArray, List.set_cons_zero, List.set_cons_succ, i64_w, i32_w]
        rfl
      refine last_ (i := 5) (N := some 48) #[true, true, true, true, true, true, false] rfl rfl (by kernel_rfl) (by decide) (fun K hK => ?_)
      refine goes_ Try.func82 (by kernel_rfl) rfl #[workV a o, cellV (f i).ow (f i).a (f i).b v3 k3, .func (.func 79) #[] #[p1]] (by rfl) rfl rfl (by simp only [List.map_toArray, List.map_cons, List.map_nil]; rfl) ?_
      with_reducible refine (make_push o v3 k3 p1 _ w0 _ hA3 hv3 hk3 hd3 hn3 HC1.out ((HF.out.more HBD.out).then_ hF3 (fun j hj => HO.out j hj)) (fun j hj => (hO3 j hj).elim (HO.out j) (fun q => .inr (Nat.le_trans HSZ.out (Nat.le_trans HBD.out.size q)))) (Nat.le_trans HSZ.out HBD.out.size) hF3.size hK3 hS3 (by omega) HRO.out).mono ?_
      rintro e w4 ⟨i4, O4, f4, live4, c4, rfl, hA4, hll4, hR4, hk4, hi4, ho4, hK4, hO4, hF4⟩
      refine ⟨_, rfl, ?_⟩
      refine hK.out _ _ ?_
      clear hK K
      refine norm_ (a' := ?_) ?_ ?_
      rotate_left
      · show Act.put _ (some 48) _ = _
        simp only [Act.put, List.setIfInBounds_toArray, List.set_cons_zero, List.set_cons_succ, i64_w, i32_w]
        rfl
      refine pure_ (i := 6) (N := some 6) (v := ?_) (a' := ?_) #[true, true, true, true, true, true, true] rfl rfl (by kernel_rfl) (fun _ _ _ h => h) (Or.inl ⟨by rfl, ?_⟩) ?_ ?_
      rotate_left
      · intro w'
        go_simp
        with_reducible rfl
      rotate_left
      · simp only [Act.put, List.setIfInBounds_toArray, List.set_cons_zero, List.set_cons_succ, i64_w, i32_w]
        rfl
      refine done_ (by kernel_rfl) ?_

      have HA4 := Lib.hid hA4
      have HR4 := Lib.hid hR4
      have HKS4 := Lib.hid hk4
      have HK4 := Lib.hid ((hK3.mono (rest' := rest) (fun j hj => by show 0 < rest j + ex j; omega)).trans hK4)
      have HLL4 := Lib.hid (show live4 ≤ live + need + 1 by omega)
      have HO4 := Lib.hid (show ∀ j, O4 j → O j ∨ w.heap.size ≤ j from fun j hj => by
        have h1 := HBD.out.size
        have h2 := hF3.size
        rcases hO4 j hj with q | q
        · rcases hO3 j q with q | q
          · exact .inl q
          · exact .inr (by omega)
        · exact .inr (by omega))
      have HF4 := Lib.hid (show Fr O w w4 from ((Fr.of_new (S := O) HBD.out).trans hF3).then_ hF4 (fun j hj => by
        have h1 := HBD.out.size
        rcases hj with q | q | q
        · rcases hO3 j q with q | q
          · exact .inl q
          · exact .inr (by omega)
        · obtain ⟨q1, o1⟩ := Kd.R_own hv3
          have := own_base o1 j q
          exact .inr (by omega)
        · obtain ⟨q1, o1⟩ := Kd.R_own hk3
          have := own_base o1 j q
          exact .inr (by omega)))
      clear hHeld hA4 hR4 hk4 hK3 hK4 hll3 hll4 hO3 hO4 hF3 hF4 hA3 hv3 hk3 hd3 hn3 hS3 hbw3
      go_wp2
      go_ret
      exact ⟨i4, O4, f4, live4, c4, rfl, HA4.out, HLL4.out, HR4.out, HKS4.out, hi4, ho4, HK4.out, HO4.out, HF4.out⟩)
end Go.Proofs.Ytnipbfhfaefieaa.Pv
/-! pvec: a value more in the tail. -/
namespace Go.Proofs.Ytnipbfhfaefieaa.Pv
open Go.RowKit Go Go.Proofs.YtnipbfhfaefieaaW.PrintWords Go.Proofs.YtnipbfhfaefieaaW.PrintMore Go.Proofs.YtnipbfhfaefieaaW.PrintLast Go.Proofs.Ytnipbfhfaefieaa.Bts Go.Proofs.Ytnipbfhfaefieaa.Fra Go.Proofs.Ytnipbfhfaefieaa.ArnP Go.Proofs.Ytnipbfhfaefieaa.Arn Go.Proofs.Ytnipbfhfaefieaa.Ao
section
variable {O : Nat → Prop} {a : Nat} {f : Nat → Cell} {live most : Int} {ext rest : Nat → Nat}
theorem pushT_calls (o : Int) (t xb : Nat) (q m : Int) (s : ByteArray) (w : World) (h : AO w O a f live most (fun z => rest z + one t z) nop) (hx : ValB w xb q m s) (hxO : ¬ O xb) (ht : 0 < t) (hl : (f t).vals.length < 1000) (hb : ∀ x, rest x ≤ 80000000000) (hlm : live < most) :
    Calls Try.prog 78 #[workV a o, .int .i64 t, .func (.func 79) #[] #[.pointer (some ⟨xb, 0, none⟩)]] w fun e w' => ∃ (t' : Nat) (O' : Nat → Prop) (f' : Nat → Cell) (live' : Int), e = .returned (.int .i64 t') ∧ AO w' O' a f' live' most (fun z => rest z + one t' z) nop ∧ live' ≤ live + 1 ∧ 0 < t' ∧ f' t' = {f t with vals := (f t).vals ++ [(q, m, s)], ow := o, r := 1} ∧ KeepR rest nop f f' ∧ (∀ j, O' j → O j ∨ w.heap.size ≤ j) ∧ Fr O w w' := by
  have hlive : 0 < (f t).r := h.ext_lv ht (by show 0 < rest t + one t t; have : one t t = 1 := if_pos rfl; omega)
  have hkl := (AO.kl h hlive).1
  have hkn := AO.kn h ⟨ht, hlive, rfl⟩
  have hA' : AO w O a f live most (fun z => rest z + zf z + one t z) nop := h
  refine (change_push (need := 0) o t (.pointer (some ⟨xb, 0, none⟩)) w w hA' ht rfl hb (fun z hz => by cases hz) (Fr.refl O w) (fun j hj => .inl hj) (cb_push w hx hxO hl hkl hkn) (cb_push w hx hxO hl hkl hkn) (by omega)).mono ?_
  rintro e w5 ⟨k', O5, f5, live5, c5, rfl, hA5, hll5, hc, hS5, hk5, ho5, hK5, hO5, hF5⟩
  subst hc
  exact ⟨k', O5, _, live5, rfl, hA5, by omega, hk5, upd_eq _ _ _, hK5, hO5, hF5⟩
theorem begin_ok (o : Int) (n r t : Nat) (w : World) (h : AO w O a f live most (fun z => rest z + vx r t z) nop) (hn : n ≤ 1024) (he : ∀ x, rest x ≤ 50000000000) (hful : ¬ most - live < (lev (lvs n + 1) : Int) + 3) :
    Calls Try.prog 77 #[.pointer (some ⟨a, 0, none⟩), vecV n r t, .int .u32 o] w fun e w' => e = .returned (.tuple #[workV a o, .int .i64 0]) ∧ ∃ f', AO w' O a f' live most (fun z => RR rest o r t z + vx r t z) nop ∧ OnlyR f f' ∧ KeepR (fun z => RR rest o r t z + vx r t z) nop f f' ∧ Fr O w w' := by
  have hr : r = 0 ∨ 0 < (f r).r := (Nat.eq_zero_or_pos r).imp id (fun q => h.ext_lv q (by have := vx_r (t := t) q; omega))
  have ht : t = 0 ∨ 0 < (f t).r := (Nat.eq_zero_or_pos t).imp id (fun q => h.ext_lv q (by have := vx_t (r := r) q; omega))
  refine (begin_calls o n r t w h hn hr ht (fun x => by have := he x; have : vx r t x ≤ 2 := (by unfold vx; have := hold_le r x; have := hold_le t x; omega); omega)).mono ?_
  rintro e w' (⟨q, _⟩ | ⟨_, q1, f', q2, q3⟩)
  · exact absurd q hful
  · have hk : KeepR (fun z => RR rest o r t z + vx r t z) nop f f' := fun j h0 hj => ⟨fun hc => (by cases hc), fun _ => same_only h q3.1 j h0 (h.ext_lv h0 (by
      have hj : 0 < RR rest o r t j + vx r t j := hj
      show 0 < rest j + vx r t j
      unfold RR at hj
      split at hj <;> omega))⟩
    refine ⟨q1, f', ?_, q3.1, hk, q3.2.2⟩
    have e1 : (fun z => RR rest o r t z + vx r t z) = RR (fun z => rest z + vx r t z) o r t := by
      funext z
      show rest z + (if o = 0 then vx r t z else 0) + vx r t z = rest z + vx r t z + (if o = 0 then vx r t z else 0)
      omega
    rw [e1]
    exact q2
theorem begin_full (o : Int) (n r t : Nat) (w : World) (h : AO w O a f live most (fun z => rest z + vx r t z) nop) (hn : n ≤ 1024) (he : ∀ x, rest x ≤ 50000000000) (hful : most - live < (lev (lvs n + 1) : Int) + 3) :
    Calls Try.prog 77 #[.pointer (some ⟨a, 0, none⟩), vecV n r t, .int .u32 o] w fun e w' => e = .returned (.tuple #[.agg #[.pointer none, .int .u32 0], .int .i64 5]) ∧ Below w.heap.size w w' := by
  have hr : r = 0 ∨ 0 < (f r).r := (Nat.eq_zero_or_pos r).imp id (fun q => h.ext_lv q (by have := vx_r (t := t) q; omega))
  have ht : t = 0 ∨ 0 < (f t).r := (Nat.eq_zero_or_pos t).imp id (fun q => h.ext_lv q (by have := vx_t (r := r) q; omega))
  refine (begin_calls o n r t w h hn hr ht (fun x => by have := he x; have : vx r t x ≤ 2 := (by unfold vx; have := hold_le r x; have := hold_le t x; omega); omega)).mono ?_
  rintro e w' (⟨_, q⟩ | ⟨q, _⟩)
  · exact q
  · exact absurd hful q
theorem vx_split (R : Nat → Nat) (r : Nat) {t : Nat} (ht : 0 < t) : (fun z => R z + vx r t z) = fun z => R z + hold r z + one t z := by
  funext z
  unfold vx
  rw [hold_pos ht]
  omega
theorem fr_two (w : World) (b c : Nat) (x y u v z : Value) : Fr (fun j => j = b ∨ j = c) w (((((w.setCell ⟨b, 2, none⟩ x).setCell ⟨b, 0, none⟩ y).setCell ⟨c, 0, none⟩ u).setCell ⟨c, 1, none⟩ v).setCell ⟨c, 2, none⟩ z) :=
  Fr.put (Fr.put (Fr.put (Fr.put (Fr.put (Fr.refl _ w) (p := ⟨b, 2, none⟩) (.inl (.inl rfl)) x) (p := ⟨b, 0, none⟩) (.inl (.inl rfl)) y) (p := ⟨c, 0, none⟩) (.inl (.inr rfl)) u) (p := ⟨c, 1, none⟩) (.inl (.inr rfl)) v) (p := ⟨c, 2, none⟩) (.inl (.inr rfl)) z
theorem RR_le {o : Int} {r t : Nat} (he : ∀ x, rest x ≤ 50000000000) (x : Nat) : RR rest o r t x ≤ 50000000002 := by
  have := he x
  have : vx r t x ≤ 2 := (by unfold vx; have := hold_le r x; have := hold_le t x; omega)
  unfold RR
  split <;> omega
set_option maxHeartbeats 4000000 in
set_option maxRecDepth 100000 in
theorem push_tail (o : Int) (n r t : Nat) (l : List V3) (q m : Int) (s : ByteArray) (w : World) (h : AO w O a f live most (fun z => rest z + vx r t z) nop) (hv : VRep f n r t l) (hn : n < 1024) (hn2 : n % 32 ≠ 0) (he : ∀ x, rest x ≤ 50000000000) (hful : ¬ most - live < (lev (lvs n + 1) : Int) + 3) :
    Calls Try.prog 33 #[.pointer (some ⟨a, 0, none⟩), vecV n r t, valV q m s, .int .u32 o] w fun e w' => ∃ (r' t' : Nat) (O' : Nat → Prop) (f' : Nat → Cell) (live' : Int), e = .returned (.tuple #[vecV ((n : Int) + 1) r' t', .int .i64 0]) ∧ AO w' O' a f' live' most (fun z => RR rest o r t z + vx r' t' z) nop ∧ live' ≤ live + 2 ∧ VRep f' (n + 1) r' t' (l ++ [(q, m, s)]) ∧ KeepR (RR rest o r t) nop f f' ∧ (∀ j, O' j → O j ∨ w.heap.size ≤ j) ∧ Fr O w w' := by
  have hlt := h.lt
  have hv' := hv
  obtain ⟨hl, _, hv2⟩ := hv'
  rcases hv2 with ⟨q0, _⟩ | ⟨h0, hT, hR⟩
  · omega
  have hbx := below_alloc (below_alloc (below_alloc (Below.refl w.heap.size w) (.cells #[.int .i64 n, .int .i64 r, .int .i64 t] 61)) (.cells #[.int .u8 q, .int .i64 m, .string s] 66)) (.cells #[.int .i64 0, .int .i64 0, .int .i64 0] 61)
  have hk0 := blk_alloc (blk_alloc (blk_new w (.cells #[.int .i64 n, .int .i64 r, .int .i64 t] 61)) (.cells #[.int .u8 q, .int .i64 m, .string s] 66)) (.cells #[.int .i64 0, .int .i64 0, .int .i64 0] 61)
  have hk1 := blk_alloc (new1 w (.cells #[.int .i64 n, .int .i64 r, .int .i64 t] 61) (.cells #[.int .u8 q, .int .i64 m, .string s] 66)) (.cells #[.int .i64 0, .int .i64 0, .int .i64 0] 61)
  have hk2 := new2 w (.cells #[.int .i64 n, .int .i64 r, .int .i64 t] 61) (.cells #[.int .u8 q, .int .i64 m, .string s] 66) (.cells #[.int .i64 0, .int .i64 0, .int .i64 0] 61)
  have hbg := begin_ok o n r t _ (h.below hbx) (by omega) he hful
  have hmd : ¬ (n : Int).tmod 32 = 0 := by rw [Int.tmod_eq_emod_of_nonneg (by omega)]; omega
  have hmd2 : ¬ (n : Int) % 32 = 0 := by omega
  have hlong : ¬ (1024 : Int) ≤ (n : Int) := by omega
  have hn9 : (n : Int) ≤ 1023 := by omega
  have hlm : live < most := by omega
  have hvl : (f t).vals.length < 1000 := by
    rw [hT.2.1, List.length_drop]
    unfold lvs
    omega
  have ht0 := hT.1
  have hkds := hT.2.2
  have HBG := Lib.hid hbg
  have HB := Lib.hid hbx
  have HK := Lib.hid (And.intro hk0 (And.intro hk1 hk2))
  have HN := Lib.hid (show ∀ j, w.heap.size ≤ j → ¬ O j from fun j hj e => by have := hlt j e; omega)
  have HV := Lib.hid hv
  have HT := Lib.hid hT
  have HE := Lib.hid he
  have HL := Lib.hid hl
  clear h hbx hk0 hk1 hk2 hbg hlt hv hT hR hful he hl
  go_enter Try.func33, Try.ntmps33
  go_wp2_with (first
    | (go_at_call 78; go_loud (refine (pushT_calls (rest := fun z => RR rest o r t z + hold r z) o t (w.heap.size + 1) q m s _ HA5.out HK5.out.2.1 (HN.out _ (by omega)) ht0 (by rw [HO5.out t]; exact hvl) (fun x => by have := RR_le (o := o) (r := r) (t := t) HE.out x; have := hold_le r x; omega) hlm).mono ?_; rintro e w6 ⟨t', O6, f6, live6, rfl, hA6, hll6, ht6, hf6, hK6, hO6, hF6⟩; have HA6 := Lib.hid hA6; have HF6 := Lib.hid hF6; have HFT := Lib.hid hf6; have HK6 := Lib.hid hK6; have b0 := hF6.blk HK5.out.1 (HN.out _ (by omega)); have b2 := hF6.blk HK5.out.2.2 (HN.out _ (by omega)); have u0 := blk_cell b0 0; have u1 := blk_cell b0 1; have u2 := blk_cell b0 2; have y0 := blk_frozen b0 0; have y1 := blk_frozen b0 1; have y2 := blk_frozen b0 2; have v0 := blk_cell b2 0; have v1 := blk_cell b2 1; have v2 := blk_cell b2 2; have z0 := blk_frozen b2 0; have z1 := blk_frozen b2 1; have z2 := blk_frozen b2 2; have HB6 := Lib.hid (And.intro b0 b2); clear b0 b2 hA6 hf6 hK6 hF6))
    | (go_at_call 77; go_loud (refine HBG.out.mono ?_; rintro e w5 ⟨rfl, f5, hA5, hO5, hk5, hF5⟩; have HKP := Lib.hid hk5; clear hk5; have hA5 := hA5.below (below_alloc (Below.refl _ _) (.cells #[.pointer (some ⟨a, 0, none⟩), .int .u32 o] 133)); rw [vx_split _ r ht0] at hA5; have HA5 := Lib.hid hA5; have HO5 := Lib.hid hO5; have HF5 := Lib.hid hF5; have b0 := hF5.blk HK.out.1 (HN.out _ (by omega)); have b1 := hF5.blk HK.out.2.1 (HN.out _ (by omega)); have b2 := hF5.blk HK.out.2.2 (HN.out _ (by omega)); have c0 := blk_alloc b0 (.cells #[.pointer (some ⟨a, 0, none⟩), .int .u32 o] 133); have c1 := blk_alloc b1 (.cells #[.pointer (some ⟨a, 0, none⟩), .int .u32 o] 133); have c2 := blk_alloc b2 (.cells #[.pointer (some ⟨a, 0, none⟩), .int .u32 o] 133); have s0 := blk_cell c0 0; have s1 := blk_cell c0 1; have s2 := blk_cell c0 2; have HK5 := Lib.hid (And.intro c0 (And.intro c1 c2)); clear b0 b1 b2 c0 c1 c2 hA5 hO5 hF5)))
  refine bodyPost_ret (results_ct rfl _ _ (w.heap.size + 1 + 1) 61 #[.int .i64 ((n : Int) + 1), .int .i64 r, .int .i64 t'] (0, 0) _ rfl (ret3 ((Fr.put (Fr.put (Fr.refl (fun j => j = w.heap.size) w6) (p := ⟨w.heap.size, 2, none⟩) (.inl rfl) _) (p := ⟨w.heap.size, 0, none⟩) (.inl rfl) _).blk HB6.out.2 (by omega)) _ _ _) Try.underlying61 rfl (by kernel_rfl)) rfl ?_
  have hs5 := blk_lt HK5.out.2.2
  have hsw := HF5.out.size
  have hF9 := fr_two w6 w.heap.size (w.heap.size + 1 + 1) (.int .i64 t') (.int .i64 ((n : Int) + 1)) (.int .i64 ((n : Int) + 1)) (.int .i64 r) (.int .i64 t')
  have hA9 := HA6.out
  rw [← vx_split _ r ht6] at hA9
  have hA10 := hA9.move hF9 (fun k hk e => by
    rcases hO6 k hk with q | q
    · rcases e with e | e
      · exact HN.out k (by omega) q
      · exact HN.out k (by omega) q
    · rcases e with e | e <;> omega)
  have hL0 := HKP.out
  have e5 := HO5.out t
  refine ⟨r, t', O6, f6, live6, rfl, hA10, by omega, ?_, ?_, fun j hj => ?_, ?_⟩
  · refine VRep.tail HV.out hn2 hn (fun hr => ?_) ⟨ht6, ?_, ?_⟩
    · have h1 : 0 < vx r t r := vx_r hr
      have h2 : hold r r = 1 := by rw [hold_pos hr]; exact if_pos rfl
      exact ((HKP.out r hr (by show 0 < RR rest o r t r + vx r t r; omega)).2 rfl).trans ((HK6.out r hr (by show 0 < RR rest o r t r + hold r r; omega)).2 rfl)
    · rw [HFT.out, e5]
      show (f t).vals ++ _ = _
      rw [HT.out.2.1]
    · rw [HFT.out, e5]
      exact hkds
  · exact (HKP.out.mono (fun j hj => by show 0 < RR rest o r t j + vx r t j; omega)).trans (HK6.out.mono (fun j hj => by show 0 < RR rest o r t j + hold r j; omega))
  · refine (hO6 j hj).imp id (fun q => ?_)
    have := HB.out.size
    omega
  · have := HB.out.size
    exact (((Fr.of_new HB.out).trans (HF5.out.then_ (Fr.of_new (S := O) (below_alloc (Below.refl _ _) _)) (fun j hj => .inl hj))).trans HF6.out).then_ hF9 (fun j hj => .inr (by rcases hj with e | e <;> omega))
end
end Go.Proofs.Ytnipbfhfaefieaa.Pv
