/- Several texts of this claim, laid together: RepA, RepB. -/
import Derived.Test.YtaoacibahdbdkaaMb
/-! reply: Parse, as a contract. Printed by wip/tools/gen_parse.py. -/
namespace Go.Proofs.Ytaoacibahdbdkaa.Rep
open Go.RowKit Go Go.Proofs.Ytaoacibahdbdkaa.QReplySame Go.Proofs.YtaoacibahdbdkaaW.PrintWords Go.Proofs.YtaoacibahdbdkaaW.PrintLast Go.Proofs.YtaoacibahdbdkaaW.PrintMore Go.Proofs.Ytaoacibahdbdkaa.Fra Go.Proofs.Ytaoacibahdbdkaa.Pk Go.Proofs.Ytaoacibahdbdkaa.Bts Go.Proofs.Ytaoacibahdbdkaa.Pr
theorem infoS : (Try.prog.info? 54).map (fun i => (i.zero, i.size, i.bytes)) = some (some (.agg #[.int .u8 0, .int .i64 0, .string (⟨#[]⟩ : ByteArray)]), 3, 32) := by kernel_rfl
/-- A reply's block. -/
abbrev RP (w : World) (b : Nat) (e h g : Int) (v : Value) : Prop := w.heap[b]? = some (.cells #[.int .i64 e, .int .u64 h, .int .u64 g, v] 82 (0, 0))
theorem RP.set4 {w : World} {b : Nat} {e h g : Int} {v : Value} (H : RP w b e h g v) (e' h' g' : Int) (v' : Value) : RP ((((w.setCell ⟨b, 0, none⟩ (.int .i64 e')).setCell ⟨b, 1, none⟩ (.int .u64 h')).setCell ⟨b, 2, none⟩ (.int .u64 g')).setCell ⟨b, 3, none⟩ v') b e' h' g' v' :=
  blk_put (blk_put (blk_put (blk_put H 0 _ rfl) 1 _ rfl) 2 _ rfl) 3 _ rfl
theorem fr4 (w : World) (b : Nat) (x y z u : Value) : Fr (· = b) w ((((w.setCell ⟨b, 0, none⟩ x).setCell ⟨b, 1, none⟩ y).setCell ⟨b, 2, none⟩ z).setCell ⟨b, 3, none⟩ u) :=
  Fr.put (S := fun k => k = b) (Fr.put (S := fun k => k = b) (Fr.put (S := fun k => k = b) (Fr.put (S := fun k => k = b) (Fr.refl (fun k => k = b) w) (p := ⟨b, 0, none⟩) (.inl rfl) x) (p := ⟨b, 1, none⟩) (.inl rfl) y) (p := ⟨b, 2, none⟩) (.inl rfl) z) (p := ⟨b, 3, none⟩) (.inl rfl) u
theorem RV.fr {w w' : World} {v : Value} {l : List S54} {S : Nat → Prop} (h : RV w v l) (hf : Fr S w w') (hs : ∀ k, v.ownBlock = some k → ¬ S k) : RV w' v l := by
  obtain ⟨A, c, rfl, hc, hC⟩ := h
  refine ⟨A, c, rfl, hc, ?_⟩
  obtain ⟨h1, h2, h3⟩ := hC
  refine ⟨h1, h2, fun hn => ?_⟩
  obtain ⟨ad, rfl, h4⟩ := h3 hn
  refine ⟨ad, rfl, fun j p hj => ?_⟩
  obtain ⟨cs, e1, e2, e3⟩ := h4 j p hj
  refine ⟨cs, e1, ?_, fun i u hi => ?_⟩
  · obtain rfl := k54_open e2
    exact k54_mk _ _
  · have hb : (ad.add (j * k54.sz + i)).block = ad.block := by unfold Addr.add; split <;> rfl
    refine hf.cell (e3 i u hi) ?_
    have hb' : (ad.add (j * k54.sz + i)).block = ad.block := hb
    rw [hb']
    exact hs ad.block rfl
theorem fr_below {S : Nat → Prop} {B : Nat} {w w1 w2 : World} (h : Below B w w1) (hf : Fr S w1 w2) (hs : ∀ k, S k → B ≤ k) (hB : B ≤ w.heap.size) : Below B w w2 :=
  Fr.below (S := fun k => B ≤ k) (Fr.then_ (Fr.of_below h (fun k hk => .inl hk)) hf (fun k hk => .inl (hs k hk))) (fun k hk => hk) hB
/-- What Parse tells. -/
def ParsePost (r : (Int × Int × Int × List S54) × List Int × Int) (w : World) (en : Ending) (w' : World) : Prop :=
  ((endP r.2.1 r.2.2 ≠ 0 ∧ en = .returned (.tuple #[.agg #[.int .i64 0, .int .u64 0, .int .u64 0, .slice none 0 0], .int .i64 (endP r.2.1 r.2.2)])) ∨
   (endP r.2.1 r.2.2 = 0 ∧ rightR r.1.1 r.1.2.1 r.1.2.2.1 r.1.2.2.2 = false ∧ en = .returned (.tuple #[.agg #[.int .i64 0, .int .u64 0, .int .u64 0, .slice none 0 0], .int .i64 10])) ∨
   (endP r.2.1 r.2.2 = 0 ∧ rightR r.1.1 r.1.2.1 r.1.2.2.1 r.1.2.2.2 = true ∧ ∃ v, en = .returned (.tuple #[.agg #[.int .i64 r.1.1, .int .u64 r.1.2.1, .int .u64 r.1.2.2.1, v], .int .i64 0]) ∧ RV w' v r.1.2.2.2)) ∧ Below w.heap.size w w'
theorem ends_cases (xs : List Int) (f : Int) : endP xs f = 0 ∨ (endP xs f ≠ 0 ∧ ((endP xs f == 0) = false) ∧ ((endP xs f != 0) = true)) := by
  by_cases h : endP xs f = 0
  · exact .inl h
  · exact .inr ⟨h, by simpa using h, by simpa using h⟩
set_option maxHeartbeats 4000000 in
set_option maxRecDepth 100000 in
theorem parse_short (v : Value) (xs : List Int) (w : World) (hv : Byt w v xs) (hl : xs.length ≤ 1000000) (hb : Bs xs) (bs ys : List Int) (f1 : Int) (ht1 : takeP xs 0 1 = (bs, ys, f1)) (hn : ¬ (numB bs = 0 ∧ f1 = 0)) :
    Calls Try.prog 50 #[v] w (ParsePost (repP xs) w) := by
  obtain ⟨q1, q2, q3, q4⟩ := takeP_bs1 ht1 hb
  have hq := numB_small q1 q3 (by omega)
  have hrep : repP xs = ((numB bs, 0, 0, []), ys, f1) := by
    unfold repP
    rw [ht1]
    dsimp only
    rw [if_neg hn]
  rw [hrep]
  have HT1 := Lib.hid ht1
  obtain ⟨e, he⟩ : ∃ e, numB bs = e := ⟨_, rfl⟩
  rw [he] at hq hn ⊢
  have HEE := Lib.hid he
  obtain ⟨hq0, hq1⟩ := hq
  have hq1 : e < 256 := hq1
  clear ht1 hrep he q1 q2 q3 q4
  by_cases he0 : e = 0
  · have hf0 : f1 ≠ 0 := fun h => hn ⟨he0, h⟩
    subst he0
    have bf : (f1 == 0) = false := by simpa using hf0
    clear hn hf0
    go_enter Try.func50, Try.ntmps50
    go_upto_region 10 with (first
      | (go_at_call 32; go_loud (have _t := HRD1.out; refine (number_k 1 w1.heap.size g xs 0 1 _ rfl HRD1.out (by omega) hb).mono ?_; rw [HT1.out]; rw [HEE.out]; rintro en w2 ⟨rfl, hr2, hf2⟩; have HRD2 := Lib.hid hr2; have HF2 := Lib.hid hf2; have hgw1 : g < w1.heap.size := hr2.lt.1; have hw12 : w1.heap.size ≤ w2.heap.size := hf2.size; have HZ2 := Lib.hid (hf2.blk HZ1.out hgz); have hzw : w.heap.size < w1.heap.size := blk_lt HZ1.out; clear hr2 hf2 HRD1))
      | (go_at_call 73; go_loud (refine (open_calls _ xs _ (hv.below (below_alloc (Below.refl _ _) _)) (by omega)).mono ?_; rintro en w1 ⟨g, rfl, hr1, hg1, hB1⟩; have HB1 := Lib.hid (below_step (below_alloc (Below.refl w.heap.size w) _) hB1); have HRD1 := Lib.hid hr1; have HZ1 := Lib.hid (blk_below (blk_new w _) hB1); have hgz : w.heap.size ≠ g := (by have := hg1; simp at this; omega); clear hr1 hB1))
      | (go_at_call 36; go_loud (refine (failed_calls w1.heap.size g ys f1 _ (HRD2.out.below (below_alloc (Below.refl _ _) _))).mono ?_; rintro en w3 ⟨rfl, rfl⟩)))
    have HRV := Lib.hid (show ([] : List S54).length ≤ 0 ∧ Kd.C k54 (w2.alloc (.cells #[.int .i64 0, .int .u64 0, .int .u64 0, .slice none 0 0] 82)) none ([] : List S54).length [] from ⟨Nat.le_refl _, Kd.C_nil k54 _⟩)
    have HPP := Lib.hid (show RP (w2.alloc (.cells #[.int .i64 0, .int .u64 0, .int .u64 0, .slice none 0 0] 82)) w2.heap.size 0 0 0 (.slice none 0 0) from blk_new w2 _)
    have HZZ := Lib.hid (blk_alloc HZ2.out (.cells #[.int .i64 0, .int .u64 0, .int .u64 0, .slice none 0 0] 82))
    have HBB := Lib.hid (below_alloc (fr_below HB1.out HF2.out (fun k hk => by have := hg1; simp at this; omega) (Nat.le_refl _)) (.cells #[.int .i64 0, .int .u64 0, .int .u64 0, .slice none 0 0] 82))
    have HRR := Lib.hid (HRD2.out.below (below_alloc (Below.refl _ _) (.cells #[.int .i64 0, .int .u64 0, .int .u64 0, .slice none 0 0] 82)))
    have z0 := blk_cell HZZ.out 0
    have z1 := blk_cell HZZ.out 1
    have z2 := blk_cell HZZ.out 2
    have z3 := blk_cell HZZ.out 3
    have y0 := blk_frozen HZZ.out 0
    have y1 := blk_frozen HZZ.out 1
    have y2 := blk_frozen HZZ.out 2
    have y3 := blk_frozen HZZ.out 3
    have s0 := blk_cell HPP.out 0
    have s1 := blk_cell HPP.out 1
    have s2 := blk_cell HPP.out 2
    have s3 := blk_cell HPP.out 3
    obtain ⟨E, hE⟩ : ∃ E, endP ys f1 = E := ⟨_, rfl⟩
    have HE := Lib.hid hE
    clear hE
    by_cases hE0 : E = 0
    · subst hE0
      cases hR : rightR 0 0 0 ([] : List S54)
      · have HR := Lib.hid hR
        clear hR
        go_wp2_with (first
          | (go_at_call 37; go_loud (refine (end_calls _ _ _ _ _ HRR.out).mono ?_; rw [HE.out]; rintro en w8 ⟨rfl, rfl⟩))
          | (go_at_call 61; go_loud (refine (reply_Reply_Right.calls 200000 0 0 0 none 0 ([] : List S54) false _ HRV.out.2 HRV.out.1 (by rw [rright_f 200000 0 0 0 ([] : List S54) (Nat.zero_le _) (by decide), HR.out])).mono ?_; rintro en w9 ⟨rfl, hB9⟩; have HZ9 := Lib.hid (blk_below HZZ.out hB9); have HB9 := Lib.hid (below_step HBB.out hB9); have z0 := blk_cell HZ9.out 0; have z1 := blk_cell HZ9.out 1; have z2 := blk_cell HZ9.out 2; have z3 := blk_cell HZ9.out 3; have y0 := blk_frozen HZ9.out 0; have y1 := blk_frozen HZ9.out 1; have y2 := blk_frozen HZ9.out 2; have y3 := blk_frozen HZ9.out 3; clear hB9)))
        refine bodyPost_ret (results_ct rfl _ _ w.heap.size 82 #[.int .i64 0, .int .u64 0, .int .u64 0, .slice none 0 0] (0, 0) _ rfl (RP.set4 HZ9.out _ _ _ _) Try.underlying82 rfl (by kernel_rfl)) rfl ?_
        refine ⟨.inr (.inl ⟨HE.out, HR.out, rfl⟩), Fr.below (S := fun k => w.heap.size ≤ k) (Fr.then_ (Fr.of_below HB9.out (fun k hk => .inl hk)) (fr4 _ w.heap.size _ _ _ _) (fun k hk => .inl (by omega))) (fun k hk => hk) (Nat.le_refl _)⟩
      · have HR := Lib.hid hR
        clear hR
        go_wp2_with (first
          | (go_at_call 37; go_loud (refine (end_calls _ _ _ _ _ HRR.out).mono ?_; rw [HE.out]; rintro en w8 ⟨rfl, rfl⟩))
          | (go_at_call 61; go_loud (refine (reply_Reply_Right.calls 200000 0 0 0 none 0 ([] : List S54) true _ HRV.out.2 HRV.out.1 (by rw [rright_f 200000 0 0 0 ([] : List S54) (Nat.zero_le _) (by decide), HR.out])).mono ?_; rintro en w9 ⟨rfl, hB9⟩; have HZ9 := Lib.hid (blk_below HZZ.out hB9); have HB9 := Lib.hid (below_step HBB.out hB9); have HP9 := Lib.hid (blk_below HPP.out hB9); have HV9 := Lib.hid (RV.below (v := .slice none ([] : List S54).length 0) ⟨none, 0, rfl, HRV.out.1, HRV.out.2⟩ hB9); have z0 := blk_cell HZ9.out 0; have z1 := blk_cell HZ9.out 1; have z2 := blk_cell HZ9.out 2; have z3 := blk_cell HZ9.out 3; have y0 := blk_frozen HZ9.out 0; have y1 := blk_frozen HZ9.out 1; have y2 := blk_frozen HZ9.out 2; have y3 := blk_frozen HZ9.out 3; have s0 := blk_cell HP9.out 0; have s1 := blk_cell HP9.out 1; have s2 := blk_cell HP9.out 2; have s3 := blk_cell HP9.out 3; clear hB9)))
        refine bodyPost_ret (results_ct rfl _ _ w.heap.size 82 #[.int .i64 0, .int .u64 0, .int .u64 0, .slice none ([] : List S54).length 0] (0, 0) _ rfl (RP.set4 HZ9.out _ _ _ _) Try.underlying82 rfl (by kernel_rfl)) rfl ?_
        refine ⟨.inr (.inr ⟨HE.out, HR.out, _, rfl, HV9.out.fr (fr4 _ w.heap.size _ _ _ _) (fun k hk => by cases hk)⟩), Fr.below (S := fun k => w.heap.size ≤ k) (Fr.then_ (Fr.of_below HB9.out (fun k hk => .inl hk)) (fr4 _ w.heap.size _ _ _ _) (fun k hk => .inl (by omega))) (fun k hk => hk) (Nat.le_refl _)⟩
    · have b1 : (E == 0) = false := by simpa using hE0
      have b2 : (E != 0) = true := by simpa using hE0
      go_wp2_with (first
        | (go_at_call 37; go_loud (refine (end_calls _ _ _ _ _ HRR.out).mono ?_; rw [HE.out]; rintro en w8 ⟨rfl, rfl⟩)))
      refine bodyPost_ret (results_ct rfl _ _ w.heap.size 82 #[.int .i64 0, .int .u64 0, .int .u64 0, .slice none 0 0] (0, 0) _ rfl (RP.set4 HZZ.out _ _ _ _) Try.underlying82 rfl (by kernel_rfl)) rfl ?_
      refine ⟨.inl ⟨by show endP ys f1 ≠ 0; rw [HE.out]; exact hE0, by show _ = Ending.returned (.tuple #[_, .int .i64 (endP ys f1)]); rw [HE.out]; rfl⟩, Fr.below (S := fun k => w.heap.size ≤ k) (Fr.then_ (Fr.of_below HBB.out (fun k hk => .inl hk)) (fr4 _ w.heap.size _ _ _ _) (fun k hk => .inl (by omega))) (fun k hk => hk) (Nat.le_refl _)⟩
  · have be : (e == 0) = false := by simpa using he0
    clear he0 hn
    go_enter Try.func50, Try.ntmps50
    go_upto_region 10 with (first
      | (go_at_call 32; go_loud (have _t := HRD1.out; refine (number_k 1 w1.heap.size g xs 0 1 _ rfl HRD1.out (by omega) hb).mono ?_; rw [HT1.out]; rw [HEE.out]; rintro en w2 ⟨rfl, hr2, hf2⟩; have HRD2 := Lib.hid hr2; have HF2 := Lib.hid hf2; have hgw1 : g < w1.heap.size := hr2.lt.1; have hw12 : w1.heap.size ≤ w2.heap.size := hf2.size; have HZ2 := Lib.hid (hf2.blk HZ1.out hgz); have hzw : w.heap.size < w1.heap.size := blk_lt HZ1.out; clear hr2 hf2 HRD1))
      | (go_at_call 73; go_loud (refine (open_calls _ xs _ (hv.below (below_alloc (Below.refl _ _) _)) (by omega)).mono ?_; rintro en w1 ⟨g, rfl, hr1, hg1, hB1⟩; have HB1 := Lib.hid (below_step (below_alloc (Below.refl w.heap.size w) _) hB1); have HRD1 := Lib.hid hr1; have HZ1 := Lib.hid (blk_below (blk_new w _) hB1); have hgz : w.heap.size ≠ g := (by have := hg1; simp at this; omega); clear hr1 hB1)))
    have HRV := Lib.hid (show ([] : List S54).length ≤ 0 ∧ Kd.C k54 (w2.alloc (.cells #[.int .i64 e, .int .u64 0, .int .u64 0, .slice none 0 0] 82)) none ([] : List S54).length [] from ⟨Nat.le_refl _, Kd.C_nil k54 _⟩)
    have HPP := Lib.hid (show RP (w2.alloc (.cells #[.int .i64 e, .int .u64 0, .int .u64 0, .slice none 0 0] 82)) w2.heap.size e 0 0 (.slice none 0 0) from blk_new w2 _)
    have HZZ := Lib.hid (blk_alloc HZ2.out (.cells #[.int .i64 e, .int .u64 0, .int .u64 0, .slice none 0 0] 82))
    have HBB := Lib.hid (below_alloc (fr_below HB1.out HF2.out (fun k hk => by have := hg1; simp at this; omega) (Nat.le_refl _)) (.cells #[.int .i64 e, .int .u64 0, .int .u64 0, .slice none 0 0] 82))
    have HRR := Lib.hid (HRD2.out.below (below_alloc (Below.refl _ _) (.cells #[.int .i64 e, .int .u64 0, .int .u64 0, .slice none 0 0] 82)))
    have z0 := blk_cell HZZ.out 0
    have z1 := blk_cell HZZ.out 1
    have z2 := blk_cell HZZ.out 2
    have z3 := blk_cell HZZ.out 3
    have y0 := blk_frozen HZZ.out 0
    have y1 := blk_frozen HZZ.out 1
    have y2 := blk_frozen HZZ.out 2
    have y3 := blk_frozen HZZ.out 3
    have s0 := blk_cell HPP.out 0
    have s1 := blk_cell HPP.out 1
    have s2 := blk_cell HPP.out 2
    have s3 := blk_cell HPP.out 3
    obtain ⟨E, hE⟩ : ∃ E, endP ys f1 = E := ⟨_, rfl⟩
    have HE := Lib.hid hE
    clear hE
    by_cases hE0 : E = 0
    · subst hE0
      cases hR : rightR e 0 0 ([] : List S54)
      · have HR := Lib.hid hR
        clear hR
        go_wp2_with (first
          | (go_at_call 37; go_loud (refine (end_calls _ _ _ _ _ HRR.out).mono ?_; rw [HE.out]; rintro en w8 ⟨rfl, rfl⟩))
          | (go_at_call 61; go_loud (refine (reply_Reply_Right.calls 200000 e 0 0 none 0 ([] : List S54) false _ HRV.out.2 HRV.out.1 (by rw [rright_f 200000 e 0 0 ([] : List S54) (Nat.zero_le _) (by decide), HR.out])).mono ?_; rintro en w9 ⟨rfl, hB9⟩; have HZ9 := Lib.hid (blk_below HZZ.out hB9); have HB9 := Lib.hid (below_step HBB.out hB9); have z0 := blk_cell HZ9.out 0; have z1 := blk_cell HZ9.out 1; have z2 := blk_cell HZ9.out 2; have z3 := blk_cell HZ9.out 3; have y0 := blk_frozen HZ9.out 0; have y1 := blk_frozen HZ9.out 1; have y2 := blk_frozen HZ9.out 2; have y3 := blk_frozen HZ9.out 3; clear hB9)))
        refine bodyPost_ret (results_ct rfl _ _ w.heap.size 82 #[.int .i64 0, .int .u64 0, .int .u64 0, .slice none 0 0] (0, 0) _ rfl (RP.set4 HZ9.out _ _ _ _) Try.underlying82 rfl (by kernel_rfl)) rfl ?_
        refine ⟨.inr (.inl ⟨HE.out, HR.out, rfl⟩), Fr.below (S := fun k => w.heap.size ≤ k) (Fr.then_ (Fr.of_below HB9.out (fun k hk => .inl hk)) (fr4 _ w.heap.size _ _ _ _) (fun k hk => .inl (by omega))) (fun k hk => hk) (Nat.le_refl _)⟩
      · have HR := Lib.hid hR
        clear hR
        go_wp2_with (first
          | (go_at_call 37; go_loud (refine (end_calls _ _ _ _ _ HRR.out).mono ?_; rw [HE.out]; rintro en w8 ⟨rfl, rfl⟩))
          | (go_at_call 61; go_loud (refine (reply_Reply_Right.calls 200000 e 0 0 none 0 ([] : List S54) true _ HRV.out.2 HRV.out.1 (by rw [rright_f 200000 e 0 0 ([] : List S54) (Nat.zero_le _) (by decide), HR.out])).mono ?_; rintro en w9 ⟨rfl, hB9⟩; have HZ9 := Lib.hid (blk_below HZZ.out hB9); have HB9 := Lib.hid (below_step HBB.out hB9); have HP9 := Lib.hid (blk_below HPP.out hB9); have HV9 := Lib.hid (RV.below (v := .slice none ([] : List S54).length 0) ⟨none, 0, rfl, HRV.out.1, HRV.out.2⟩ hB9); have z0 := blk_cell HZ9.out 0; have z1 := blk_cell HZ9.out 1; have z2 := blk_cell HZ9.out 2; have z3 := blk_cell HZ9.out 3; have y0 := blk_frozen HZ9.out 0; have y1 := blk_frozen HZ9.out 1; have y2 := blk_frozen HZ9.out 2; have y3 := blk_frozen HZ9.out 3; have s0 := blk_cell HP9.out 0; have s1 := blk_cell HP9.out 1; have s2 := blk_cell HP9.out 2; have s3 := blk_cell HP9.out 3; clear hB9)))
        refine bodyPost_ret (results_ct rfl _ _ w.heap.size 82 #[.int .i64 e, .int .u64 0, .int .u64 0, .slice none ([] : List S54).length 0] (0, 0) _ rfl (RP.set4 HZ9.out _ _ _ _) Try.underlying82 rfl (by kernel_rfl)) rfl ?_
        refine ⟨.inr (.inr ⟨HE.out, HR.out, _, rfl, HV9.out.fr (fr4 _ w.heap.size _ _ _ _) (fun k hk => by cases hk)⟩), Fr.below (S := fun k => w.heap.size ≤ k) (Fr.then_ (Fr.of_below HB9.out (fun k hk => .inl hk)) (fr4 _ w.heap.size _ _ _ _) (fun k hk => .inl (by omega))) (fun k hk => hk) (Nat.le_refl _)⟩
    · have b1 : (E == 0) = false := by simpa using hE0
      have b2 : (E != 0) = true := by simpa using hE0
      go_wp2_with (first
        | (go_at_call 37; go_loud (refine (end_calls _ _ _ _ _ HRR.out).mono ?_; rw [HE.out]; rintro en w8 ⟨rfl, rfl⟩)))
      refine bodyPost_ret (results_ct rfl _ _ w.heap.size 82 #[.int .i64 0, .int .u64 0, .int .u64 0, .slice none 0 0] (0, 0) _ rfl (RP.set4 HZZ.out _ _ _ _) Try.underlying82 rfl (by kernel_rfl)) rfl ?_
      refine ⟨.inl ⟨by show endP ys f1 ≠ 0; rw [HE.out]; exact hE0, by show _ = Ending.returned (.tuple #[_, .int .i64 (endP ys f1)]); rw [HE.out]; rfl⟩, Fr.below (S := fun k => w.heap.size ≤ k) (Fr.then_ (Fr.of_below HBB.out (fun k hk => .inl hk)) (fr4 _ w.heap.size _ _ _ _) (fun k hk => .inl (by omega))) (fun k hk => hk) (Nat.le_refl _)⟩
set_option maxHeartbeats 4000000 in
set_option maxRecDepth 100000 in
theorem parse_full (v : Value) (xs : List Int) (w : World) (hv : Byt w v xs) (hl : xs.length ≤ 1000000) (hb : Bs xs) (bs ys : List Int) (ht1 : takeP xs 0 1 = (bs, ys, 0)) (hn : numB bs = 0) (b2 r2 : List Int) (f2' : Int) (ht2 : takeP ys 0 8 = (b2, r2, f2')) (b3 r3 : List Int) (f3' : Int) (ht3 : takeP r2 f2' 8 = (b3, r3, f3')) (b4 r4 : List Int) (f4' : Int) (ht4 : takeP r3 f3' 2 = (b4, r4, f4')) :
    Calls Try.prog 50 #[v] w (ParsePost (repP xs) w) := by
  obtain ⟨q1, hb1, q3, q4⟩ := takeP_bs1 ht1 hb
  obtain ⟨p1, hb2, p3, p4⟩ := takeP_bs1 ht2 hb1
  obtain ⟨o1, hb3, o3, o4⟩ := takeP_bs1 ht3 hb2
  obtain ⟨i1, hb4, i3, i4⟩ := takeP_bs1 ht4 hb3
  have hN := numB_small i1 i3 (by omega)
  obtain ⟨n0, hn0⟩ : ∃ n0 : Nat, numB b4 = n0 := ⟨(numB b4).toNat, by omega⟩
  obtain ⟨h, hh⟩ : ∃ h, numB b2 = h := ⟨_, rfl⟩
  obtain ⟨gg, hg⟩ : ∃ gg, numB b3 = gg := ⟨_, rfl⟩
  have hrep : repP xs = ((0, h, gg, (vals n0 r4 f4').1), (vals n0 r4 f4').2) := by
    unfold repP
    rw [ht1]
    dsimp only
    rw [if_pos ⟨hn, rfl⟩, ht2]
    dsimp only
    rw [ht3]
    dsimp only
    rw [ht4, hn0, hh, hg]
    rfl
  rw [hn0] at hN
  have hN1 : n0 < 65536 := by have h2 : ((n0 : Nat) : Int) < 65536 := hN.2; omega
  have HREP0 := Lib.hid hrep
  have HT1 := Lib.hid ht1
  have HEE := Lib.hid hn
  have HT2 := Lib.hid ht2
  have HT3 := Lib.hid ht3
  have HT4 := Lib.hid ht4
  have HH := Lib.hid hh
  have HG := Lib.hid hg
  have HN := Lib.hid hn0
  clear hrep ht1 hn ht2 ht3 ht4 hh hg hn0 hN q1 q3 p1 p3 o1 o3 i1 i3
  go_enter Try.func50, Try.ntmps50
  go_wp2_with (first
    | (go_at_call 32; go_loud (have _t := HRD4.out; refine (number_k 2 w1.heap.size g r3 f3' 2 _ rfl (HRD4.out.put (p := ⟨w2.heap.size, 2, none⟩) hBr (.int .u64 gg)) (by omega) hb3).mono ?_; rw [HT4.out]; rw [HN.out]; rintro en w5 ⟨rfl, hr5, hf5⟩; have hp5 := hf5.blk (blk_put HP4.out 2 (.int .u64 gg) rfl) hrg; have HP5 := Lib.hid hp5; have HZ5 := Lib.hid (hf5.blk (blk_far HZ4.out (p := ⟨w2.heap.size, 2, none⟩) (by simp; omega) (.int .u64 gg)) hgz); have HF5 := Lib.hid hf5; have HRD5 := Lib.hid hr5; clear hr5 hf5 hp5 HRD4))
    | (go_at_call 32; go_loud (have _t := HRD3.out; refine (number_k 8 w1.heap.size g r2 f2' 8 _ rfl (HRD3.out.put (p := ⟨w2.heap.size, 1, none⟩) hBr (.int .u64 h)) (by omega) hb2).mono ?_; rw [HT3.out]; rw [HG.out]; rintro en w4 ⟨rfl, hr4, hf4⟩; have hp4 := hf4.blk (blk_put HP3.out 1 (.int .u64 h) rfl) hrg; have HP4 := Lib.hid hp4; have s0 := blk_cell hp4 0; have s1 := blk_cell hp4 1; have s2 := blk_cell hp4 2; have s3 := blk_cell hp4 3; have f0 := blk_frozen hp4 0; have f1 := blk_frozen hp4 1; have f2 := blk_frozen hp4 2; have f3 := blk_frozen hp4 3; have HZ4 := Lib.hid (hf4.blk (blk_far HZ3.out (p := ⟨w2.heap.size, 1, none⟩) (by simp; omega) (.int .u64 h)) hgz); have HF4 := Lib.hid hf4; have HRD4 := Lib.hid hr4; clear hr4 hf4 hp4 HRD3))
    | (go_at_call 32; go_loud (have _t := HRD2.out; refine (number_k 8 w1.heap.size g ys 0 8 _ rfl (HRD2.out.below (below_alloc (Below.refl _ _) _)) (by omega) hb1).mono ?_; rw [HT2.out]; rw [HH.out]; rintro en w3 ⟨rfl, hr3, hf3⟩; have hrg : w2.heap.size ≠ g := (by omega); have hp3 := hf3.blk (blk_new w2 _) hrg; have HP3 := Lib.hid hp3; have s0 := blk_cell hp3 0; have s1 := blk_cell hp3 1; have s2 := blk_cell hp3 2; have s3 := blk_cell hp3 3; have f0 := blk_frozen hp3 0; have f1 := blk_frozen hp3 1; have f2 := blk_frozen hp3 2; have f3 := blk_frozen hp3 3; have HZ3 := Lib.hid (hf3.blk (blk_alloc HZ2.out _) hgz); have HF3 := Lib.hid hf3; have HRD3 := Lib.hid hr3; have hBr : ∀ k, k < w1.heap.size → ¬ k = w2.heap.size := (by omega); clear hr3 hf3 hp3 HRD2))
    | (go_at_call 32; go_loud (have _t := HRD1.out; refine (number_k 1 w1.heap.size g xs 0 1 _ rfl HRD1.out (by omega) hb).mono ?_; rw [HT1.out]; rw [HEE.out]; rintro en w2 ⟨rfl, hr2, hf2⟩; have HRD2 := Lib.hid hr2; have HF2 := Lib.hid hf2; have hgw1 : g < w1.heap.size := hr2.lt.1; have hw12 : w1.heap.size ≤ w2.heap.size := hf2.size; have HZ2 := Lib.hid (hf2.blk HZ1.out hgz); have hzw : w.heap.size < w1.heap.size := blk_lt HZ1.out; clear hr2 hf2 HRD1))
    | (go_at_call 73; go_loud (refine (open_calls _ xs _ (hv.below (below_alloc (Below.refl _ _) _)) (by omega)).mono ?_; rintro en w1 ⟨g, rfl, hr1, hg1, hB1⟩; have HB1 := Lib.hid (below_step (below_alloc (Below.refl w.heap.size w) _) hB1); have HRD1 := Lib.hid hr1; have HZ1 := Lib.hid (blk_below (blk_new w _) hB1); have hgz : w.heap.size ≠ g := (by have := hg1; simp at this; omega); clear hr1 hB1))
    | (go_at_call 36; go_loud (refine (failed_calls w1.heap.size g ys 0 _ (HRD2.out.below (below_alloc (Below.refl _ _) _))).mono ?_; rintro en wx ⟨rfl, rfl⟩)))
  have hB5 : Below w.heap.size w w5 := by
    have h0 : w.heap.size ≤ g := by have := hg1; simp at this; omega
    exact fr_below (Below.setCell (p := ⟨w2.heap.size, 2, none⟩) (fr_below (Below.setCell (p := ⟨w2.heap.size, 1, none⟩) (fr_below (below_alloc (fr_below HB1.out HF2.out (fun k hk => by omega) (Nat.le_refl _)) _) HF3.out (fun k hk => by omega) (Nat.le_refl _)) (show w.heap.size ≤ w2.heap.size by omega) _) HF4.out (fun k hk => by omega) (Nat.le_refl _)) (show w.heap.size ≤ w2.heap.size by omega) _) HF5.out (fun k hk => by omega) (Nat.le_refl _)
  have HB5 := Lib.hid hB5
  clear hB5
  go_loopw [6] (fun s wr => ∃ (m : Nat) (acc : List S54) (A : Option Addr) (c : Nat) (xs' : List Int) (f' : Int), s = .int .u64 m ∧ Rd wr w1.heap.size g xs' f' ∧ Bs xs' ∧ xs'.length ≤ 1000000 ∧ vals n0 r4 f4' = (acc ++ (vals m xs' f').1, (vals m xs' f').2) ∧ RP wr w2.heap.size 0 h gg (.slice A acc.length c) ∧ RP wr w.heap.size 0 0 0 (.slice none 0 0) ∧ Kd.R k54 54 wr (w2.heap.size + 1) (fun k => w2.heap.size + 1 ≤ k) (.slice A acc.length c) acc ∧ Below w.heap.size w wr ∧ acc.length + m ≤ 65535 ∧ w2.heap.size < wr.heap.size) (fun s _ => (intOf s).toNat)
  case atStart => exact ⟨n0, [], none, 0, r4, f4', rfl, HRD5.out, hb4, by omega, rfl, HP5.out, HZ5.out, Kd.R_nil _ _ _ _ _, HB5.out, by simp; omega, blk_lt HP5.out⟩
  case round =>
    obtain ⟨m, acc, A, c, xs', f', rfl, hr, hbx, hlx, hvals, hp, hz, hR0, hBx, hml, hlr⟩ := hrel
    have HRD := Lib.hid hr
    have HVL := Lib.hid hvals
    have HP := Lib.hid hp
    have HZ := Lib.hid hz
    have HR0 := Lib.hid hR0
    have HB := Lib.hid hBx
    have hal : acc.length ≤ 100000 := by omega
    have hal2 : acc.length + 1 ≤ 200000 := by omega
    clear hr hvals hp hz hR0 hBx
    by_cases hm : m = 0
    · subst hm
      have HREP := Lib.hid (show repP xs = ((0, h, gg, acc), xs', f') by rw [HREP0.out, HVL.out]; simp [vals])
      go_upto_region 10 with (fail)
      have HRV := Lib.hid (show acc.length ≤ c ∧ Kd.C k54 wr A acc.length acc from ⟨(Kd.R_reads' HR0.out).2.1, (Kd.R_reads' HR0.out).2.2⟩)
      have HPP := Lib.hid (show RP wr w2.heap.size 0 h gg (.slice A acc.length c) from HP.out)
      have HZZ := Lib.hid (HZ.out)
      have HBB := Lib.hid (HB.out)
      have HRR := Lib.hid (HRD.out)
      have z0 := blk_cell HZZ.out 0
      have z1 := blk_cell HZZ.out 1
      have z2 := blk_cell HZZ.out 2
      have z3 := blk_cell HZZ.out 3
      have y0 := blk_frozen HZZ.out 0
      have y1 := blk_frozen HZZ.out 1
      have y2 := blk_frozen HZZ.out 2
      have y3 := blk_frozen HZZ.out 3
      have s0 := blk_cell HPP.out 0
      have s1 := blk_cell HPP.out 1
      have s2 := blk_cell HPP.out 2
      have s3 := blk_cell HPP.out 3
      obtain ⟨E, hE⟩ : ∃ E, endP xs' f' = E := ⟨_, rfl⟩
      have HE := Lib.hid hE
      clear hE
      by_cases hE0 : E = 0
      · subst hE0
        cases hR : rightR 0 h gg acc
        · have HR := Lib.hid hR
          clear hR
          go_wp2_with (first
            | (go_at_call 37; go_loud (refine (end_calls _ _ _ _ _ HRR.out).mono ?_; rw [HE.out]; rintro en w8 ⟨rfl, rfl⟩))
            | (go_at_call 61; go_loud (refine (reply_Reply_Right.calls 200000 0 h gg A c acc false _ HRV.out.2 HRV.out.1 (by rw [rright_f 200000 0 h gg acc hal hal2, HR.out])).mono ?_; rintro en w9 ⟨rfl, hB9⟩; have HZ9 := Lib.hid (blk_below HZZ.out hB9); have HB9 := Lib.hid (below_step HBB.out hB9); have z0 := blk_cell HZ9.out 0; have z1 := blk_cell HZ9.out 1; have z2 := blk_cell HZ9.out 2; have z3 := blk_cell HZ9.out 3; have y0 := blk_frozen HZ9.out 0; have y1 := blk_frozen HZ9.out 1; have y2 := blk_frozen HZ9.out 2; have y3 := blk_frozen HZ9.out 3; clear hB9)))
          refine bodyPost_ret (results_ct rfl _ _ w.heap.size 82 #[.int .i64 0, .int .u64 0, .int .u64 0, .slice none 0 0] (0, 0) _ rfl (RP.set4 HZ9.out _ _ _ _) Try.underlying82 rfl (by kernel_rfl)) rfl ?_
          rw [HREP.out]; refine ⟨.inr (.inl ⟨HE.out, HR.out, rfl⟩), Fr.below (S := fun k => w.heap.size ≤ k) (Fr.then_ (Fr.of_below HB9.out (fun k hk => .inl hk)) (fr4 _ w.heap.size _ _ _ _) (fun k hk => .inl (by omega))) (fun k hk => hk) (Nat.le_refl _)⟩
        · have HR := Lib.hid hR
          clear hR
          go_wp2_with (first
            | (go_at_call 37; go_loud (refine (end_calls _ _ _ _ _ HRR.out).mono ?_; rw [HE.out]; rintro en w8 ⟨rfl, rfl⟩))
            | (go_at_call 61; go_loud (refine (reply_Reply_Right.calls 200000 0 h gg A c acc true _ HRV.out.2 HRV.out.1 (by rw [rright_f 200000 0 h gg acc hal hal2, HR.out])).mono ?_; rintro en w9 ⟨rfl, hB9⟩; have HZ9 := Lib.hid (blk_below HZZ.out hB9); have HB9 := Lib.hid (below_step HBB.out hB9); have HP9 := Lib.hid (blk_below HPP.out hB9); have HV9 := Lib.hid (RV.below (v := .slice A acc.length c) ⟨A, c, rfl, HRV.out.1, HRV.out.2⟩ hB9); have z0 := blk_cell HZ9.out 0; have z1 := blk_cell HZ9.out 1; have z2 := blk_cell HZ9.out 2; have z3 := blk_cell HZ9.out 3; have y0 := blk_frozen HZ9.out 0; have y1 := blk_frozen HZ9.out 1; have y2 := blk_frozen HZ9.out 2; have y3 := blk_frozen HZ9.out 3; have s0 := blk_cell HP9.out 0; have s1 := blk_cell HP9.out 1; have s2 := blk_cell HP9.out 2; have s3 := blk_cell HP9.out 3; clear hB9)))
          refine bodyPost_ret (results_ct rfl _ _ w.heap.size 82 #[.int .i64 0, .int .u64 h, .int .u64 gg, .slice A acc.length c] (0, 0) _ rfl (RP.set4 HZ9.out _ _ _ _) Try.underlying82 rfl (by kernel_rfl)) rfl ?_
          rw [HREP.out]; refine ⟨.inr (.inr ⟨HE.out, HR.out, _, rfl, HV9.out.fr (fr4 _ w.heap.size _ _ _ _) (fun k hk e => by have := HR0.out.1 k hk; omega)⟩), Fr.below (S := fun k => w.heap.size ≤ k) (Fr.then_ (Fr.of_below HB9.out (fun k hk => .inl hk)) (fr4 _ w.heap.size _ _ _ _) (fun k hk => .inl (by omega))) (fun k hk => hk) (Nat.le_refl _)⟩
      · have b1 : (E == 0) = false := by simpa using hE0
        have b2 : (E != 0) = true := by simpa using hE0
        go_wp2_with (first
          | (go_at_call 37; go_loud (refine (end_calls _ _ _ _ _ HRR.out).mono ?_; rw [HE.out]; rintro en w8 ⟨rfl, rfl⟩)))
        refine bodyPost_ret (results_ct rfl _ _ w.heap.size 82 #[.int .i64 0, .int .u64 0, .int .u64 0, .slice none 0 0] (0, 0) _ rfl (RP.set4 HZZ.out _ _ _ _) Try.underlying82 rfl (by kernel_rfl)) rfl ?_
        rw [HREP.out]; refine ⟨.inl ⟨by show endP xs' f' ≠ 0; rw [HE.out]; exact hE0, by show _ = Ending.returned (.tuple #[_, .int .i64 (endP xs' f')]); rw [HE.out]; rfl⟩, Fr.below (S := fun k => w.heap.size ≤ k) (Fr.then_ (Fr.of_below HBB.out (fun k hk => .inl hk)) (fr4 _ w.heap.size _ _ _ _) (fun k hk => .inl (by omega))) (fun k hk => hk) (Nat.le_refl _)⟩
    · have hm0 : (0 : Int) < (m : Int) := by omega
      by_cases hf : f' = 0
      · subst hf
        obtain ⟨m, rfl⟩ : ∃ m', m = m' + 1 := ⟨m - 1, by omega⟩
        obtain ⟨hvb, hvl⟩ := valueP_bs xs' 0 hbx
        have HVG := Lib.hid (vals_go m xs')
        clear hm
        have hW := blk_drew HP.out
        have p3 := blk_cell hW 3
        have HWP := Lib.hid hW
        have hwd : w1.heap.size ≤ wr.drew.heap.size := (show w1.heap.size ≤ wr.heap.size by omega)
        clear hW
        go_wp2_with (go_at_call 36; go_loud (refine (failed_calls w1.heap.size g xs' 0 _ HRD.out).mono ?_; rintro en wx ⟨rfl, rfl⟩))
        refine start_ (n := 8) (S := fun w' => w'.cell? ⟨w2.heap.size, 3, none⟩ = some (.slice A acc.length c)) (ds := [7]) #[false, false, false, false, false, false, false, false] (by kernel_rfl) rfl rfl (p3) (fun hHeld => ?_)
        refine pure_ (i := 0) (N := some 41) (v := ?_) (a' := ?_) #[true, false, false, false, false, false, false, false] rfl rfl (by kernel_rfl) (fun _ _ _ h => h) (Or.inl ⟨by rfl, ?_⟩) ?_ ?_
        rotate_left
        · intro w'
          go_simp
          with_reducible rfl
        rotate_left
        · simp only [Act.put, List.setIfInBounds_toArray, List.set_cons_zero, List.set_cons_succ, i64_w, i32_w]
          rfl
        refine pure_ (i := 2) (N := some 43) (v := ?_) (a' := ?_) #[true, false, true, false, false, false, false, false] rfl rfl (by kernel_rfl) (fun _ _ _ h => h) (Or.inl ⟨by rfl, ?_⟩) ?_ ?_
        rotate_left
        · intro w'
          go_simp
          with_reducible rfl
        rotate_left
        · simp only [Act.put, List.setIfInBounds_toArray, List.set_cons_zero, List.set_cons_succ, i64_w, i32_w]
          rfl
        refine take_ (i := 1) (N := some 42) (v := ?_) (a' := ?_) #[true, true, true, false, false, false, false, false] rfl rfl (by kernel_rfl) (fun _ _ _ h => h) (Or.inl ⟨by rfl, ?_⟩) hHeld ?_ ?_
        rotate_left
        · intro w' s0
          go_simp
          with_reducible rfl
        rotate_left
        · simp only [Act.put, List.setIfInBounds_toArray, List.set_cons_zero, List.set_cons_succ, i64_w, i32_w]
          rfl
        refine one_ (i := 3) (N := some 44) #[true, true, true, true, false, false, false, false] rfl rfl (by kernel_rfl) (by decide) (fun K hK => ?_)
        refine goes_ Try.func34 (by kernel_rfl) rfl #[.pointer (some ⟨g, 0, none⟩)] (by rfl) rfl rfl (by simp only [List.map_toArray, List.map_cons, List.map_nil]; rfl) ?_
        with_reducible refine (value_reads w1.heap.size g xs' 0 _ (HRD.out.below (below_drew1 (Below.refl _ _))) hwd (by omega) hbx).mono ?_
        rintro e6 w6 ⟨rfl, hr6, hf6⟩
        refine ⟨_, rfl, ?_⟩
        have hp6 := hf6.blk HWP.out hrg
        have hR6 := Kd.R_step (w1 := w6) (Kd.R_drew HR0.out) (fun k hk hlt => hf6.block k hlt (by omega))
        have hz6 := hf6.blk (blk_drew HZ.out) hgz
        refine hK.out _ _ ((blk_cell hp6 3)) (fun hHeld => ?_)
        clear hK K
        refine norm_ (a' := ?_) ?_ ?_
        rotate_left
        · show Act.put _ (some 44) _ = _
          simp only [Act.put, List.setIfInBounds_toArray, List.set_cons_zero, List.set_cons_succ, i64_w, i32_w]
          rfl
        refine one_ (i := 4) (N := some 45) #[true, true, true, true, true, false, false, false] rfl rfl (by kernel_rfl) (by decide) (fun K hK => ?_)
        refine value_ (w1 := ?_) (v := ?_) (by rfl) rfl ?_ ?_
        rotate_left 2
        · go_simp
          constructor
          · rfl
          · rfl
        refine hK.out _ _ ((blk_cell (blk_alloc hp6 _) 3)) (fun hHeld => ?_)
        clear hK K
        refine norm_ (a' := ?_) ?_ ?_
        rotate_left
        · show Act.put _ (some 45) _ = _
          simp only [Act.put, List.setIfInBounds_toArray, List.set_cons_zero, List.set_cons_succ, i64_w, i32_w]
          rfl
        refine one_ (i := 5) (N := some 46) #[true, true, true, true, true, true, false, false] rfl rfl (by kernel_rfl) (by decide) (fun K hK => ?_)
        refine Kd.R_append_step k54 (w0 := w6) (w2.heap.size + 1) (by rfl) (.tmp 42) (.tmp 45) 75 54 (.agg #[.int .u8 0, .int .i64 0, .string (⟨#[]⟩ : ByteArray)]) 32 rfl Try.underlying75 infoS rfl (by decide) (by decide) (.slice A acc.length c) acc (valS xs' 0) [.int .u8 (valueP xs' 0).1.1, .int .i64 (valueP xs' 0).1.2.1, .string (valueP xs' 0).1.2.2] (fun k => w2.heap.size + 1 ≤ k) (fun _ => False) rfl rfl (k54_mkM _ _ _ (valS xs' 0)) (fun _ h => h.elim) (fun k hk => by have := blk_lt hp6; omega) hR6 (Below.refl _ _) (by have := blk_lt hp6; omega) (by omega) ?_
        intro v7 w7 hR7 hB7 hg7 _
        obtain ⟨A7, c7, rfl⟩ := Kd.R_slice hR7
        have hob : ∀ k, (Value.slice A acc.length c).ownBlock = some k → w2.heap.size + 1 ≤ k := hR6.1
        have hp7 := blk_grown hp6 hg7 (fun e => by have := hob _ e.symm; omega)
        have hz7 := blk_grown hz6 hg7 (fun e => by have := hob _ e.symm; omega)
        have hr7 : Rd w7 w1.heap.size g (valueP xs' 0).2.1 (valueP xs' 0).2.2 := Rd.fr hr6 (S := fun k => some k = (Value.slice A acc.length c).ownBlock) ⟨hg7.os, hg7.tape, hg7.output, hg7.size, fun i hi hn => hg7.block i hi hn⟩ (fun k hk e => by have := hob _ e.symm; omega)
        have hb7 : Below w.heap.size w w7 := fr_below (S := fun k => some k = (Value.slice A acc.length c).ownBlock) (fr_below (below_drew1 HB.out) hf6 (fun k hk => by have := hg1; simp at this; omega) (Nat.le_refl _)) ⟨hg7.os, hg7.tape, hg7.output, hg7.size, fun i hi hn => hg7.block i hi hn⟩ (fun k hk => by have := hob _ hk.symm; omega) (Nat.le_refl _)
        have hp7c := blk_cell hp7 3
        have hp7f := blk_frozen hp7 3
        refine hK.out _ _ ((blk_cell hp7 3)) (fun hHeld => ?_)
        clear hK K
        refine norm_ (a' := ?_) ?_ ?_
        rotate_left
        · show Act.put _ (some 46) _ = _
          simp only [Act.put, List.setIfInBounds_toArray, List.set_cons_zero, List.set_cons_succ, i64_w, i32_w]
          rfl
        refine pure_ (i := 6) (N := some 47) (v := ?_) (a' := ?_) #[true, true, true, true, true, true, true, false] rfl rfl (by kernel_rfl) (fun _ _ _ h => h) (Or.inl ⟨by rfl, ?_⟩) ?_ ?_
        rotate_left
        · intro w'
          go_simp
          with_reducible rfl
        rotate_left
        · simp only [Act.put, List.setIfInBounds_toArray, List.set_cons_zero, List.set_cons_succ, i64_w, i32_w]
          rfl
        refine last_ (i := 7) (N := none) #[true, true, true, true, true, true, true, true] rfl rfl (by kernel_rfl) (by decide) (fun K hK => ?_)
        refine skip_ (w1 := ?_) (by rfl) rfl ?_ ?_
        rotate_left
        · go_simp
          rfl
        refine hK.out _ _ ?_
        clear hK K
        refine done_ (by kernel_rfl) ?_

        have HP7 := Lib.hid hp7
        have HZ7 := Lib.hid hz7
        have HRD7 := Lib.hid hr7
        have HR7 := Lib.hid hR7
        have HB7 := Lib.hid hb7
        clear hp6 hR6 hz6 hp7 hz7 hr7 hR7 hb7 hp7c hp7f hr6 hf6 hB7 hg7 hob
        go_wp2
        go_roundw
        case rel =>
          refine ⟨m, acc ++ [valS xs' 0], A7, c7, _, _, by first | rfl | (congr 1; omega) | (congr 1), HRD7.out.put (p := ⟨w2.heap.size, 3, none⟩) hBr _, hvb, by omega, ?_, ?_, blk_far HZ7.out (by simp; omega) _, ?_, ?_, by simp; omega, ?_⟩
          · rw [HVL.out, HVG.out]; simp
          · rw [show (acc ++ [valS xs' 0]).length = acc.length + 1 by simp]
            exact blk_put HP7.out 3 _ rfl
          · have h5 := Kd.R_far (p := ⟨w2.heap.size, 3, none⟩) HR7.out (fun k hk => by show k ≠ w2.heap.size; omega) (.slice A7 (acc.length + 1) c7)
            exact h5
          · exact Below.setCell (p := ⟨w2.heap.size, 3, none⟩) HB7.out (show w.heap.size ≤ w2.heap.size by omega) _
          · have := blk_lt HP7.out; simp [World.setCell]; omega
        case measure => simp [intOf]
      · have bf : (f' == 0) = false := by simpa using hf
        have HREP := Lib.hid (show repP xs = ((0, h, gg, acc), xs', f') by rw [HREP0.out, HVL.out, vals_bad _ _ _ hf]; simp)
        clear hf
        go_upto_region 10 with (go_at_call 36; go_loud (refine (failed_calls w1.heap.size g xs' f' _ HRD.out).mono ?_; rintro en wx ⟨rfl, rfl⟩))
        have HRV := Lib.hid (show acc.length ≤ c ∧ Kd.C k54 wr A acc.length acc from ⟨(Kd.R_reads' HR0.out).2.1, (Kd.R_reads' HR0.out).2.2⟩)
        have HPP := Lib.hid (show RP wr w2.heap.size 0 h gg (.slice A acc.length c) from HP.out)
        have HZZ := Lib.hid (HZ.out)
        have HBB := Lib.hid (HB.out)
        have HRR := Lib.hid (HRD.out)
        have z0 := blk_cell HZZ.out 0
        have z1 := blk_cell HZZ.out 1
        have z2 := blk_cell HZZ.out 2
        have z3 := blk_cell HZZ.out 3
        have y0 := blk_frozen HZZ.out 0
        have y1 := blk_frozen HZZ.out 1
        have y2 := blk_frozen HZZ.out 2
        have y3 := blk_frozen HZZ.out 3
        have s0 := blk_cell HPP.out 0
        have s1 := blk_cell HPP.out 1
        have s2 := blk_cell HPP.out 2
        have s3 := blk_cell HPP.out 3
        obtain ⟨E, hE⟩ : ∃ E, endP xs' f' = E := ⟨_, rfl⟩
        have HE := Lib.hid hE
        clear hE
        by_cases hE0 : E = 0
        · subst hE0
          cases hR : rightR 0 h gg acc
          · have HR := Lib.hid hR
            clear hR
            go_wp2_with (first
              | (go_at_call 37; go_loud (refine (end_calls _ _ _ _ _ HRR.out).mono ?_; rw [HE.out]; rintro en w8 ⟨rfl, rfl⟩))
              | (go_at_call 61; go_loud (refine (reply_Reply_Right.calls 200000 0 h gg A c acc false _ HRV.out.2 HRV.out.1 (by rw [rright_f 200000 0 h gg acc hal hal2, HR.out])).mono ?_; rintro en w9 ⟨rfl, hB9⟩; have HZ9 := Lib.hid (blk_below HZZ.out hB9); have HB9 := Lib.hid (below_step HBB.out hB9); have z0 := blk_cell HZ9.out 0; have z1 := blk_cell HZ9.out 1; have z2 := blk_cell HZ9.out 2; have z3 := blk_cell HZ9.out 3; have y0 := blk_frozen HZ9.out 0; have y1 := blk_frozen HZ9.out 1; have y2 := blk_frozen HZ9.out 2; have y3 := blk_frozen HZ9.out 3; clear hB9)))
            refine bodyPost_ret (results_ct rfl _ _ w.heap.size 82 #[.int .i64 0, .int .u64 0, .int .u64 0, .slice none 0 0] (0, 0) _ rfl (RP.set4 HZ9.out _ _ _ _) Try.underlying82 rfl (by kernel_rfl)) rfl ?_
            rw [HREP.out]; refine ⟨.inr (.inl ⟨HE.out, HR.out, rfl⟩), Fr.below (S := fun k => w.heap.size ≤ k) (Fr.then_ (Fr.of_below HB9.out (fun k hk => .inl hk)) (fr4 _ w.heap.size _ _ _ _) (fun k hk => .inl (by omega))) (fun k hk => hk) (Nat.le_refl _)⟩
          · have HR := Lib.hid hR
            clear hR
            go_wp2_with (first
              | (go_at_call 37; go_loud (refine (end_calls _ _ _ _ _ HRR.out).mono ?_; rw [HE.out]; rintro en w8 ⟨rfl, rfl⟩))
              | (go_at_call 61; go_loud (refine (reply_Reply_Right.calls 200000 0 h gg A c acc true _ HRV.out.2 HRV.out.1 (by rw [rright_f 200000 0 h gg acc hal hal2, HR.out])).mono ?_; rintro en w9 ⟨rfl, hB9⟩; have HZ9 := Lib.hid (blk_below HZZ.out hB9); have HB9 := Lib.hid (below_step HBB.out hB9); have HP9 := Lib.hid (blk_below HPP.out hB9); have HV9 := Lib.hid (RV.below (v := .slice A acc.length c) ⟨A, c, rfl, HRV.out.1, HRV.out.2⟩ hB9); have z0 := blk_cell HZ9.out 0; have z1 := blk_cell HZ9.out 1; have z2 := blk_cell HZ9.out 2; have z3 := blk_cell HZ9.out 3; have y0 := blk_frozen HZ9.out 0; have y1 := blk_frozen HZ9.out 1; have y2 := blk_frozen HZ9.out 2; have y3 := blk_frozen HZ9.out 3; have s0 := blk_cell HP9.out 0; have s1 := blk_cell HP9.out 1; have s2 := blk_cell HP9.out 2; have s3 := blk_cell HP9.out 3; clear hB9)))
            refine bodyPost_ret (results_ct rfl _ _ w.heap.size 82 #[.int .i64 0, .int .u64 h, .int .u64 gg, .slice A acc.length c] (0, 0) _ rfl (RP.set4 HZ9.out _ _ _ _) Try.underlying82 rfl (by kernel_rfl)) rfl ?_
            rw [HREP.out]; refine ⟨.inr (.inr ⟨HE.out, HR.out, _, rfl, HV9.out.fr (fr4 _ w.heap.size _ _ _ _) (fun k hk e => by have := HR0.out.1 k hk; omega)⟩), Fr.below (S := fun k => w.heap.size ≤ k) (Fr.then_ (Fr.of_below HB9.out (fun k hk => .inl hk)) (fr4 _ w.heap.size _ _ _ _) (fun k hk => .inl (by omega))) (fun k hk => hk) (Nat.le_refl _)⟩
        · have b1 : (E == 0) = false := by simpa using hE0
          have b2 : (E != 0) = true := by simpa using hE0
          go_wp2_with (first
            | (go_at_call 37; go_loud (refine (end_calls _ _ _ _ _ HRR.out).mono ?_; rw [HE.out]; rintro en w8 ⟨rfl, rfl⟩)))
          refine bodyPost_ret (results_ct rfl _ _ w.heap.size 82 #[.int .i64 0, .int .u64 0, .int .u64 0, .slice none 0 0] (0, 0) _ rfl (RP.set4 HZZ.out _ _ _ _) Try.underlying82 rfl (by kernel_rfl)) rfl ?_
          rw [HREP.out]; refine ⟨.inl ⟨by show endP xs' f' ≠ 0; rw [HE.out]; exact hE0, by show _ = Ending.returned (.tuple #[_, .int .i64 (endP xs' f')]); rw [HE.out]; rfl⟩, Fr.below (S := fun k => w.heap.size ≤ k) (Fr.then_ (Fr.of_below HBB.out (fun k hk => .inl hk)) (fr4 _ w.heap.size _ _ _ _) (fun k hk => .inl (by omega))) (fun k hk => hk) (Nat.le_refl _)⟩
end Go.Proofs.Ytaoacibahdbdkaa.Rep
/-! reply: Parse in one contract. -/
namespace Go.Proofs.Ytaoacibahdbdkaa.Rep
open Go.RowKit Go Go.Proofs.Ytaoacibahdbdkaa.QReplySame Go.Proofs.YtaoacibahdbdkaaW.PrintWords Go.Proofs.Ytaoacibahdbdkaa.Fra Go.Proofs.Ytaoacibahdbdkaa.Pk Go.Proofs.Ytaoacibahdbdkaa.Bts Go.Proofs.Ytaoacibahdbdkaa.Pr
theorem parse_calls (v : Value) (xs : List Int) (w : World) (hv : Byt w v xs) (hl : xs.length ≤ 1000000) (hb : Bs xs) :
    Calls Try.prog 50 #[v] w (ParsePost (repP xs) w) := by
  obtain ⟨bs, ys, f1, ht⟩ : ∃ bs ys f1, takeP xs 0 1 = (bs, ys, f1) := ⟨_, _, _, rfl⟩
  by_cases h : numB bs = 0 ∧ f1 = 0
  · obtain ⟨h1, rfl⟩ := h
    exact parse_full v xs w hv hl hb bs ys ht h1 _ _ _ rfl _ _ _ rfl _ _ _ rfl
  · exact parse_short v xs w hv hl hb bs ys f1 ht h
end Go.Proofs.Ytaoacibahdbdkaa.Rep
