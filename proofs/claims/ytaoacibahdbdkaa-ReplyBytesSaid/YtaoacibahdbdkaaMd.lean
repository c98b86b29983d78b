/- Several texts of this claim, laid together: RepR, RepT, RepI. -/
import Derived.Test.YtaoacibahdbdkaaMc
import Derived.Test.YtaoacibahdbdkaaMa
/-! reply: the reference's Read, as a contract. Printed by wip/tools/gen_read.py. -/
namespace Go.Proofs.Ytaoacibahdbdkaa.Rep
open Go.RowKit Go Go.Proofs.Ytaoacibahdbdkaa.QReplySame Go.Proofs.YtaoacibahdbdkaaW.PrintWords Go.Proofs.YtaoacibahdbdkaaW.PrintLast Go.Proofs.YtaoacibahdbdkaaW.PrintMore Go.Proofs.Ytaoacibahdbdkaa.Fra Go.Proofs.Ytaoacibahdbdkaa.Pk Go.Proofs.Ytaoacibahdbdkaa.Bts Go.Proofs.Ytaoacibahdbdkaa.Pr Go.Proofs.Ytaoacibahdbdkaa.Rf
/-- A reply's block, as the document has it. -/
abbrev RQ (w : World) (b : Nat) (e h g : Int) (v : Value) : Prop := w.heap[b]? = some (.cells #[.int .u8 e, .int .u64 h, .int .u64 g, v] 86 (0, 0))
theorem RQ.set4 {w : World} {b : Nat} {e h g : Int} {v : Value} (H : RQ w b e h g v) (e' h' g' : Int) (v' : Value) : RQ ((((w.setCell ⟨b, 0, none⟩ (.int .u8 e')).setCell ⟨b, 1, none⟩ (.int .u64 h')).setCell ⟨b, 2, none⟩ (.int .u64 g')).setCell ⟨b, 3, none⟩ v') b e' h' g' v' :=
  blk_put (blk_put (blk_put (blk_put H 0 _ rfl) 1 _ rfl) 2 _ rfl) 3 _ rfl
/-- What Read tells. -/
def ReadPost (r : (Int × Int × Int × List S54) × List Int × Int) (w : World) (en : Ending) (w' : World) : Prop :=
  ((endP r.2.1 r.2.2 ≠ 0 ∧ en = .returned (.tuple #[.agg #[.int .u8 0, .int .u64 0, .int .u64 0, .slice none 0 0], .int .i64 (endP r.2.1 r.2.2)])) ∨
   (endP r.2.1 r.2.2 = 0 ∧ ∃ v, en = .returned (.tuple #[.agg #[.int .u8 r.1.1, .int .u64 r.1.2.1, .int .u64 r.1.2.2.1, v], .int .i64 0]) ∧ RV w' v r.1.2.2.2)) ∧ Below w.heap.size w w'
theorem handle_calls (B g : Nat) (xs : List Int) (f : Int) (w : World) (h : Rx w B g xs f) (hBw : B ≤ w.heap.size) (hl : xs.length ≤ 100000) (hb : Bs xs) (b2 r2 : List Int) (f2 : Int) (ht2 : takeP xs f 8 = (b2, r2, f2)) (b3 r3 : List Int) (f3 : Int) (ht3 : takeP r2 f2 8 = (b3, r3, f3)) :
    Calls Try.prog 86 #[.pointer (some ⟨g, 0, none⟩)] w fun en w' => en = .returned (.agg #[.int .u64 (numB b2), .int .u64 (numB b3)]) ∧ Rx w' B g r3 f3 ∧ Fr (· = g) w w' := by
  obtain ⟨p1, hb2, p3, p4⟩ := takeP_bs1 ht2 hb
  have HRX := Lib.hid h
  have HT2 := Lib.hid ht2
  have HT3 := Lib.hid ht3
  have hgw : w.heap.size ≠ g := by have := h.lt; omega
  have hvB : ∀ k, k < B → ¬ k = w.heap.size := by omega
  clear h ht2 ht3
  go_enter Try.func86, Try.ntmps86
  go_wp2_with (first
    | (go_at_call 85; go_loud (have _t := HR1.out; refine (Rf.number_k 8 B g r2 f2 8 _ rfl HR1.out (by omega) hb2).mono ?_; rw [HT3.out]; rintro en w2 ⟨rfl, hr2, hf2⟩; have hv := hf2.blk HV1.out hgw; have HV2 := Lib.hid hv; have c0 := blk_cell hv 0; have c1 := blk_cell hv 1; have y0 := blk_frozen hv 0; have y1 := blk_frozen hv 1; have HR2 := Lib.hid hr2; have HF2 := Lib.hid hf2; clear hr2 hf2 hv))
    | (go_at_call 85; go_loud (refine (Rf.number_k 8 B g xs f 8 _ rfl (HRX.out.below (below_alloc (Below.refl _ _) _)) (by omega) hb).mono ?_; rw [HT2.out]; rintro en w1 ⟨rfl, hr1, hf1⟩; have HV1 := Lib.hid (hf1.blk (blk_new w _) hgw); have HR1 := Lib.hid hr1; have HF1 := Lib.hid hf1; clear hr1 hf1)))
  refine bodyPost_ret (results_cell_row rfl _ _ w.heap.size 84 #[.int .u64 (numB b2), .int .u64 (numB b3)] (0, 0) _ rfl (blk_put (blk_put HV2.out 0 _ rfl) 1 _ rfl) Try.underlying84 rfl (by kernel_rfl)) rfl ?_
  exact ⟨rfl, (HR2.out.put (p := ⟨w.heap.size, 0, none⟩) hvB _).put (p := ⟨w.heap.size, 1, none⟩) hvB _, ((((Fr.alloc (S := (· = g)) _).trans HF1.out).trans HF2.out).put (p := ⟨w.heap.size, 0, none⟩) (.inr (Nat.le_refl _)) _).put (p := ⟨w.heap.size, 1, none⟩) (.inr (Nat.le_refl _)) _⟩
set_option maxHeartbeats 4000000 in
set_option maxRecDepth 100000 in
theorem read_short (A0 : Option Addr) (c0 : Nat) (xs : List Int) (w : World) (hv : Byt w (.slice A0 xs.length c0) xs) (hlt : ∀ ad, A0 = some ad → 0 < xs.length → ad.block < w.heap.size) (hl : xs.length ≤ 100000) (hb : Bs xs) (bs ys : List Int) (f1 : Int) (ht1 : takeP xs 0 1 = (bs, ys, f1)) (hn : ¬ (numB bs = 0 ∧ f1 = 0)) :
    Calls Try.prog 51 #[.slice A0 xs.length c0] w (ReadPost (repP xs) w) := by
  obtain ⟨q1, q2, q3, q4⟩ := takeP_bs1 ht1 hb
  have hq := numB_small q1 q3 (by omega)
  have hrep : repP xs = ((numB bs, 0, 0, []), ys, f1) := by
    unfold repP
    rw [ht1]
    dsimp only
    rw [if_neg hn]
  rw [hrep]
  have HT1 := Lib.hid ht1
  obtain ⟨e, he⟩ : ∃ e, numB bs = e := ⟨_, rfl⟩
  rw [he] at hq hn ⊢
  have HEE := Lib.hid he
  obtain ⟨hq0, hq1⟩ := hq
  have hq1 : e < 256 := hq1
  clear ht1 hrep he q1 q2 q3 q4
  have hr1 : Rx ((w.alloc (.cells #[.int .u8 0, .int .u64 0, .int .u64 0, .slice none 0 0] 86)).alloc (.cells #[.slice A0 xs.length c0, .int .i64 0] 157)) (w.heap.size + 2) (w.heap.size + 1) xs 0 := ⟨A0, c0, blk_new1 w _ _, hv.below (below_alloc (below_alloc (Below.refl _ _) _) _), by omega, fun ad ha hp => by have := hlt ad ha hp; omega⟩
  have HRD1 := Lib.hid hr1
  have HZ1 := Lib.hid (show RQ ((w.alloc (.cells #[.int .u8 0, .int .u64 0, .int .u64 0, .slice none 0 0] 86)).alloc (.cells #[.slice A0 xs.length c0, .int .i64 0] 157)) w.heap.size 0 0 0 (.slice none 0 0) from blk_alloc (blk_new w _) _)
  have HB1 := Lib.hid (show Below w.heap.size w ((w.alloc (.cells #[.int .u8 0, .int .u64 0, .int .u64 0, .slice none 0 0] 86)).alloc (.cells #[.slice A0 xs.length c0, .int .i64 0] 157)) from below_alloc (below_alloc (Below.refl _ _) _) _)
  have hgz : w.heap.size ≠ w.heap.size + 1 := by omega
  have hs1 : ((w.alloc (.cells #[.int .u8 0, .int .u64 0, .int .u64 0, .slice none 0 0] 86)).alloc (.cells #[.slice A0 xs.length c0, .int .i64 0] 157)).heap.size = w.heap.size + 2 := by simp
  have HS1 := Lib.hid hs1
  clear hr1 hs1
  by_cases he0 : e = 0
  · have hf0 : f1 ≠ 0 := fun h => hn ⟨he0, h⟩
    subst he0
    have bf : (f1 == 0) = false := by simpa using hf0
    clear hn hf0
    go_enter Try.func51, Try.ntmps51
    go_upto_region 10 with ((go_at_call 85; go_loud (have _t := HRD1.out; refine (Rf.number_k 1 (w.heap.size + 2) (w.heap.size + 1) xs 0 1 _ rfl HRD1.out (by omega) hb).mono ?_; rw [HT1.out]; rw [HEE.out]; rintro en w2 ⟨rfl, hr2, hf2⟩; have HRD2 := Lib.hid hr2; have HF2 := Lib.hid hf2; have hw12 : w.heap.size + 2 ≤ w2.heap.size := (by have := hf2.size; rw [HS1.out] at this; exact this); have HZ2 := Lib.hid (hf2.blk HZ1.out hgz); have hm2 := (hr2.below (below_alloc (Below.refl _ _) (.cells #[.int .u8 0, .int .u64 0, .int .u64 0, .slice none 0 0] 86))).cell1; clear hr2 hf2 HRD1)))
    have HRV := Lib.hid (show ([] : List S54).length ≤ 0 ∧ Kd.C k54 (w2.alloc (.cells #[.int .u8 0, .int .u64 0, .int .u64 0, .slice none 0 0] 86)) none ([] : List S54).length [] from ⟨Nat.le_refl _, Kd.C_nil k54 _⟩)
    have HPP := Lib.hid (show RQ (w2.alloc (.cells #[.int .u8 0, .int .u64 0, .int .u64 0, .slice none 0 0] 86)) w2.heap.size 0 0 0 (.slice none 0 0) from blk_new w2 _)
    have HZZ := Lib.hid (blk_alloc HZ2.out (.cells #[.int .u8 0, .int .u64 0, .int .u64 0, .slice none 0 0] 86))
    have HBB := Lib.hid (below_alloc (fr_below HB1.out HF2.out (fun k hk => by omega) (Nat.le_refl _)) (.cells #[.int .u8 0, .int .u64 0, .int .u64 0, .slice none 0 0] 86))
    have HRR := Lib.hid (HRD2.out.below (below_alloc (Below.refl _ _) (.cells #[.int .u8 0, .int .u64 0, .int .u64 0, .slice none 0 0] 86)))
    have z0 := blk_cell HZZ.out 0
    have z1 := blk_cell HZZ.out 1
    have z2 := blk_cell HZZ.out 2
    have z3 := blk_cell HZZ.out 3
    have y0 := blk_frozen HZZ.out 0
    have y1 := blk_frozen HZZ.out 1
    have y2 := blk_frozen HZZ.out 2
    have y3 := blk_frozen HZZ.out 3
    have s0 := blk_cell HPP.out 0
    have s1 := blk_cell HPP.out 1
    have s2 := blk_cell HPP.out 2
    have s3 := blk_cell HPP.out 3
    have hm1 := HRR.out.cell1
    have hm3 := HRR.out.frozen1
    obtain ⟨Ax, cx, hm0⟩ := HRR.out.cell0
    by_cases hF0 : f1 = 0
    · have hflt := hF0
      subst hflt
      by_cases hX0 : ys = []
      · have hE : endP ys 0 = 0 := by unfold endP; rw [if_pos rfl, if_pos hX0]
        have HE := Lib.hid hE
        have hlx0 : ys.length = 0 := by rw [hX0]; rfl
        rw [hlx0] at hm0
        clear hE hX0 hlx0
        go_wp2
        refine bodyPost_ret (results_ct rfl _ _ w.heap.size 86 #[.int .u8 0, .int .u64 0, .int .u64 0, .slice none ([] : List S54).length 0] (0, 0) _ rfl (RQ.set4 HZZ.out _ _ _ _) Try.underlying86 rfl (by kernel_rfl)) rfl ?_
        refine ⟨.inr ⟨HE.out, _, rfl, RV.fr (v := .slice none ([] : List S54).length 0) ⟨none, 0, rfl, HRV.out.1, HRV.out.2⟩ (fr4 _ w.heap.size _ _ _ _) (fun k hk => by cases hk)⟩, Fr.below (S := fun k => w.heap.size ≤ k) (Fr.then_ (Fr.of_below HBB.out (fun k hk => .inl hk)) (fr4 _ w.heap.size _ _ _ _) (fun k hk => .inl (by omega))) (fun k hk => hk) (Nat.le_refl _)⟩
      · have hE : endP ys 0 = 12 := by unfold endP; rw [if_pos rfl, if_neg hX0]
        have HE := Lib.hid hE
        have hlx0 : 0 < ys.length := List.length_pos_iff.2 hX0
        have bx : decide ((0 : Int) < (ys.length : Int)) = true := by simp; omega
        clear hE hX0
        go_wp2
        go_region
        go_wp2
        refine bodyPost_ret (results_ct rfl _ _ w.heap.size 86 #[.int .u8 0, .int .u64 0, .int .u64 0, .slice none 0 0] (0, 0) _ rfl (blk_drew (RQ.set4 (blk_far HZZ.out (p := ⟨w.heap.size + 1, 1, none⟩) (by simp) _) _ _ _ _)) Try.underlying86 rfl (by kernel_rfl)) rfl ?_
        refine ⟨.inl ⟨by show endP ys 0 ≠ 0; rw [HE.out]; decide, by show _ = Ending.returned (.tuple #[_, .int .i64 (endP ys 0)]); rw [HE.out]; rfl⟩, below_drew1 (Fr.below (S := fun k => w.heap.size ≤ k) (Fr.then_ (Fr.of_below (Below.setCell (p := ⟨w.heap.size + 1, 1, none⟩) HBB.out (Nat.le_succ _) _) (fun k hk => .inl hk)) (fr4 _ w.heap.size _ _ _ _) (fun k hk => .inl (by omega))) (fun k hk => hk) (Nat.le_refl _))⟩
    · have hE : endP ys f1 = f1 := by unfold endP; rw [if_neg hF0]
      have HE := Lib.hid hE
      have b1 : (f1 == 0) = false := by simpa using hF0
      have b2 : (f1 != 0) = true := by simpa using hF0
      have HF0 := Lib.hid hF0
      clear hE hF0
      go_wp2
      go_region
      go_wp2
      refine bodyPost_ret (results_ct rfl _ _ w.heap.size 86 #[.int .u8 0, .int .u64 0, .int .u64 0, .slice none 0 0] (0, 0) _ rfl (blk_drew (RQ.set4 HZZ.out _ _ _ _)) Try.underlying86 rfl (by kernel_rfl)) rfl ?_
      refine ⟨.inl ⟨by show endP ys f1 ≠ 0; rw [HE.out]; exact HF0.out, by show _ = Ending.returned (.tuple #[_, .int .i64 (endP ys f1)]); rw [HE.out]; rfl⟩, below_drew1 (Fr.below (S := fun k => w.heap.size ≤ k) (Fr.then_ (Fr.of_below HBB.out (fun k hk => .inl hk)) (fr4 _ w.heap.size _ _ _ _) (fun k hk => .inl (by omega))) (fun k hk => hk) (Nat.le_refl _))⟩
  · have be : (e == 0) = false := by simpa using he0
    clear he0 hn
    go_enter Try.func51, Try.ntmps51
    go_upto_region 10 with ((go_at_call 85; go_loud (have _t := HRD1.out; refine (Rf.number_k 1 (w.heap.size + 2) (w.heap.size + 1) xs 0 1 _ rfl HRD1.out (by omega) hb).mono ?_; rw [HT1.out]; rw [HEE.out]; rintro en w2 ⟨rfl, hr2, hf2⟩; have HRD2 := Lib.hid hr2; have HF2 := Lib.hid hf2; have hw12 : w.heap.size + 2 ≤ w2.heap.size := (by have := hf2.size; rw [HS1.out] at this; exact this); have HZ2 := Lib.hid (hf2.blk HZ1.out hgz); have hm2 := (hr2.below (below_alloc (Below.refl _ _) (.cells #[.int .u8 e, .int .u64 0, .int .u64 0, .slice none 0 0] 86))).cell1; clear hr2 hf2 HRD1)))
    have HRV := Lib.hid (show ([] : List S54).length ≤ 0 ∧ Kd.C k54 (w2.alloc (.cells #[.int .u8 e, .int .u64 0, .int .u64 0, .slice none 0 0] 86)) none ([] : List S54).length [] from ⟨Nat.le_refl _, Kd.C_nil k54 _⟩)
    have HPP := Lib.hid (show RQ (w2.alloc (.cells #[.int .u8 e, .int .u64 0, .int .u64 0, .slice none 0 0] 86)) w2.heap.size e 0 0 (.slice none 0 0) from blk_new w2 _)
    have HZZ := Lib.hid (blk_alloc HZ2.out (.cells #[.int .u8 e, .int .u64 0, .int .u64 0, .slice none 0 0] 86))
    have HBB := Lib.hid (below_alloc (fr_below HB1.out HF2.out (fun k hk => by omega) (Nat.le_refl _)) (.cells #[.int .u8 e, .int .u64 0, .int .u64 0, .slice none 0 0] 86))
    have HRR := Lib.hid (HRD2.out.below (below_alloc (Below.refl _ _) (.cells #[.int .u8 e, .int .u64 0, .int .u64 0, .slice none 0 0] 86)))
    have z0 := blk_cell HZZ.out 0
    have z1 := blk_cell HZZ.out 1
    have z2 := blk_cell HZZ.out 2
    have z3 := blk_cell HZZ.out 3
    have y0 := blk_frozen HZZ.out 0
    have y1 := blk_frozen HZZ.out 1
    have y2 := blk_frozen HZZ.out 2
    have y3 := blk_frozen HZZ.out 3
    have s0 := blk_cell HPP.out 0
    have s1 := blk_cell HPP.out 1
    have s2 := blk_cell HPP.out 2
    have s3 := blk_cell HPP.out 3
    have hm1 := HRR.out.cell1
    have hm3 := HRR.out.frozen1
    obtain ⟨Ax, cx, hm0⟩ := HRR.out.cell0
    by_cases hF0 : f1 = 0
    · have hflt := hF0
      subst hflt
      by_cases hX0 : ys = []
      · have hE : endP ys 0 = 0 := by unfold endP; rw [if_pos rfl, if_pos hX0]
        have HE := Lib.hid hE
        have hlx0 : ys.length = 0 := by rw [hX0]; rfl
        rw [hlx0] at hm0
        clear hE hX0 hlx0
        go_wp2
        refine bodyPost_ret (results_ct rfl _ _ w.heap.size 86 #[.int .u8 e, .int .u64 0, .int .u64 0, .slice none ([] : List S54).length 0] (0, 0) _ rfl (RQ.set4 HZZ.out _ _ _ _) Try.underlying86 rfl (by kernel_rfl)) rfl ?_
        refine ⟨.inr ⟨HE.out, _, rfl, RV.fr (v := .slice none ([] : List S54).length 0) ⟨none, 0, rfl, HRV.out.1, HRV.out.2⟩ (fr4 _ w.heap.size _ _ _ _) (fun k hk => by cases hk)⟩, Fr.below (S := fun k => w.heap.size ≤ k) (Fr.then_ (Fr.of_below HBB.out (fun k hk => .inl hk)) (fr4 _ w.heap.size _ _ _ _) (fun k hk => .inl (by omega))) (fun k hk => hk) (Nat.le_refl _)⟩
      · have hE : endP ys 0 = 12 := by unfold endP; rw [if_pos rfl, if_neg hX0]
        have HE := Lib.hid hE
        have hlx0 : 0 < ys.length := List.length_pos_iff.2 hX0
        have bx : decide ((0 : Int) < (ys.length : Int)) = true := by simp; omega
        clear hE hX0
        go_wp2
        go_region
        go_wp2
        refine bodyPost_ret (results_ct rfl _ _ w.heap.size 86 #[.int .u8 0, .int .u64 0, .int .u64 0, .slice none 0 0] (0, 0) _ rfl (blk_drew (RQ.set4 (blk_far HZZ.out (p := ⟨w.heap.size + 1, 1, none⟩) (by simp) _) _ _ _ _)) Try.underlying86 rfl (by kernel_rfl)) rfl ?_
        refine ⟨.inl ⟨by show endP ys 0 ≠ 0; rw [HE.out]; decide, by show _ = Ending.returned (.tuple #[_, .int .i64 (endP ys 0)]); rw [HE.out]; rfl⟩, below_drew1 (Fr.below (S := fun k => w.heap.size ≤ k) (Fr.then_ (Fr.of_below (Below.setCell (p := ⟨w.heap.size + 1, 1, none⟩) HBB.out (Nat.le_succ _) _) (fun k hk => .inl hk)) (fr4 _ w.heap.size _ _ _ _) (fun k hk => .inl (by omega))) (fun k hk => hk) (Nat.le_refl _))⟩
    · have hE : endP ys f1 = f1 := by unfold endP; rw [if_neg hF0]
      have HE := Lib.hid hE
      have b1 : (f1 == 0) = false := by simpa using hF0
      have b2 : (f1 != 0) = true := by simpa using hF0
      have HF0 := Lib.hid hF0
      clear hE hF0
      go_wp2
      go_region
      go_wp2
      refine bodyPost_ret (results_ct rfl _ _ w.heap.size 86 #[.int .u8 0, .int .u64 0, .int .u64 0, .slice none 0 0] (0, 0) _ rfl (blk_drew (RQ.set4 HZZ.out _ _ _ _)) Try.underlying86 rfl (by kernel_rfl)) rfl ?_
      refine ⟨.inl ⟨by show endP ys f1 ≠ 0; rw [HE.out]; exact HF0.out, by show _ = Ending.returned (.tuple #[_, .int .i64 (endP ys f1)]); rw [HE.out]; rfl⟩, below_drew1 (Fr.below (S := fun k => w.heap.size ≤ k) (Fr.then_ (Fr.of_below HBB.out (fun k hk => .inl hk)) (fr4 _ w.heap.size _ _ _ _) (fun k hk => .inl (by omega))) (fun k hk => hk) (Nat.le_refl _))⟩
set_option maxHeartbeats 4000000 in
set_option maxRecDepth 100000 in
theorem read_full (A0 : Option Addr) (c0 : Nat) (xs : List Int) (w : World) (hv : Byt w (.slice A0 xs.length c0) xs) (hlt : ∀ ad, A0 = some ad → 0 < xs.length → ad.block < w.heap.size) (hl : xs.length ≤ 100000) (hb : Bs xs) (bs ys : List Int) (ht1 : takeP xs 0 1 = (bs, ys, 0)) (hn : numB bs = 0) (b2 r2 : List Int) (f2' : Int) (ht2 : takeP ys 0 8 = (b2, r2, f2')) (b3 r3 : List Int) (f3' : Int) (ht3 : takeP r2 f2' 8 = (b3, r3, f3')) (b4 r4 : List Int) (f4' : Int) (ht4 : takeP r3 f3' 2 = (b4, r4, f4')) :
    Calls Try.prog 51 #[.slice A0 xs.length c0] w (ReadPost (repP xs) w) := by
  obtain ⟨q1, hb1, q3, q4⟩ := takeP_bs1 ht1 hb
  obtain ⟨p1, hb2, p3, p4⟩ := takeP_bs1 ht2 hb1
  obtain ⟨o1, hb3, o3, o4⟩ := takeP_bs1 ht3 hb2
  obtain ⟨i1, hb4, i3, i4⟩ := takeP_bs1 ht4 hb3
  have hN := numB_small i1 i3 (by omega)
  obtain ⟨n0, hn0⟩ : ∃ n0 : Nat, numB b4 = n0 := ⟨(numB b4).toNat, by omega⟩
  obtain ⟨h, hh⟩ : ∃ h, numB b2 = h := ⟨_, rfl⟩
  obtain ⟨gg, hg⟩ : ∃ gg, numB b3 = gg := ⟨_, rfl⟩
  have hrep : repP xs = ((0, h, gg, (vals n0 r4 f4').1), (vals n0 r4 f4').2) := by
    unfold repP
    rw [ht1]
    dsimp only
    rw [if_pos ⟨hn, rfl⟩, ht2]
    dsimp only
    rw [ht3]
    dsimp only
    rw [ht4, hn0, hh, hg]
    rfl
  rw [hn0] at hN
  have hN1 : n0 < 65536 := by have h2 : ((n0 : Nat) : Int) < 65536 := hN.2; omega
  have HREP0 := Lib.hid hrep
  have HT1 := Lib.hid ht1
  have HEE := Lib.hid hn
  have HT2 := Lib.hid ht2
  have HT3 := Lib.hid ht3
  have HT4 := Lib.hid ht4
  have HH := Lib.hid hh
  have HG := Lib.hid hg
  have HN := Lib.hid hn0
  clear hrep ht1 hn ht2 ht3 ht4 hh hg hn0 hN q1 q3 p1 p3 o1 o3 i1 i3
  have hr1 : Rx ((w.alloc (.cells #[.int .u8 0, .int .u64 0, .int .u64 0, .slice none 0 0] 86)).alloc (.cells #[.slice A0 xs.length c0, .int .i64 0] 157)) (w.heap.size + 2) (w.heap.size + 1) xs 0 := ⟨A0, c0, blk_new1 w _ _, hv.below (below_alloc (below_alloc (Below.refl _ _) _) _), by omega, fun ad ha hp => by have := hlt ad ha hp; omega⟩
  have HRD1 := Lib.hid hr1
  have HZ1 := Lib.hid (show RQ ((w.alloc (.cells #[.int .u8 0, .int .u64 0, .int .u64 0, .slice none 0 0] 86)).alloc (.cells #[.slice A0 xs.length c0, .int .i64 0] 157)) w.heap.size 0 0 0 (.slice none 0 0) from blk_alloc (blk_new w _) _)
  have HB1 := Lib.hid (show Below w.heap.size w ((w.alloc (.cells #[.int .u8 0, .int .u64 0, .int .u64 0, .slice none 0 0] 86)).alloc (.cells #[.slice A0 xs.length c0, .int .i64 0] 157)) from below_alloc (below_alloc (Below.refl _ _) _) _)
  have hgz : w.heap.size ≠ w.heap.size + 1 := by omega
  have hs1 : ((w.alloc (.cells #[.int .u8 0, .int .u64 0, .int .u64 0, .slice none 0 0] 86)).alloc (.cells #[.slice A0 xs.length c0, .int .i64 0] 157)).heap.size = w.heap.size + 2 := by simp
  have HS1 := Lib.hid hs1
  clear hr1 hs1
  go_enter Try.func51, Try.ntmps51
  go_wp2_with (first
    | (go_at_call 85; go_loud (have _t := HRD3.out; refine (Rf.number_k 2 (w.heap.size + 2) (w.heap.size + 1) r3 f3' 2 _ rfl ((HRD3.out.put (p := ⟨w2.heap.size, 1, none⟩) hBr (.int .u64 h)).put (p := ⟨w2.heap.size, 2, none⟩) hBr (.int .u64 gg)) (by omega) hb3).mono ?_; rw [HT4.out]; rw [HN.out]; rintro en w5 ⟨rfl, hr5, hf5⟩; have hp5 := hf5.blk (blk_put (blk_put HP3.out 1 (.int .u64 h) rfl) 2 (.int .u64 gg) rfl) hrg; have HP5 := Lib.hid hp5; have HZ5 := Lib.hid (hf5.blk (blk_far (blk_far HZ3.out (p := ⟨w2.heap.size, 1, none⟩) (by simp; omega) (.int .u64 h)) (p := ⟨w2.heap.size, 2, none⟩) (by simp; omega) (.int .u64 gg)) hgz); have HF5 := Lib.hid hf5; have HRD5 := Lib.hid hr5; clear hr5 hf5 hp5 HRD3))
    | (go_at_call 85; go_loud (have _t := HRD1.out; refine (Rf.number_k 1 (w.heap.size + 2) (w.heap.size + 1) xs 0 1 _ rfl HRD1.out (by omega) hb).mono ?_; rw [HT1.out]; rw [HEE.out]; rintro en w2 ⟨rfl, hr2, hf2⟩; have HRD2 := Lib.hid hr2; have HF2 := Lib.hid hf2; have hw12 : w.heap.size + 2 ≤ w2.heap.size := (by have := hf2.size; rw [HS1.out] at this; exact this); have HZ2 := Lib.hid (hf2.blk HZ1.out hgz); have hm2 := (hr2.below (below_alloc (Below.refl _ _) (.cells #[.int .u8 0, .int .u64 0, .int .u64 0, .slice none 0 0] 86))).cell1; clear hr2 hf2 HRD1))
    | (go_at_call 86; go_loud (refine (handle_calls (w.heap.size + 2) (w.heap.size + 1) ys 0 _ (HRD2.out.below (below_alloc (Below.refl _ _) _)) (by simp; omega) (by omega) hb1 b2 r2 f2' HT2.out b3 r3 f3' HT3.out).mono ?_; rw [HH.out, HG.out]; rintro en w3 ⟨rfl, hr3, hf3⟩; have hrg : w2.heap.size ≠ w.heap.size + 1 := (by omega); have hp3 := hf3.blk (blk_new w2 _) hrg; have HP3 := Lib.hid hp3; have s0 := blk_cell hp3 0; have s1 := blk_cell hp3 1; have s2 := blk_cell hp3 2; have s3 := blk_cell hp3 3; have f0 := blk_frozen hp3 0; have f1 := blk_frozen hp3 1; have f2 := blk_frozen hp3 2; have f3 := blk_frozen hp3 3; have HZ3 := Lib.hid (hf3.blk (blk_alloc HZ2.out _) hgz); have HF3 := Lib.hid hf3; have HRD3 := Lib.hid hr3; have hBr : ∀ k, k < w.heap.size + 2 → ¬ k = w2.heap.size := (by omega); clear hr3 hf3 hp3)))
  have hB5 : Below w.heap.size w w5 := fr_below (Below.setCell (p := ⟨w2.heap.size, 2, none⟩) (Below.setCell (p := ⟨w2.heap.size, 1, none⟩) (fr_below (below_alloc (fr_below HB1.out HF2.out (fun k hk => by omega) (Nat.le_refl _)) _) HF3.out (fun k hk => by omega) (Nat.le_refl _)) (show w.heap.size ≤ w2.heap.size by omega) _) (show w.heap.size ≤ w2.heap.size by omega) _) HF5.out (fun k hk => by omega) (Nat.le_refl _)
  have HB5 := Lib.hid hB5
  clear hB5
  go_loopw [7] (fun s wr => ∃ (k m : Nat) (acc : List S54) (A : Option Addr) (c : Nat) (xs' : List Int) (f' : Int), s = .int .i64 k ∧ k + m = n0 ∧ Rx wr (w.heap.size + 2) (w.heap.size + 1) xs' f' ∧ Bs xs' ∧ xs'.length ≤ 100000 ∧ vals n0 r4 f4' = (acc ++ (vals m xs' f').1, (vals m xs' f').2) ∧ RQ wr w2.heap.size 0 h gg (.slice A acc.length c) ∧ RQ wr w.heap.size 0 0 0 (.slice none 0 0) ∧ Kd.R k54 67 wr (w2.heap.size + 1) (fun k => w2.heap.size + 1 ≤ k) (.slice A acc.length c) acc ∧ Below w.heap.size w wr ∧ acc.length + m ≤ 65535 ∧ w2.heap.size < wr.heap.size) (fun s _ => n0 - (intOf s).toNat)
  case atStart => exact ⟨0, n0, [], none, 0, r4, f4', rfl, by omega, HRD5.out, hb4, by omega, rfl, HP5.out, HZ5.out, Kd.R_nil _ _ _ _ _, HB5.out, by simp; omega, blk_lt HP5.out⟩
  case round =>
    obtain ⟨k, m, acc, A, c, xs', f', rfl, hkm, hr, hbx, hlx, hvals, hp, hz, hR0, hBx, hml, hlr⟩ := hrel
    have HRD := Lib.hid hr
    have HVL := Lib.hid hvals
    have HP := Lib.hid hp
    have HZ := Lib.hid hz
    have HR0 := Lib.hid hR0
    have HB := Lib.hid hBx
    have hal : acc.length ≤ 100000 := by omega
    have hm1 := hr.cell1
    have hm3 := hr.frozen1
    clear hr hvals hp hz hR0 hBx
    by_cases hm : m = 0
    · subst hm
      have hkn : k = n0 := by omega
      have HREP := Lib.hid (show repP xs = ((0, h, gg, acc), xs', f') by rw [HREP0.out, HVL.out]; simp [vals])
      go_upto_region 10 with (fail)
      have HRV := Lib.hid (show acc.length ≤ c ∧ Kd.C k54 wr A acc.length acc from ⟨(Kd.R_reads' HR0.out).2.1, (Kd.R_reads' HR0.out).2.2⟩)
      have HPP := Lib.hid (show RQ wr w2.heap.size 0 h gg (.slice A acc.length c) from HP.out)
      have HZZ := Lib.hid (HZ.out)
      have HBB := Lib.hid (HB.out)
      have HRR := Lib.hid (HRD.out)
      have z0 := blk_cell HZZ.out 0
      have z1 := blk_cell HZZ.out 1
      have z2 := blk_cell HZZ.out 2
      have z3 := blk_cell HZZ.out 3
      have y0 := blk_frozen HZZ.out 0
      have y1 := blk_frozen HZZ.out 1
      have y2 := blk_frozen HZZ.out 2
      have y3 := blk_frozen HZZ.out 3
      have s0 := blk_cell HPP.out 0
      have s1 := blk_cell HPP.out 1
      have s2 := blk_cell HPP.out 2
      have s3 := blk_cell HPP.out 3
      have hm1 := HRR.out.cell1
      have hm3 := HRR.out.frozen1
      obtain ⟨Ax, cx, hm0⟩ := HRR.out.cell0
      by_cases hF0 : f' = 0
      · have hflt := hF0
        subst hflt
        by_cases hX0 : xs' = []
        · have hE : endP xs' 0 = 0 := by unfold endP; rw [if_pos rfl, if_pos hX0]
          have HE := Lib.hid hE
          have hlx0 : xs'.length = 0 := by rw [hX0]; rfl
          rw [hlx0] at hm0
          clear hE hX0 hlx0
          go_wp2
          refine bodyPost_ret (results_ct rfl _ _ w.heap.size 86 #[.int .u8 0, .int .u64 h, .int .u64 gg, .slice A acc.length c] (0, 0) _ rfl (RQ.set4 HZZ.out _ _ _ _) Try.underlying86 rfl (by kernel_rfl)) rfl ?_
          rw [HREP.out]; refine ⟨.inr ⟨HE.out, _, rfl, RV.fr (v := .slice A acc.length c) ⟨A, c, rfl, HRV.out.1, HRV.out.2⟩ (fr4 _ w.heap.size _ _ _ _) (fun k hk e => by have := HR0.out.1 k hk; omega)⟩, Fr.below (S := fun k => w.heap.size ≤ k) (Fr.then_ (Fr.of_below HBB.out (fun k hk => .inl hk)) (fr4 _ w.heap.size _ _ _ _) (fun k hk => .inl (by omega))) (fun k hk => hk) (Nat.le_refl _)⟩
        · have hE : endP xs' 0 = 12 := by unfold endP; rw [if_pos rfl, if_neg hX0]
          have HE := Lib.hid hE
          have hlx0 : 0 < xs'.length := List.length_pos_iff.2 hX0
          have bx : decide ((0 : Int) < (xs'.length : Int)) = true := by simp; omega
          clear hE hX0
          go_wp2
          go_region
          go_wp2
          refine bodyPost_ret (results_ct rfl _ _ w.heap.size 86 #[.int .u8 0, .int .u64 0, .int .u64 0, .slice none 0 0] (0, 0) _ rfl (blk_drew (RQ.set4 (blk_far HZZ.out (p := ⟨w.heap.size + 1, 1, none⟩) (by simp) _) _ _ _ _)) Try.underlying86 rfl (by kernel_rfl)) rfl ?_
          rw [HREP.out]; refine ⟨.inl ⟨by show endP xs' 0 ≠ 0; rw [HE.out]; decide, by show _ = Ending.returned (.tuple #[_, .int .i64 (endP xs' 0)]); rw [HE.out]; rfl⟩, below_drew1 (Fr.below (S := fun k => w.heap.size ≤ k) (Fr.then_ (Fr.of_below (Below.setCell (p := ⟨w.heap.size + 1, 1, none⟩) HBB.out (Nat.le_succ _) _) (fun k hk => .inl hk)) (fr4 _ w.heap.size _ _ _ _) (fun k hk => .inl (by omega))) (fun k hk => hk) (Nat.le_refl _))⟩
      · have hE : endP xs' f' = f' := by unfold endP; rw [if_neg hF0]
        have HE := Lib.hid hE
        have b1 : (f' == 0) = false := by simpa using hF0
        have b2 : (f' != 0) = true := by simpa using hF0
        have HF0 := Lib.hid hF0
        clear hE hF0
        go_wp2
        go_region
        go_wp2
        refine bodyPost_ret (results_ct rfl _ _ w.heap.size 86 #[.int .u8 0, .int .u64 0, .int .u64 0, .slice none 0 0] (0, 0) _ rfl (blk_drew (RQ.set4 HZZ.out _ _ _ _)) Try.underlying86 rfl (by kernel_rfl)) rfl ?_
        rw [HREP.out]; refine ⟨.inl ⟨by show endP xs' f' ≠ 0; rw [HE.out]; exact HF0.out, by show _ = Ending.returned (.tuple #[_, .int .i64 (endP xs' f')]); rw [HE.out]; rfl⟩, below_drew1 (Fr.below (S := fun k => w.heap.size ≤ k) (Fr.then_ (Fr.of_below HBB.out (fun k hk => .inl hk)) (fr4 _ w.heap.size _ _ _ _) (fun k hk => .inl (by omega))) (fun k hk => hk) (Nat.le_refl _))⟩
    · have hm0 : (k : Int) < (n0 : Int) := by omega
      by_cases hf : f' = 0
      · subst hf
        obtain ⟨m, rfl⟩ : ∃ m', m = m' + 1 := ⟨m - 1, by omega⟩
        obtain ⟨hvb, hvl⟩ := valueP_bs xs' 0 hbx
        have HVG := Lib.hid (vals_go m xs')
        clear hm
        have hW := blk_drew HP.out
        have p3 := blk_cell hW 3
        have HWP := Lib.hid hW
        have hwd : w.heap.size + 2 ≤ wr.drew.heap.size := (show w.heap.size + 2 ≤ wr.heap.size by omega)
        clear hW
        go_wp2
        refine start_ (n := 8) (S := fun w' => w'.cell? ⟨w2.heap.size, 3, none⟩ = some (.slice A acc.length c)) (ds := [7]) #[false, false, false, false, false, false, false, false] (by kernel_rfl) rfl rfl (p3) (fun hHeld => ?_)
        refine pure_ (i := 0) (N := some 43) (v := ?_) (a' := ?_) #[true, false, false, false, false, false, false, false] rfl rfl (by kernel_rfl) (fun _ _ _ h => h) (Or.inl ⟨by rfl, ?_⟩) ?_ ?_
        rotate_left
        · intro w'
          go_simp
          with_reducible rfl
        rotate_left
        · simp only [Act.put, List.setIfInBounds_toArray, List.set_cons_zero, List.set_cons_succ, i64_w, i32_w]
          rfl
        refine pure_ (i := 2) (N := some 45) (v := ?_) (a' := ?_) #[true, false, true, false, false, false, false, false] rfl rfl (by kernel_rfl) (fun _ _ _ h => h) (Or.inl ⟨by rfl, ?_⟩) ?_ ?_
        rotate_left
        · intro w'
          go_simp
          with_reducible rfl
        rotate_left
        · simp only [Act.put, List.setIfInBounds_toArray, List.set_cons_zero, List.set_cons_succ, i64_w, i32_w]
          rfl
        refine take_ (i := 1) (N := some 44) (v := ?_) (a' := ?_) #[true, true, true, false, false, false, false, false] rfl rfl (by kernel_rfl) (fun _ _ _ h => h) (Or.inl ⟨by rfl, ?_⟩) hHeld ?_ ?_
        rotate_left
        · intro w' s0
          go_simp
          with_reducible rfl
        rotate_left
        · simp only [Act.put, List.setIfInBounds_toArray, List.set_cons_zero, List.set_cons_succ, i64_w, i32_w]
          rfl
        refine one_ (i := 3) (N := some 46) #[true, true, true, true, false, false, false, false] rfl rfl (by kernel_rfl) (by decide) (fun K hK => ?_)
        refine goes_ Try.func87 (by kernel_rfl) rfl #[.pointer (some ⟨w.heap.size + 1, 0, none⟩)] (by rfl) rfl rfl (by simp only [List.map_toArray, List.map_cons, List.map_nil]; rfl) ?_
        with_reducible refine (Rf.value_reads (w.heap.size + 2) (w.heap.size + 1) xs' 0 _ (HRD.out.below (below_drew1 (Below.refl _ _))) hwd (by omega) hbx).mono ?_
        rintro e6 w6 ⟨rfl, hr6, hf6⟩
        refine ⟨_, rfl, ?_⟩
        have hp6 := hf6.blk HWP.out hrg
        have hR6 := Kd.R_step (w1 := w6) (Kd.R_drew HR0.out) (fun k hk hlt => hf6.block k hlt (by omega))
        have hz6 := hf6.blk (blk_drew HZ.out) hgz
        refine hK.out _ _ ((blk_cell hp6 3)) (fun hHeld => ?_)
        clear hK K
        refine norm_ (a' := ?_) ?_ ?_
        rotate_left
        · show Act.put _ (some 46) _ = _
          simp only [Act.put, List.setIfInBounds_toArray, List.set_cons_zero, List.set_cons_succ, i64_w, i32_w]
          rfl
        refine one_ (i := 4) (N := some 47) #[true, true, true, true, true, false, false, false] rfl rfl (by kernel_rfl) (by decide) (fun K hK => ?_)
        refine value_ (w1 := ?_) (v := ?_) (by rfl) rfl ?_ ?_
        rotate_left 2
        · go_simp
          constructor
          · rfl
          · rfl
        refine hK.out _ _ ((blk_cell (blk_alloc hp6 _) 3)) (fun hHeld => ?_)
        clear hK K
        refine norm_ (a' := ?_) ?_ ?_
        rotate_left
        · show Act.put _ (some 47) _ = _
          simp only [Act.put, List.setIfInBounds_toArray, List.set_cons_zero, List.set_cons_succ, i64_w, i32_w]
          rfl
        refine one_ (i := 5) (N := some 48) #[true, true, true, true, true, true, false, false] rfl rfl (by kernel_rfl) (by decide) (fun K hK => ?_)
        refine Kd.R_append_step k54 (w0 := w6) (w2.heap.size + 1) (by rfl) (.tmp 44) (.tmp 47) 76 67 (.agg #[.int .u8 0, .int .i64 0, .string (⟨#[]⟩ : ByteArray)]) 32 rfl Try.underlying76 infoV rfl (by decide) (by decide) (.slice A acc.length c) acc (valS xs' 0) [.int .u8 (valueP xs' 0).1.1, .int .i64 (valueP xs' 0).1.2.1, .string (valueP xs' 0).1.2.2] (fun k => w2.heap.size + 1 ≤ k) (fun _ => False) rfl rfl (k54_mkM _ _ _ (valS xs' 0)) (fun _ h => h.elim) (fun k hk => by have := blk_lt hp6; omega) hR6 (Below.refl _ _) (by have := blk_lt hp6; omega) (by omega) ?_
        intro v7 w7 hR7 hB7 hg7 _
        obtain ⟨A7, c7, rfl⟩ := Kd.R_slice hR7
        have hob : ∀ k, (Value.slice A acc.length c).ownBlock = some k → w2.heap.size + 1 ≤ k := hR6.1
        have hp7 := blk_grown hp6 hg7 (fun e => by have := hob _ e.symm; omega)
        have hz7 := blk_grown hz6 hg7 (fun e => by have := hob _ e.symm; omega)
        have hr7 : Rx w7 (w.heap.size + 2) (w.heap.size + 1) (valueP xs' 0).2.1 (valueP xs' 0).2.2 := Rx.fr hr6 (S := fun k => some k = (Value.slice A acc.length c).ownBlock) ⟨hg7.os, hg7.tape, hg7.output, hg7.size, fun i hi hn => hg7.block i hi hn⟩ (fun k hk e => by have := hob _ e.symm; omega)
        have hb7 : Below w.heap.size w w7 := fr_below (S := fun k => some k = (Value.slice A acc.length c).ownBlock) (fr_below (below_drew1 HB.out) hf6 (fun k hk => by omega) (Nat.le_refl _)) ⟨hg7.os, hg7.tape, hg7.output, hg7.size, fun i hi hn => hg7.block i hi hn⟩ (fun k hk => by have := hob _ hk.symm; omega) (Nat.le_refl _)
        have hp7c := blk_cell hp7 3
        have hp7f := blk_frozen hp7 3
        refine hK.out _ _ ((blk_cell hp7 3)) (fun hHeld => ?_)
        clear hK K
        refine norm_ (a' := ?_) ?_ ?_
        rotate_left
        · show Act.put _ (some 48) _ = _
          simp only [Act.put, List.setIfInBounds_toArray, List.set_cons_zero, List.set_cons_succ, i64_w, i32_w]
          rfl
        refine pure_ (i := 6) (N := some 49) (v := ?_) (a' := ?_) #[true, true, true, true, true, true, true, false] rfl rfl (by kernel_rfl) (fun _ _ _ h => h) (Or.inl ⟨by rfl, ?_⟩) ?_ ?_
        rotate_left
        · intro w'
          go_simp
          with_reducible rfl
        rotate_left
        · simp only [Act.put, List.setIfInBounds_toArray, List.set_cons_zero, List.set_cons_succ, i64_w, i32_w]
          rfl
        refine last_ (i := 7) (N := none) #[true, true, true, true, true, true, true, true] rfl rfl (by kernel_rfl) (by decide) (fun K hK => ?_)
        refine skip_ (w1 := ?_) (by rfl) rfl ?_ ?_
        rotate_left
        · go_simp
          rfl
        refine hK.out _ _ ?_
        clear hK K
        refine done_ (by kernel_rfl) ?_

        have HP7 := Lib.hid hp7
        have HZ7 := Lib.hid hz7
        have HRD7 := Lib.hid hr7
        have HR7 := Lib.hid hR7
        have HB7 := Lib.hid hb7
        clear hp6 hR6 hz6 hp7 hz7 hr7 hR7 hb7 hp7c hp7f hr6 hf6 hB7 hg7 hob
        go_wp2
        go_roundw
        case rel =>
          refine ⟨k + 1, m, acc ++ [valS xs' 0], A7, c7, _, _, by simp, by omega, HRD7.out.put (p := ⟨w2.heap.size, 3, none⟩) hBr _, hvb, by omega, ?_, ?_, blk_far HZ7.out (by simp; omega) _, ?_, ?_, by simp; omega, ?_⟩
          · rw [HVL.out, HVG.out]; simp
          · rw [show (acc ++ [valS xs' 0]).length = acc.length + 1 by simp]
            exact blk_put HP7.out 3 _ rfl
          · have h5 := Kd.R_far (p := ⟨w2.heap.size, 3, none⟩) HR7.out (fun k hk => by show k ≠ w2.heap.size; omega) (.slice A7 (acc.length + 1) c7)
            exact h5
          · exact Below.setCell (p := ⟨w2.heap.size, 3, none⟩) HB7.out (show w.heap.size ≤ w2.heap.size by omega) _
          · have := blk_lt HP7.out; simp [World.setCell]; omega
        case measure => simp [intOf]; omega
      · have bf : (f' == 0) = false := by simpa using hf
        have HREP := Lib.hid (show repP xs = ((0, h, gg, acc), xs', f') by rw [HREP0.out, HVL.out, vals_bad _ _ _ hf]; simp)
        have HFN := Lib.hid hf
        clear hf
        go_upto_region 10 with (fail)
        have HRV := Lib.hid (show acc.length ≤ c ∧ Kd.C k54 wr A acc.length acc from ⟨(Kd.R_reads' HR0.out).2.1, (Kd.R_reads' HR0.out).2.2⟩)
        have HPP := Lib.hid (show RQ wr w2.heap.size 0 h gg (.slice A acc.length c) from HP.out)
        have HZZ := Lib.hid (HZ.out)
        have HBB := Lib.hid (HB.out)
        have HRR := Lib.hid (HRD.out)
        have z0 := blk_cell HZZ.out 0
        have z1 := blk_cell HZZ.out 1
        have z2 := blk_cell HZZ.out 2
        have z3 := blk_cell HZZ.out 3
        have y0 := blk_frozen HZZ.out 0
        have y1 := blk_frozen HZZ.out 1
        have y2 := blk_frozen HZZ.out 2
        have y3 := blk_frozen HZZ.out 3
        have s0 := blk_cell HPP.out 0
        have s1 := blk_cell HPP.out 1
        have s2 := blk_cell HPP.out 2
        have s3 := blk_cell HPP.out 3
        have hm1 := HRR.out.cell1
        have hm3 := HRR.out.frozen1
        obtain ⟨Ax, cx, hm0⟩ := HRR.out.cell0
        by_cases hF0 : f' = 0
        · have hflt := hF0
          subst hflt
          by_cases hX0 : xs' = []
          · have hE : endP xs' 0 = 0 := by unfold endP; rw [if_pos rfl, if_pos hX0]
            have HE := Lib.hid hE
            have hlx0 : xs'.length = 0 := by rw [hX0]; rfl
            rw [hlx0] at hm0
            clear hE hX0 hlx0
            go_wp2
            refine bodyPost_ret (results_ct rfl _ _ w.heap.size 86 #[.int .u8 0, .int .u64 h, .int .u64 gg, .slice A acc.length c] (0, 0) _ rfl (RQ.set4 HZZ.out _ _ _ _) Try.underlying86 rfl (by kernel_rfl)) rfl ?_
            rw [HREP.out]; refine ⟨.inr ⟨HE.out, _, rfl, RV.fr (v := .slice A acc.length c) ⟨A, c, rfl, HRV.out.1, HRV.out.2⟩ (fr4 _ w.heap.size _ _ _ _) (fun k hk e => by have := HR0.out.1 k hk; omega)⟩, Fr.below (S := fun k => w.heap.size ≤ k) (Fr.then_ (Fr.of_below HBB.out (fun k hk => .inl hk)) (fr4 _ w.heap.size _ _ _ _) (fun k hk => .inl (by omega))) (fun k hk => hk) (Nat.le_refl _)⟩
          · have hE : endP xs' 0 = 12 := by unfold endP; rw [if_pos rfl, if_neg hX0]
            have HE := Lib.hid hE
            have hlx0 : 0 < xs'.length := List.length_pos_iff.2 hX0
            have bx : decide ((0 : Int) < (xs'.length : Int)) = true := by simp; omega
            clear hE hX0
            go_wp2
            go_region
            go_wp2
            refine bodyPost_ret (results_ct rfl _ _ w.heap.size 86 #[.int .u8 0, .int .u64 0, .int .u64 0, .slice none 0 0] (0, 0) _ rfl (blk_drew (RQ.set4 (blk_far HZZ.out (p := ⟨w.heap.size + 1, 1, none⟩) (by simp) _) _ _ _ _)) Try.underlying86 rfl (by kernel_rfl)) rfl ?_
            rw [HREP.out]; refine ⟨.inl ⟨by show endP xs' 0 ≠ 0; rw [HE.out]; decide, by show _ = Ending.returned (.tuple #[_, .int .i64 (endP xs' 0)]); rw [HE.out]; rfl⟩, below_drew1 (Fr.below (S := fun k => w.heap.size ≤ k) (Fr.then_ (Fr.of_below (Below.setCell (p := ⟨w.heap.size + 1, 1, none⟩) HBB.out (Nat.le_succ _) _) (fun k hk => .inl hk)) (fr4 _ w.heap.size _ _ _ _) (fun k hk => .inl (by omega))) (fun k hk => hk) (Nat.le_refl _))⟩
        · have hE : endP xs' f' = f' := by unfold endP; rw [if_neg hF0]
          have HE := Lib.hid hE
          have b1 : (f' == 0) = false := by simpa using hF0
          have b2 : (f' != 0) = true := by simpa using hF0
          have HF0 := Lib.hid hF0
          clear hE hF0
          go_wp2
          go_region
          go_wp2
          refine bodyPost_ret (results_ct rfl _ _ w.heap.size 86 #[.int .u8 0, .int .u64 0, .int .u64 0, .slice none 0 0] (0, 0) _ rfl (blk_drew (RQ.set4 HZZ.out _ _ _ _)) Try.underlying86 rfl (by kernel_rfl)) rfl ?_
          rw [HREP.out]; refine ⟨.inl ⟨by show endP xs' f' ≠ 0; rw [HE.out]; exact HF0.out, by show _ = Ending.returned (.tuple #[_, .int .i64 (endP xs' f')]); rw [HE.out]; rfl⟩, below_drew1 (Fr.below (S := fun k => w.heap.size ≤ k) (Fr.then_ (Fr.of_below HBB.out (fun k hk => .inl hk)) (fr4 _ w.heap.size _ _ _ _) (fun k hk => .inl (by omega))) (fun k hk => hk) (Nat.le_refl _))⟩

theorem read_calls (A0 : Option Addr) (c0 : Nat) (xs : List Int) (w : World) (hv : Byt w (.slice A0 xs.length c0) xs) (hlt : ∀ ad, A0 = some ad → 0 < xs.length → ad.block < w.heap.size) (hl : xs.length ≤ 100000) (hb : Bs xs) :
    Calls Try.prog 51 #[.slice A0 xs.length c0] w (ReadPost (repP xs) w) := by
  obtain ⟨bs, ys, f1, ht⟩ : ∃ bs ys f1, takeP xs 0 1 = (bs, ys, f1) := ⟨_, _, _, rfl⟩
  by_cases h : numB bs = 0 ∧ f1 = 0
  · obtain ⟨h1, rfl⟩ := h
    exact read_full A0 c0 xs w hv hlt hl hb bs ys ht h1 _ _ _ rfl _ _ _ rfl _ _ _ rfl
  · exact read_short A0 c0 xs w hv hlt hl hb bs ys f1 ht h
end Go.Proofs.Ytaoacibahdbdkaa.Rep
/-! reply: may a reply be?, as the law asks. Printed by wip/tools/gen_right.py. -/
namespace Go.Proofs.Ytaoacibahdbdkaa.Rep
open Go.RowKit Go Go.Proofs.Ytaoacibahdbdkaa.QReplySame Go.Proofs.YtaoacibahdbdkaaW.PrintWords Go.Proofs.YtaoacibahdbdkaaW.PrintLast Go.Proofs.YtaoacibahdbdkaaW.PrintMore Go.Proofs.Ytaoacibahdbdkaa.Fra Go.Proofs.Ytaoacibahdbdkaa.Pk Go.Proofs.Ytaoacibahdbdkaa.Bts Go.Proofs.Ytaoacibahdbdkaa.Pr
theorem rightV_eq (k n : Int) (s : ByteArray) : Pr.rightV k n s = Rep.rightV k n s := by
  unfold Pr.rightV
  rw [Rf.right_f]
  rfl
theorem refright (x : S54) : QPackedPuts.easementref01_Right.f x.f0 x.f1 x.f2 = some (rightS x) := by
  rw [Rf.refr, rightV_eq]; rfl
theorem rightR_bad {e h g : Int} {l : List S54} {j : Nat} (hj : j < l.length) (hx : rightS (l.getD j z54) = false) : rightR e h g l = false := by
  have : l.all rightS = false := by
    rw [List.all_eq_false]
    refine ⟨l.getD j z54, ?_, by rw [hx]; simp⟩
    simp [List.getD, hj]
  simp [rightR, this]
set_option maxHeartbeats 2000000 in
set_option maxRecDepth 100000 in
theorem lright_calls (e h g : Int) (A : Option Addr) (c : Nat) (l : List S54) (w : World) (hC : Kd.C k54 w A l.length l) (hc : l.length ≤ c) (hl : l.length ≤ 100000) (he0 : 0 ≤ e) :
    Calls Try.prog 52 #[.agg #[.int .u8 e, .int .u64 h, .int .u64 g, .slice A l.length c]] w fun en w' => en = .returned (.bool (rightR e h g l)) ∧ Below w.heap.size w w' := by
  obtain ⟨n, hn⟩ : ∃ n, l.length = n := ⟨_, rfl⟩
  rw [hn] at hC hc hl ⊢
  have HN := Lib.hid hn
  have HC := Lib.hid hC
  have hl' : (n : Int) ≤ 100000 := by omega
  clear hC hn
  go_enter Try.func52, Try.ntmps52
  go_wp2
  go_loopw [8] (fun i wr => ∃ j : Nat, j ≤ n ∧ i = .int .i64 j ∧ (l.take j).all rightS = true ∧ RQ wr w.heap.size e h g (.slice A n c) ∧ Below w.heap.size w wr) (fun i _ => n - (intOf i).toNat)
  case atStart => exact ⟨0, by omega, rfl, by simp, blk_new w _, below_alloc (Below.refl _ _) _⟩
  case round =>
    obtain ⟨j, hj, rfl, hall, hp, hB⟩ := hrel
    have HALL := Lib.hid hall
    have HP := Lib.hid hp
    have HB := Lib.hid hB
    clear hall hp hB
    by_cases hlt : j < n
    · obtain ⟨x, hx⟩ : ∃ x, l.getD j z54 = x := ⟨_, rfl⟩
      obtain ⟨ad, rfl, a0, a1, a2⟩ := at_V (Kd.C_below HC.out HB.out) j hlt x hx
      have HX := Lib.hid hx
      clear hx
      cases hr : rightS x
      · have HR := Lib.hid hr
        clear hr
        go_wp2_with (go_at_call 38; go_loud (refine (QPackedPuts.easementref01_Right.calls x.f0 x.f1 x.f2 false _ (by rw [refright, HR.out])).mono ?_; rintro en w2 ⟨rfl, hB2⟩))
        go_ret
        exact ⟨by rw [rightR_bad (e := e) (h := h) (g := g) (by rw [HN.out]; exact hlt) (by rw [HX.out, HR.out])]; rfl, below_step (below_alloc HB.out _) hB2⟩
      · have HR := Lib.hid hr
        clear hr
        go_wp2_with (go_at_call 38; go_loud (refine (QPackedPuts.easementref01_Right.calls x.f0 x.f1 x.f2 true _ (by rw [refright, HR.out])).mono ?_; rintro en w2 ⟨rfl, hB2⟩))
        go_roundw
        case rel =>
          refine ⟨j + 1, by omega, by simp, ?_, blk_below (blk_alloc HP.out _) hB2, below_step (below_alloc HB.out _) hB2⟩
          rw [take_snoc l j (by rw [HN.out]; exact hlt), List.all_append, HALL.out, HX.out]
          simp [HR.out]
        case measure => simp [intOf]; omega
    · obtain rfl : j = n := by omega
      have hall := HALL.out
      rw [← HN.out, List.take_length] at hall
      have p0 := blk_cell HP.out 0
      have p1 := blk_cell HP.out 1
      have p2 := blk_cell HP.out 2
      have p3 := blk_cell HP.out 3
      have q2 : ∀ (a b x y : Int) (V : World), (Op.equalIn 10000 84 (.agg #[.int .u64 a, .int .u64 b]) (.agg #[.int .u64 x, .int .u64 y])).run Try.prog V = .ok (a == x && b == y) V := eq2
      have HA2 := Lib.hid hall
      clear hall
      by_cases h1 : e ≤ 14
      · by_cases h2 : j ≤ 128
        · by_cases h3 : e = 0
          · have bq0 : decide (e ≤ 14) = true := by first | simpa using ‹_› | (simp; omega) | (simp_all; done) | omega
            have bq1 : decide ((j : Int) ≤ 128) = true := by first | simpa using ‹_› | (simp; omega) | (simp_all; done) | omega
            have bq2 : (e == 0) = true := by first | simpa using ‹_› | (simp; omega) | (simp_all; done) | omega
            have HRR := Lib.hid (show rightR e h g l = true by have h1 := HA2.out; have h2 := HN.out; unfold rightR; rw [h1, h2]; simp_all; try omega)
            go_wp2
            go_ret
            exact ⟨by rw [HRR.out]; rfl, HB.out⟩
          · by_cases h4 : h = 0 ∧ g = 0
            · by_cases h5 : j = 0
              · have bq0 : decide (e ≤ 14) = true := by first | simpa using ‹_› | (simp; omega) | (simp_all; done) | omega
                have bq1 : decide ((j : Int) ≤ 128) = true := by first | simpa using ‹_› | (simp; omega) | (simp_all; done) | omega
                have bq2 : (e == 0) = false := by first | simpa using ‹_› | (simp; omega) | (simp_all; done) | omega
                have bq3 : (h == 0 && g == 0) = true := by first | simpa using ‹_› | (simp; omega) | (simp_all; done) | omega
                have bq4 : ((j : Int) == 0) = true := by first | simpa using ‹_› | (simp; omega) | (simp_all; done) | omega
                have HRR := Lib.hid (show rightR e h g l = true by have h1 := HA2.out; have h2 := HN.out; unfold rightR; rw [h1, h2]; simp_all; try omega)
                go_wp2
                go_ret
                exact ⟨by rw [HRR.out]; rfl, HB.out⟩
              · have bq0 : decide (e ≤ 14) = true := by first | simpa using ‹_› | (simp; omega) | (simp_all; done) | omega
                have bq1 : decide ((j : Int) ≤ 128) = true := by first | simpa using ‹_› | (simp; omega) | (simp_all; done) | omega
                have bq2 : (e == 0) = false := by first | simpa using ‹_› | (simp; omega) | (simp_all; done) | omega
                have bq3 : (h == 0 && g == 0) = true := by first | simpa using ‹_› | (simp; omega) | (simp_all; done) | omega
                have bq4 : ((j : Int) == 0) = false := by first | simpa using ‹_› | (simp; omega) | (simp_all; done) | omega
                have HRR := Lib.hid (show rightR e h g l = false by have h1 := HA2.out; have h2 := HN.out; unfold rightR; rw [h1, h2]; simp_all; try omega)
                go_wp2
                go_ret
                exact ⟨by rw [HRR.out]; rfl, HB.out⟩
            · have bq0 : decide (e ≤ 14) = true := by first | simpa using ‹_› | (simp; omega) | (simp_all; done) | omega
              have bq1 : decide ((j : Int) ≤ 128) = true := by first | simpa using ‹_› | (simp; omega) | (simp_all; done) | omega
              have bq2 : (e == 0) = false := by first | simpa using ‹_› | (simp; omega) | (simp_all; done) | omega
              have bq3 : (h == 0 && g == 0) = false := by first | simpa using ‹_› | (simp; omega) | (simp_all; done) | omega
              have HRR := Lib.hid (show rightR e h g l = false by have h1 := HA2.out; have h2 := HN.out; unfold rightR; rw [h1, h2]; simp_all; try omega)
              go_wp2
              go_ret
              exact ⟨by rw [HRR.out]; rfl, HB.out⟩
        · have bq0 : decide (e ≤ 14) = true := by first | simpa using ‹_› | (simp; omega) | (simp_all; done) | omega
          have bq1 : decide ((j : Int) ≤ 128) = false := by first | simpa using ‹_› | (simp; omega) | (simp_all; done) | omega
          have HRR := Lib.hid (show rightR e h g l = false by have h1 := HA2.out; have h2 := HN.out; unfold rightR; rw [h1, h2]; simp_all; try omega)
          go_wp2
          go_ret
          exact ⟨by rw [HRR.out]; rfl, HB.out⟩
      · have bq0 : decide (e ≤ 14) = false := by first | simpa using ‹_› | (simp; omega) | (simp_all; done) | omega
        have HRR := Lib.hid (show rightR e h g l = false by have h1 := HA2.out; have h2 := HN.out; unfold rightR; rw [h1, h2]; simp_all; try omega)
        go_wp2
        go_ret
        exact ⟨by rw [HRR.out]; rfl, HB.out⟩
end Go.Proofs.Ytaoacibahdbdkaa.Rep
/-! reply: what is read is what was written, in plain words. -/
namespace Go.Proofs.Ytaoacibahdbdkaa.Rep
open Go.RowKit Go Go.Proofs.Ytaoacibahdbdkaa.QReplySame Go.Proofs.YtaoacibahdbdkaaW.PrintWords Go.Proofs.Ytaoacibahdbdkaa.Fra Go.Proofs.Ytaoacibahdbdkaa.Pk Go.Proofs.Ytaoacibahdbdkaa.Bts Go.Proofs.Ytaoacibahdbdkaa.Pr
theorem takeP_ok {xs bs ys : List Int} {f : Int} {n : Nat} (h : takeP xs f n = (bs, ys, 0)) : f = 0 ∧ xs = bs ++ ys ∧ bs.length = n := by
  unfold takeP at h
  split at h
  · rename_i h0
    split at h
    · simp at h
    · rename_i h1
      simp only [Prod.mk.injEq] at h
      obtain ⟨rfl, rfl, _⟩ := h
      exact ⟨h0, by simp, by simp; omega⟩
  · rename_i h0
    simp only [Prod.mk.injEq] at h
    exact absurd h.2.2 h0
theorem leB_numB : ∀ (bs : List Int), Bs bs → leB (numB bs) bs.length = bs
  | [], _ => rfl
  | b :: bs, h => by
    have h1 := h b (List.mem_cons_self ..)
    have ih := leB_numB bs (fun y hy => h y (List.mem_cons_of_mem _ hy))
    show leB (b + 256 * numB bs) (bs.length + 1) = b :: bs
    rw [leB_cons, show (b + 256 * numB bs) % 256 = b by omega, show (b + 256 * numB bs) / 256 = numB bs by omega, ih]
theorem bytes_str : ∀ (bs : List Int), Bs bs → bytesOf (strOfNums bs) = bs := by
  intro bs h
  unfold bytesOf strOfNums
  show (bs.map fun n => UInt8.ofNat n.toNat).toArray.toList.map (fun b => (b.toNat : Int)) = bs
  rw [List.toList_toArray, List.map_map]
  have : ∀ l : List Int, Bs l → l.map ((fun b : UInt8 => (b.toNat : Int)) ∘ fun n : Int => UInt8.ofNat n.toNat) = l := by
    intro l hl
    induction l with
    | nil => rfl
    | cons x l ih =>
      have hx := hl x (List.mem_cons_self ..)
      rw [List.map_cons, ih (fun y hy => hl y (List.mem_cons_of_mem _ hy))]
      congr 1
      simp only [Function.comp, UInt8.toNat_ofNat']
      omega
  exact this bs h
theorem bs_left {bs ys : List Int} (h : Bs (bs ++ ys)) : Bs bs := fun x hx => h x (List.mem_append_left _ hx)
theorem bs_right {bs ys : List Int} (h : Bs (bs ++ ys)) : Bs ys := fun x hx => h x (List.mem_append_right _ hx)
theorem textP_ok {xs bs ys : List Int} {f most : Int} (hb : Bs xs) (h : textP xs f most = (bs, ys, 0)) : f = 0 ∧ xs = leB bs.length 2 ++ bs ++ ys ∧ Bs bs := by
  unfold textP at h
  obtain ⟨b2, r2, f2, ht⟩ : ∃ b2 r2 f2, takeP xs f 2 = (b2, r2, f2) := ⟨_, _, _, rfl⟩
  rw [ht] at h
  dsimp only at h
  obtain ⟨h0, rfl, hl⟩ := takeP_ok h
  have hf2 : f2 = 0 := by
    split at h0
    · cases h0
    · exact h0
  subst hf2
  obtain ⟨rfl, rfl, hl2⟩ := takeP_ok ht
  have hB2 := bs_left hb
  have hBb := bs_left (bs_right hb)
  refine ⟨rfl, ?_, hBb⟩
  have hn := numB_nn b2 hB2
  have e : ((bs.length : Nat) : Int) = numB b2 := by omega
  rw [e, ← hl2, leB_numB b2 hB2, List.append_assoc]
theorem one_byte {b : List Int} (hl : b.length = 1) : ∃ x, b = [x] ∧ numB b = x := by
  match b, hl with
  | [x], _ => exact ⟨x, rfl, by simp [numB]⟩
theorem valueP_ok {xs ys : List Int} {f k n : Int} {s : ByteArray} (hb : Bs xs) (h : valueP xs f = ((k, n, s), ys, 0)) : f = 0 ∧ xs = valB k n s ++ ys ∧ Pr.rightV k n s = true := by
  rw [valueP_eq] at h
  obtain ⟨⟨k', n', s', z, fz⟩, hm⟩ : ∃ m, valM xs f = m := ⟨_, rfl⟩
  rw [hm] at h
  unfold endV at h
  dsimp only at h
  have hF : (if fz = 0 ∧ Pr.rightV k' n' s' = false then (10 : Int) else fz) = 0 := by
    simp only [Prod.mk.injEq] at h
    exact h.2.2
  have hfz : fz = 0 ∧ Pr.rightV k' n' s' = true := by
    by_cases c : fz = 0 ∧ Pr.rightV k' n' s' = false
    · rw [if_pos c] at hF
      cases hF
    · rw [if_neg c] at hF
      refine ⟨hF, ?_⟩
      cases hr : Pr.rightV k' n' s'
      · exact absurd ⟨hF, hr⟩ c
      · rfl
  obtain ⟨rfl, hr⟩ := hfz
  have hn : ¬ ((0 : Int) = 0 ∧ Pr.rightV k' n' s' = false) := by rw [hr]; simp
  rw [if_neg hn, if_pos rfl] at h
  simp only [Prod.mk.injEq] at h
  obtain ⟨⟨rfl, rfl, rfl⟩, rfl, _⟩ := h
  unfold valM at hm
  obtain ⟨b1, r1, f1, ht⟩ : ∃ b1 r1 f1, takeP xs f 1 = (b1, r1, f1) := ⟨_, _, _, rfl⟩
  rw [ht] at hm
  dsimp only at hm
  split at hm
  · rename_i k1
    simp only [Prod.mk.injEq] at hm
    obtain ⟨rfl, rfl, rfl, hz⟩ := hm
    obtain ⟨b2, r2, f2, ht2⟩ : ∃ b2 r2 f2, takeP r1 f1 1 = (b2, r2, f2) := ⟨_, _, _, rfl⟩
    rw [ht2] at hz hr ⊢
    simp only [Prod.mk.injEq] at hz
    obtain ⟨rfl, rfl⟩ := hz
    obtain ⟨rfl, rfl, hl2⟩ := takeP_ok ht2
    obtain ⟨rfl, rfl, hl1⟩ := takeP_ok ht
    obtain ⟨x, rfl, hx⟩ := one_byte hl1
    obtain ⟨y, rfl, hy⟩ := one_byte hl2
    have hyb := hb y (by simp)
    refine ⟨rfl, ?_, hr⟩
    rw [k1, valB_1]
    rw [hx] at k1
    dsimp only
    rw [hy, k1]
    have e : wrap64 y % 18446744073709551616 = y := by rw [IntWalk.wrap64_in y (by omega)]; omega
    rw [e, leB_one, show y % 256 = y by omega]
    rfl
  · split at hm
    · rename_i k1
      simp only [Prod.mk.injEq] at hm
      obtain ⟨rfl, rfl, rfl, hz⟩ := hm
      obtain ⟨b2, r2, f2, ht2⟩ : ∃ b2 r2 f2, takeP r1 f1 8 = (b2, r2, f2) := ⟨_, _, _, rfl⟩
      rw [ht2] at hz hr ⊢
      simp only [Prod.mk.injEq] at hz
      obtain ⟨rfl, rfl⟩ := hz
      obtain ⟨rfl, rfl, hl2⟩ := takeP_ok ht2
      obtain ⟨rfl, rfl, hl1⟩ := takeP_ok ht
      obtain ⟨x, rfl, hx⟩ := one_byte hl1
      have hB2 : Bs b2 := bs_left (bs_right hb)
      have hn := numB_nn b2 hB2
      rw [hl2] at hn
      refine ⟨rfl, ?_, hr⟩
      rw [k1, valB_2]
      rw [hx] at k1
      dsimp only
      have e : wrap64 (numB b2) % 18446744073709551616 = numB b2 := by
        have h2 : numB b2 < 18446744073709551616 := hn.2
        unfold wrap64
        omega
      rw [e, k1]
      have := leB_numB b2 hB2
      rw [hl2] at this
      rw [this]
      rfl
    · split at hm
      · rename_i k1
        simp only [Prod.mk.injEq] at hm
        obtain ⟨rfl, rfl, rfl, hz⟩ := hm
        obtain ⟨b2, r2, f2, ht2⟩ : ∃ b2 r2 f2, textP r1 f1 4096 = (b2, r2, f2) := ⟨_, _, _, rfl⟩
        rw [ht2] at hz hr ⊢
        simp only [Prod.mk.injEq] at hz
        obtain ⟨rfl, rfl⟩ := hz
        have hb1 := takeP_bs1 ht hb
        obtain ⟨rfl, rfl, hB2⟩ := textP_ok hb1.2.1 ht2
        obtain ⟨rfl, rfl, hl1⟩ := takeP_ok ht
        obtain ⟨x, rfl, hx⟩ := one_byte hl1
        refine ⟨rfl, ?_, hr⟩
        rw [k1, valB_3]
        rw [hx] at k1
        dsimp only
        rw [bytes_str b2 hB2, k1, strOfNums_size]
        simp
      · rename_i k1 k2 k3
        simp only [Prod.mk.injEq] at hm
        obtain ⟨rfl, rfl, rfl, hz⟩ := hm
        obtain ⟨rfl, rfl⟩ := hz
        obtain ⟨rfl, rfl, hl1⟩ := takeP_ok ht
        obtain ⟨x, rfl, hx⟩ := one_byte hl1
        have hx0 : x = 0 := by
          rw [rightV_eq] at hr
          unfold rightV at hr
          by_cases c : numB [x] = 0
          · rw [← hx]; exact c
          · rw [if_neg c, if_neg k1, if_neg k2, if_neg k3] at hr
            cases hr
        subst hx0
        rw [hx] at hr ⊢
        refine ⟨rfl, ?_, hr⟩
        rw [valB_0 _ _ _ (by decide) (by decide) (by decide)]
        rfl
theorem vals_ok : ∀ (n : Nat) (xs ys : List Int) (f : Int) (l : List S54), Bs xs → vals n xs f = (l, ys, 0) → f = 0 ∧ xs = vbs l ++ ys ∧ l.length = n ∧ l.all rightS = true
  | 0, xs, ys, f, l, _, h => by
    simp only [vals, Prod.mk.injEq] at h
    obtain ⟨rfl, rfl, rfl⟩ := h
    exact ⟨rfl, by simp [vbs], rfl, rfl⟩
  | n + 1, xs, ys, f, l, hb, h => by
    by_cases hf : f = 0
    · subst hf
      rw [vals_go] at h
      obtain ⟨⟨k, m, s⟩, r, f', hv⟩ : ∃ a r f', valueP xs 0 = (a, r, f') := ⟨_, _, _, rfl⟩
      obtain ⟨l', z, f'', hw⟩ : ∃ l' z f'', vals n (valueP xs 0).2.1 (valueP xs 0).2.2 = (l', z, f'') := ⟨_, _, _, rfl⟩
      rw [hw] at h
      simp only [Prod.mk.injEq] at h
      obtain ⟨rfl, rfl, rfl⟩ := h
      have hvb := (valueP_bs xs 0 hb).1
      have ih := vals_ok n _ _ _ _ hvb hw
      rw [hv] at ih
      dsimp only at ih
      obtain ⟨rfl, hr, hl, ha⟩ := ih
      obtain ⟨_, e1, e2⟩ := valueP_ok hb hv
      have hvs : valS xs 0 = ⟨k, m, s⟩ := by unfold valS; rw [hv]
      rw [hvs]
      refine ⟨rfl, ?_, by simp [hl], ?_⟩
      · rw [e1, hr]
        simp [vbs]
      · rw [List.all_cons, ha, Bool.and_true]
        show rightV k m s = true
        rw [← rightV_eq]; exact e2
    · rw [vals_bad _ _ _ hf] at h
      simp only [Prod.mk.injEq] at h
      exact absurd h.2.2 hf
/-- A reply's bytes. -/
def repB (e h g : Int) (l : List S54) : List Int := if e = 0 then headB h g l.length ++ vbs l else [e]
theorem endP_zero {xs : List Int} {f : Int} (h : endP xs f = 0) : xs = [] ∧ f = 0 := by
  unfold endP at h
  split at h
  · rename_i h0
    split at h
    · exact ⟨‹_›, h0⟩
    · cases h
  · rename_i h0
    exact absurd h h0
theorem repP_ok {xs rest : List Int} {e h g f : Int} {l : List S54} (hb : Bs xs) (hr : repP xs = ((e, h, g, l), rest, f)) (h0 : endP rest f = 0) : xs = repB e h g l ∧ 0 ≤ e ∧ e ≤ 255 ∧ 0 ≤ h ∧ 0 ≤ g ∧ h ≤ 18446744073709551615 ∧ g ≤ 18446744073709551615 := by
  obtain ⟨rfl, rfl⟩ := endP_zero h0
  unfold repP at hr
  obtain ⟨b1, r1, f1, ht⟩ : ∃ b1 r1 f1, takeP xs 0 1 = (b1, r1, f1) := ⟨_, _, _, rfl⟩
  rw [ht] at hr
  dsimp only at hr
  split at hr
  · rename_i hc
    obtain ⟨hc, rfl⟩ := hc
    obtain ⟨b2, r2, f2, ht2⟩ : ∃ b2 r2 f2, takeP r1 0 8 = (b2, r2, f2) := ⟨_, _, _, rfl⟩
    rw [ht2] at hr
    dsimp only at hr
    obtain ⟨b3, r3, f3, ht3⟩ : ∃ b3 r3 f3, takeP r2 f2 8 = (b3, r3, f3) := ⟨_, _, _, rfl⟩
    rw [ht3] at hr
    dsimp only at hr
    obtain ⟨b4, r4, f4, ht4⟩ : ∃ b4 r4 f4, takeP r3 f3 2 = (b4, r4, f4) := ⟨_, _, _, rfl⟩
    rw [ht4] at hr
    dsimp only at hr
    obtain ⟨lv, z, fz, hv⟩ : ∃ lv z fz, vals (numB b4).toNat r4 f4 = (lv, z, fz) := ⟨_, _, _, rfl⟩
    rw [hv] at hr
    simp only [Prod.mk.injEq] at hr
    obtain ⟨⟨rfl, rfl, rfl, rfl⟩, rfl, rfl⟩ := hr
    have q1 := takeP_bs1 ht hb
    have q2 := takeP_bs1 ht2 q1.2.1
    have q3 := takeP_bs1 ht3 q2.2.1
    have q4 := takeP_bs1 ht4 q3.2.1
    obtain ⟨rfl, rfl, hl, ha⟩ := vals_ok _ _ _ _ _ q4.2.1 hv
    obtain ⟨rfl, rfl, l4⟩ := takeP_ok ht4
    obtain ⟨rfl, rfl, l3⟩ := takeP_ok ht3
    obtain ⟨_, rfl, l2⟩ := takeP_ok ht2
    obtain ⟨_, rfl, l1⟩ := takeP_ok ht
    obtain ⟨x, rfl, hx⟩ := one_byte l1
    rw [hx] at hc
    subst hc
    have n2 := numB_nn b2 q2.1
    have n3 := numB_nn b3 q3.1
    have n4 := numB_nn b4 q4.1
    rw [l2] at n2
    rw [l3] at n3
    have n2' : numB b2 < 18446744073709551616 := n2.2
    have n3' : numB b3 < 18446744073709551616 := n3.2
    refine ⟨?_, by omega, by omega, n2.1, n3.1, by omega, by omega⟩
    unfold repB headB
    rw [if_pos rfl]
    have e2 := leB_numB b2 q2.1
    have e3 := leB_numB b3 q3.1
    have e4 := leB_numB b4 q4.1
    rw [l2] at e2
    rw [l3] at e3
    rw [l4] at e4
    rw [show ((lv.length : Nat) : Int) = numB b4 by omega, e2, e3, e4]
    simp
  · rename_i hc
    simp only [Prod.mk.injEq] at hr
    obtain ⟨⟨rfl, rfl, rfl, rfl⟩, rfl, rfl⟩ := hr
    obtain ⟨_, e1, l1⟩ := takeP_ok ht
    obtain ⟨x, rfl, hx⟩ := one_byte l1
    have hxb := hb x (by rw [e1]; simp)
    have hx0 : x ≠ 0 := fun h => hc ⟨by rw [hx]; exact h, rfl⟩
    rw [hx]
    refine ⟨?_, hxb.1, hxb.2, by omega, by omega, by omega, by omega⟩
    unfold repB
    rw [if_neg hx0, e1]
    rfl
end Go.Proofs.Ytaoacibahdbdkaa.Rep
