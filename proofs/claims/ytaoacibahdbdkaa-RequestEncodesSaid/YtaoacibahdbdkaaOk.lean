/- Texts of this claim, laid together: ReqM. -/
import Derived.Test.YtaoacibahdbdkaaOd
import Derived.Test.YtaoacibahdbdkaaOc
/-! request: the reference's Encode, as a contract. Printed by wip/tools/gen_reqm.py. -/
namespace Go.Proofs.Ytaoacibahdbdkaa.Req
open Go.RowKit Go Go.Proofs.Ytaoacibahdbdkaa.QRequestParses Go.Proofs.YtaoacibahdbdkaaW.PrintWords Go.Proofs.YtaoacibahdbdkaaW.PrintLast Go.Proofs.YtaoacibahdbdkaaW.PrintMore Go.Proofs.Ytaoacibahdbdkaa.Fra Go.Proofs.Ytaoacibahdbdkaa.Pk Go.Proofs.Ytaoacibahdbdkaa.Bts Go.Proofs.Ytaoacibahdbdkaa.Pr Go.Proofs.Ytaoacibahdbdkaa.Rep
/-- The bytes, as the document has them. -/
def encR (q : Q) : List Int := [q.k] ++ encP (if okK q.k then partsOf q.k else [.handle]) q
theorem encR_ok {q : Q} (h : okK q.k = true) : encR q = encB q := by unfold encR encB; rw [h, if_pos rfl]
structure AQ (w W : World) (q : Q) (v : Value) (xs : List Int) : Prop where
  row : Kd.R (Kd.int .u8) 5 W (w.heap.size + 1) (fun k => w.heap.size + 1 ≤ k) v xs
  box : QF W w.heap.size q
  bel : Below w.heap.size w W
theorem AQ.below {w W W' : World} {q : Q} {v : Value} {xs : List Int} (H : AQ w W q v xs) (hb : Below W.heap.size W W') : AQ w W' q v xs :=
  ⟨Kd.R_below H.row hb, blk_below H.box hb, below_step H.bel hb⟩
theorem AQ.grown {w W W' : World} {q : Q} {v v' : Value} {xs ys : List Int} (H : AQ w W q v xs) (hr : Kd.R (Kd.int .u8) 5 W' (w.heap.size + 1) (fun k => w.heap.size + 1 ≤ k) v' ys) (hg' : W.grownBy W' v.ownBlock) : AQ w W' q v' ys :=
  ⟨hr, blk_grown H.box hg' (fun e => by have := H.row.1 _ e.symm; omega), fr_below (S := fun k => some k = v.ownBlock) H.bel ⟨hg'.os, hg'.tape, hg'.output, hg'.size, fun i hi hn => hg'.block i hi hn⟩ (fun k hk => by have := H.row.1 _ hk.symm; omega) (Nat.le_refl _)⟩
theorem AQ.made {w W : World} {q : Q} {v : Value} {xs : List Int} (H : AQ w W q v xs) : Made w W v xs := ⟨own_weaken (Kd.own_of_R H.row) (Nat.le_succ _), H.bel⟩
theorem AQ.lt {w W : World} {q : Q} {v : Value} {xs : List Int} (H : AQ w W q v xs) : w.heap.size + 1 ≤ W.heap.size := blk_lt H.box
theorem aq_start (w : World) (q : Q) : AQ w ((w.alloc (.cells q.cells 110)).alloc (.cells #[.int .u8 q.k] 5)) q (.slice (some ⟨w.heap.size + 1, 0, none⟩) 1 1) [q.k] := by
  have h1 := own_one (w.alloc (.cells q.cells 110)) q.k (base := w.heap.size + 1) (by simp)
  rw [World.size_alloc] at h1
  exact ⟨Kd.R_of_own h1 (fun k hk => by cases hk; exact Nat.le_refl _), blk_alloc (blk_new w _) _, below_alloc (below_alloc (Below.refl _ _) _) _⟩
theorem rnum (z : Nat) (n : Int) (w : World) (h0 : 0 ≤ n) (h1 : n ≤ 18446744073709551615) (hz : z ≤ 8) :
    Calls Try.prog 70 #[.int .u64 n, .int .i64 z] w fun e w' => ∃ A c, e = .returned (.slice A z c) ∧ Kd.C (Kd.int .u8) w' A z (leB n z) ∧ Below w.heap.size w w' := by
  refine (QPackedPuts.easementref02_Number.calls 10 n z _ _ (refNum n h0 h1 z hz)).mono ?_
  rintro e w' ⟨v, rfl, hR, hB⟩
  obtain ⟨A, c, rfl, hc, hC⟩ := Kd.R_reads hR
  rw [leB_length] at hC ⊢
  exact ⟨A, c, rfl, hC, hB⟩
theorem rnum8 (n : Int) (w : World) (h0 : 0 ≤ n) (h1 : n ≤ 18446744073709551615) : Calls Try.prog 70 #[.int .u64 n, .int .i64 8] w fun e w' => ∃ A c, e = .returned (.slice A 8 c) ∧ Kd.C (Kd.int .u8) w' A 8 (leB n 8) ∧ Below w.heap.size w w' := rnum 8 n w h0 h1 (by omega)
theorem rnum4 (n : Int) (w : World) (h0 : 0 ≤ n) (h1 : n ≤ 18446744073709551615) : Calls Try.prog 70 #[.int .u64 n, .int .i64 4] w fun e w' => ∃ A c, e = .returned (.slice A 4 c) ∧ Kd.C (Kd.int .u8) w' A 4 (leB n 4) ∧ Below w.heap.size w w' := rnum 4 n w h0 h1 (by omega)
theorem rnum2 (n : Int) (w : World) (h0 : 0 ≤ n) (h1 : n ≤ 18446744073709551615) : Calls Try.prog 70 #[.int .u64 n, .int .i64 2] w fun e w' => ∃ A c, e = .returned (.slice A 2 c) ∧ Kd.C (Kd.int .u8) w' A 2 (leB n 2) ∧ Below w.heap.size w w' := rnum 2 n w h0 h1 (by omega)
theorem rval (k n : Int) (s : ByteArray) (w : World) (h0 : 0 ≤ k) (h1 : k ≤ 255) (hs : s.size ≤ 10000) :
    Calls Try.prog 72 #[.agg #[.int .u8 k, .int .i64 n, .string s]] w fun e w' => ∃ A c, e = .returned (.slice A (valB k n s).length c) ∧ Kd.C (Kd.int .u8) w' A (valB k n s).length (valB k n s) ∧ Below w.heap.size w w' := by
  refine (QPackedPuts.easementref02_Value.calls 10 k n s _ _ (refValue k n s h0 h1 (by omega))).mono ?_
  rintro e w' ⟨v, rfl, hR, hB⟩
  obtain ⟨A, c, rfl, hc, hC⟩ := Kd.R_reads hR
  exact ⟨A, c, rfl, hC, hB⟩
theorem one_C (W : World) (c : Int) : (Kd.int .u8).C (W.alloc (.cells #[.int .u8 c] 5)) (some ⟨W.heap.size, 0, none⟩) 1 [c] := by
  obtain ⟨A, c', e, _, _, h⟩ := SlR.C (xs := [c]) (SlR.of_own (own_lit W W.heap.size 5 .u8 [c] (Nat.le_refl _) (by simp))) (by simp)
  cases e
  exact h
theorem slice3 {α : Type} {d : Kd α} {e : TypeId} {w : World} {base : Nat} {ok : Nat → Prop} {v : Value} {xs : List α} (h : d.R e w base ok v xs) : ∃ A n c, v = .slice A n c := by
  obtain ⟨A, c, h⟩ := Kd.R_slice h
  exact ⟨A, _, c, h⟩
theorem one_D (W : World) (c : Int) (n : Nat) (hn : W.heap.size = n) : (Kd.int .u8).C (W.alloc (.cells #[.int .u8 c] 5)) (some ⟨n, 0, none⟩) 1 [c] := by subst hn; exact one_C W c
abbrev REncPost (w : World) (q : Q) (e : Ending) (w' : World) : Prop := ∃ v, e = .returned v ∧ Made w w' v (encR q)
set_option maxHeartbeats 8000000 in
set_option maxRecDepth 100000 in
theorem renc_1 (q : Q) (w : World) (ok : Ok q) (hk : q.k = 1) :
    Calls Try.prog 59 #[.agg q.cells] w (REncPost w q) := by
  have HVK := Lib.hid (valB_len q.kk q.kn q.ks)
  have HVV := Lib.hid (valB_len q.vk q.vn q.vs)
  have HS := Lib.hid (aq_start w q)
  obtain ⟨k, hh, hl, o, c, kk, kn, ks, vk, vn, vs, fr, n, tw, ri, oh, ol⟩ := q
  obtain ⟨k0, k1, hh0, hh1, hl0, hl1, o0, o1, c0, c1, kk0, kk1, kn0, kn1, ks0, vk0, vk1, vn0, vn1, vs0, fr0, fr1, n0, n1, tw0, tw1, ri0, ri1, oh0, oh1, ol0, ol1⟩ := ok
  simp only at k0 k1 hh0 hh1 hl0 hl1 o0 o1 c0 c1 kk0 kk1 kn0 kn1 ks0 vk0 vk1 vn0 vn1 vs0 fr0 fr1 n0 n1 tw0 tw1 ri0 ri1 oh0 oh1 ol0 ol1
  have HVK : Hid ((valB kk kn ks).length ≤ 9 + ks.size) := HVK
  have HVV : Hid ((valB vk vn vs).length ≤ 9 + vs.size) := HVV
  have et : tw % 18446744073709551616 = tw := by omega
  simp only at hk
  subst hk
  have H0 := Lib.hid (show AQ w ((w.alloc (.cells #[.int .u8 1, .int .u64 hh, .int .u64 hl, .int .u8 o, .int .u8 c, .int .u8 kk, .int .i64 kn, .string ks, .int .u8 vk, .int .i64 vn, .string vs, .int .i64 fr, .int .i64 n, .int .u32 tw, .int .u8 ri, .int .u64 oh, .int .u64 ol] 110)).alloc (.cells #[.int .u8 1] 5)) ⟨1, hh, hl, o, c, kk, kn, ks, vk, vn, vs, fr, n, tw, ri, oh, ol⟩ (.slice (some ⟨w.heap.size + 1, 0, none⟩) 1 1) [1] from HS.out)
  clear HS
  go_enter Try.func59, Try.ntmps59
  go_wp2_with (first
    | (at_builtin; go_loud (have _t := H0.out; refine Kd.R_append_rows (Kd.int .u8) (Rr := (Kd.int .u8).K _) (w0 := _) (w.heap.size + 1) rfl (.tmp 10) (.tmp 13) 56 5 (.int .u8 0) 1 rfl Try.underlying56 Pk.infoByte rfl (by decide) (by decide) _ ([1]) ([o]) (some ⟨_, 0, none⟩) 1 1 (fun k => w.heap.size + 1 ≤ k) (fun _ => False) rfl rfl (Kd.R_below H0.out.row (below_alloc (Below.refl _ _) _)) (one_D _ o _ (by first | rfl | simp)) (fun _ _ h => h) (fun _ h => h.elim) (fun k hk => Nat.le_trans (H0.out.below (below_alloc (Below.refl _ _) _)).lt hk) (Below.refl _ _) (H0.out.below (below_alloc (Below.refl _ _) _)).lt (by have := HVK.out; have := HVV.out; simp only [List.length_append, leB_length, List.length_cons, List.length_nil]; omega) ?_; intro va0 W0 hRa0 _ hga0 _; have H1 := Lib.hid ((H0.out.below (below_alloc (Below.refl _ _) _)).grown hRa0 hga0); have p0 := blk_cell H1.out.box 0; obtain ⟨As0, ls0, cs0, rfl⟩ := slice3 hRa0; clear hRa0 hga0)))
  go_ret
  have e : encR ⟨1, hh, hl, o, c, kk, kn, ks, vk, vn, vs, fr, n, tw, ri, oh, ol⟩ = [1] ++ [o] := by
    have m0 : leB o 1 = [o] := by rw [leB_one, show o % 256 = o by omega]
    show [1] ++ encP [.kind] ⟨1, hh, hl, o, c, kk, kn, ks, vk, vn, vs, fr, n, tw, ri, oh, ol⟩ = _
    simp only [encP, pB, List.flatMap_cons, List.flatMap_nil, List.append_nil, List.append_assoc, m0]
  exact ⟨_, rfl, by rw [e]; exact H1.out.made⟩
set_option maxHeartbeats 8000000 in
set_option maxRecDepth 100000 in
theorem renc_4 (q : Q) (w : World) (ok : Ok q) (hk : q.k ≠ 1 ∧ q.k ≠ 2 ∧ q.k ≠ 3 ∧ q.k ≠ 5 ∧ q.k ≠ 7 ∧ q.k ≠ 8) :
    Calls Try.prog 59 #[.agg q.cells] w (REncPost w q) := by
  have HVK := Lib.hid (valB_len q.kk q.kn q.ks)
  have HVV := Lib.hid (valB_len q.vk q.vn q.vs)
  have HS := Lib.hid (aq_start w q)
  obtain ⟨k, hh, hl, o, c, kk, kn, ks, vk, vn, vs, fr, n, tw, ri, oh, ol⟩ := q
  obtain ⟨k0, k1, hh0, hh1, hl0, hl1, o0, o1, c0, c1, kk0, kk1, kn0, kn1, ks0, vk0, vk1, vn0, vn1, vs0, fr0, fr1, n0, n1, tw0, tw1, ri0, ri1, oh0, oh1, ol0, ol1⟩ := ok
  simp only at k0 k1 hh0 hh1 hl0 hl1 o0 o1 c0 c1 kk0 kk1 kn0 kn1 ks0 vk0 vk1 vn0 vn1 vs0 fr0 fr1 n0 n1 tw0 tw1 ri0 ri1 oh0 oh1 ol0 ol1
  have HVK : Hid ((valB kk kn ks).length ≤ 9 + ks.size) := HVK
  have HVV : Hid ((valB vk vn vs).length ≤ 9 + vs.size) := HVV
  have et : tw % 18446744073709551616 = tw := by omega
  simp only at hk
  have HP := Lib.hid (show (if okK k then partsOf k else [.handle]) = [.handle] by
    unfold partsOf
    rw [if_neg hk.1, if_neg hk.2.1, if_neg (show ¬ (k = 3 ∨ k = 5) by omega), if_neg hk.2.2.2.2.1, if_neg hk.2.2.2.2.2]
    split
    · rename_i h1
      unfold okK at h1
      simp only [Bool.and_eq_true, decide_eq_true_eq] at h1
      rw [if_pos (show k = 4 ∨ k = 6 ∨ k = 9 ∨ k = 10 by omega)]
    · rfl)
  have b1 : (k == 1) = false := by rw [beq_eq_false_iff_ne]; omega
  have b2 : (k == 2) = false := by rw [beq_eq_false_iff_ne]; omega
  have b3 : (k == 3) = false := by rw [beq_eq_false_iff_ne]; omega
  have b5 : (k == 5) = false := by rw [beq_eq_false_iff_ne]; omega
  have b7 : (k == 7) = false := by rw [beq_eq_false_iff_ne]; omega
  have b8 : (k == 8) = false := by rw [beq_eq_false_iff_ne]; omega
  clear hk
  have H0 := Lib.hid (show AQ w ((w.alloc (.cells #[.int .u8 k, .int .u64 hh, .int .u64 hl, .int .u8 o, .int .u8 c, .int .u8 kk, .int .i64 kn, .string ks, .int .u8 vk, .int .i64 vn, .string vs, .int .i64 fr, .int .i64 n, .int .u32 tw, .int .u8 ri, .int .u64 oh, .int .u64 ol] 110)).alloc (.cells #[.int .u8 k] 5)) ⟨k, hh, hl, o, c, kk, kn, ks, vk, vn, vs, fr, n, tw, ri, oh, ol⟩ (.slice (some ⟨w.heap.size + 1, 0, none⟩) 1 1) [k] from HS.out)
  clear HS
  go_enter Try.func59, Try.ntmps59
  go_wp2_with (first
    | (at_builtin; go_loud (have _t := HC1.out; refine Kd.R_append_rows (Kd.int .u8) (Rr := (Kd.int .u8).K _) (w0 := _) (w.heap.size + 1) rfl (.tmp 21) (.tmp 25) 56 5 (.int .u8 0) 1 rfl Try.underlying56 Pk.infoByte rfl (by decide) (by decide) _ ([k] ++ leB hh 8) (leB hl 8) Aa1 8 ca1 (fun k => w.heap.size + 1 ≤ k) (fun _ => False) rfl rfl HB1.out.row HC1.out (fun _ _ h => h) (fun _ h => h.elim) (fun k hk => Nat.le_trans HB1.out.lt hk) (Below.refl _ _) HB1.out.lt (by have := HVK.out; have := HVV.out; simp only [List.length_append, leB_length, List.length_cons, List.length_nil]; omega) ?_; intro va1 W1 hRa1 _ hga1 _; have H2 := Lib.hid (HB1.out.grown hRa1 hga1); have p0 := blk_cell H2.out.box 0; obtain ⟨As1, ls1, cs1, rfl⟩ := slice3 hRa1; clear hRa1 hga1))
    | (go_at_call 70; go_loud (have _t := H1.out; refine (rnum8 hl _ (by omega) (by omega)).mono ?_; rintro en wa1 ⟨Aa1, ca1, rfl, hCa1, hBa1⟩; have HB1 := Lib.hid (H1.out.below hBa1); have HC1 := Lib.hid hCa1; clear hCa1 hBa1))
    | (at_builtin; go_loud (have _t := HC0.out; refine Kd.R_append_rows (Kd.int .u8) (Rr := (Kd.int .u8).K _) (w0 := _) (w.heap.size + 1) rfl (.tmp 15) (.tmp 19) 56 5 (.int .u8 0) 1 rfl Try.underlying56 Pk.infoByte rfl (by decide) (by decide) _ ([k]) (leB hh 8) Aa0 8 ca0 (fun k => w.heap.size + 1 ≤ k) (fun _ => False) rfl rfl HB0.out.row HC0.out (fun _ _ h => h) (fun _ h => h.elim) (fun k hk => Nat.le_trans HB0.out.lt hk) (Below.refl _ _) HB0.out.lt (by have := HVK.out; have := HVV.out; simp only [List.length_append, leB_length, List.length_cons, List.length_nil]; omega) ?_; intro va0 W0 hRa0 _ hga0 _; have H1 := Lib.hid (HB0.out.grown hRa0 hga0); have p0 := blk_cell H1.out.box 0; have p2 := blk_cell H1.out.box 2; obtain ⟨As0, ls0, cs0, rfl⟩ := slice3 hRa0; clear hRa0 hga0))
    | (go_at_call 70; go_loud (have _t := H0.out; refine (rnum8 hh _ (by omega) (by omega)).mono ?_; rintro en wa0 ⟨Aa0, ca0, rfl, hCa0, hBa0⟩; have HB0 := Lib.hid (H0.out.below hBa0); have HC0 := Lib.hid hCa0; clear hCa0 hBa0)))
  go_ret
  have e : encR ⟨k, hh, hl, o, c, kk, kn, ks, vk, vn, vs, fr, n, tw, ri, oh, ol⟩ = [k] ++ leB hh 8 ++ leB hl 8 := by
    unfold encR
    dsimp only
    rw [HP.out]
    simp only [encP, pB, List.flatMap_cons, List.flatMap_nil, List.append_nil, List.append_assoc]
  exact ⟨_, rfl, by rw [e]; exact H2.out.made⟩
set_option maxHeartbeats 8000000 in
set_option maxRecDepth 100000 in
theorem renc_7 (q : Q) (w : World) (ok : Ok q) (hk : q.k = 7) :
    Calls Try.prog 59 #[.agg q.cells] w (REncPost w q) := by
  have HVK := Lib.hid (valB_len q.kk q.kn q.ks)
  have HVV := Lib.hid (valB_len q.vk q.vn q.vs)
  have HS := Lib.hid (aq_start w q)
  obtain ⟨k, hh, hl, o, c, kk, kn, ks, vk, vn, vs, fr, n, tw, ri, oh, ol⟩ := q
  obtain ⟨k0, k1, hh0, hh1, hl0, hl1, o0, o1, c0, c1, kk0, kk1, kn0, kn1, ks0, vk0, vk1, vn0, vn1, vs0, fr0, fr1, n0, n1, tw0, tw1, ri0, ri1, oh0, oh1, ol0, ol1⟩ := ok
  simp only at k0 k1 hh0 hh1 hl0 hl1 o0 o1 c0 c1 kk0 kk1 kn0 kn1 ks0 vk0 vk1 vn0 vn1 vs0 fr0 fr1 n0 n1 tw0 tw1 ri0 ri1 oh0 oh1 ol0 ol1
  have HVK : Hid ((valB kk kn ks).length ≤ 9 + ks.size) := HVK
  have HVV : Hid ((valB vk vn vs).length ≤ 9 + vs.size) := HVV
  have et : tw % 18446744073709551616 = tw := by omega
  simp only at hk
  subst hk
  have H0 := Lib.hid (show AQ w ((w.alloc (.cells #[.int .u8 7, .int .u64 hh, .int .u64 hl, .int .u8 o, .int .u8 c, .int .u8 kk, .int .i64 kn, .string ks, .int .u8 vk, .int .i64 vn, .string vs, .int .i64 fr, .int .i64 n, .int .u32 tw, .int .u8 ri, .int .u64 oh, .int .u64 ol] 110)).alloc (.cells #[.int .u8 7] 5)) ⟨7, hh, hl, o, c, kk, kn, ks, vk, vn, vs, fr, n, tw, ri, oh, ol⟩ (.slice (some ⟨w.heap.size + 1, 0, none⟩) 1 1) [7] from HS.out)
  clear HS
  go_enter Try.func59, Try.ntmps59
  go_wp2_with (first
    | (at_builtin; go_loud (have _t := H3.out; refine Kd.R_append_rows (Kd.int .u8) (Rr := (Kd.int .u8).K _) (w0 := _) (w.heap.size + 1) rfl (.tmp 86) (.tmp 89) 56 5 (.int .u8 0) 1 rfl Try.underlying56 Pk.infoByte rfl (by decide) (by decide) _ ([7] ++ leB hh 8 ++ leB hl 8 ++ leB tw 4) ([ri]) (some ⟨_, 0, none⟩) 1 1 (fun k => w.heap.size + 1 ≤ k) (fun _ => False) rfl rfl (Kd.R_below H3.out.row (below_alloc (Below.refl _ _) _)) (one_D _ ri _ (by first | rfl | simp)) (fun _ _ h => h) (fun _ h => h.elim) (fun k hk => Nat.le_trans (H3.out.below (below_alloc (Below.refl _ _) _)).lt hk) (Below.refl _ _) (H3.out.below (below_alloc (Below.refl _ _) _)).lt (by have := HVK.out; have := HVV.out; simp only [List.length_append, leB_length, List.length_cons, List.length_nil]; omega) ?_; intro va3 W3 hRa3 _ hga3 _; have H4 := Lib.hid ((H3.out.below (below_alloc (Below.refl _ _) _)).grown hRa3 hga3); have p0 := blk_cell H4.out.box 0; obtain ⟨As3, ls3, cs3, rfl⟩ := slice3 hRa3; clear hRa3 hga3))
    | (at_builtin; go_loud (have _t := HC2.out; refine Kd.R_append_rows (Kd.int .u8) (Rr := (Kd.int .u8).K _) (w0 := _) (w.heap.size + 1) rfl (.tmp 80) (.tmp 84) 56 5 (.int .u8 0) 1 rfl Try.underlying56 Pk.infoByte rfl (by decide) (by decide) _ ([7] ++ leB hh 8 ++ leB hl 8) (leB tw 4) Aa2 4 ca2 (fun k => w.heap.size + 1 ≤ k) (fun _ => False) rfl rfl HB2.out.row HC2.out (fun _ _ h => h) (fun _ h => h.elim) (fun k hk => Nat.le_trans HB2.out.lt hk) (Below.refl _ _) HB2.out.lt (by have := HVK.out; have := HVV.out; simp only [List.length_append, leB_length, List.length_cons, List.length_nil]; omega) ?_; intro va2 W2 hRa2 _ hga2 _; have H3 := Lib.hid (HB2.out.grown hRa2 hga2); have p0 := blk_cell H3.out.box 0; have p14 := blk_cell H3.out.box 14; obtain ⟨As2, ls2, cs2, rfl⟩ := slice3 hRa2; clear hRa2 hga2))
    | (go_at_call 70; go_loud (have _t := H2.out; refine (rnum4 tw _ (by omega) (by omega)).mono ?_; rintro en wa2 ⟨Aa2, ca2, rfl, hCa2, hBa2⟩; have HB2 := Lib.hid (H2.out.below hBa2); have HC2 := Lib.hid hCa2; clear hCa2 hBa2))
    | (at_builtin; go_loud (have _t := HC1.out; refine Kd.R_append_rows (Kd.int .u8) (Rr := (Kd.int .u8).K _) (w0 := _) (w.heap.size + 1) rfl (.tmp 21) (.tmp 25) 56 5 (.int .u8 0) 1 rfl Try.underlying56 Pk.infoByte rfl (by decide) (by decide) _ ([7] ++ leB hh 8) (leB hl 8) Aa1 8 ca1 (fun k => w.heap.size + 1 ≤ k) (fun _ => False) rfl rfl HB1.out.row HC1.out (fun _ _ h => h) (fun _ h => h.elim) (fun k hk => Nat.le_trans HB1.out.lt hk) (Below.refl _ _) HB1.out.lt (by have := HVK.out; have := HVV.out; simp only [List.length_append, leB_length, List.length_cons, List.length_nil]; omega) ?_; intro va1 W1 hRa1 _ hga1 _; have H2 := Lib.hid (HB1.out.grown hRa1 hga1); have p0 := blk_cell H2.out.box 0; have p13 := blk_cell H2.out.box 13; obtain ⟨As1, ls1, cs1, rfl⟩ := slice3 hRa1; clear hRa1 hga1))
    | (go_at_call 70; go_loud (have _t := H1.out; refine (rnum8 hl _ (by omega) (by omega)).mono ?_; rintro en wa1 ⟨Aa1, ca1, rfl, hCa1, hBa1⟩; have HB1 := Lib.hid (H1.out.below hBa1); have HC1 := Lib.hid hCa1; clear hCa1 hBa1))
    | (at_builtin; go_loud (have _t := HC0.out; refine Kd.R_append_rows (Kd.int .u8) (Rr := (Kd.int .u8).K _) (w0 := _) (w.heap.size + 1) rfl (.tmp 15) (.tmp 19) 56 5 (.int .u8 0) 1 rfl Try.underlying56 Pk.infoByte rfl (by decide) (by decide) _ ([7]) (leB hh 8) Aa0 8 ca0 (fun k => w.heap.size + 1 ≤ k) (fun _ => False) rfl rfl HB0.out.row HC0.out (fun _ _ h => h) (fun _ h => h.elim) (fun k hk => Nat.le_trans HB0.out.lt hk) (Below.refl _ _) HB0.out.lt (by have := HVK.out; have := HVV.out; simp only [List.length_append, leB_length, List.length_cons, List.length_nil]; omega) ?_; intro va0 W0 hRa0 _ hga0 _; have H1 := Lib.hid (HB0.out.grown hRa0 hga0); have p0 := blk_cell H1.out.box 0; have p2 := blk_cell H1.out.box 2; obtain ⟨As0, ls0, cs0, rfl⟩ := slice3 hRa0; clear hRa0 hga0))
    | (go_at_call 70; go_loud (have _t := H0.out; refine (rnum8 hh _ (by omega) (by omega)).mono ?_; rintro en wa0 ⟨Aa0, ca0, rfl, hCa0, hBa0⟩; have HB0 := Lib.hid (H0.out.below hBa0); have HC0 := Lib.hid hCa0; clear hCa0 hBa0)))
  go_ret
  have e : encR ⟨7, hh, hl, o, c, kk, kn, ks, vk, vn, vs, fr, n, tw, ri, oh, ol⟩ = [7] ++ leB hh 8 ++ leB hl 8 ++ leB tw 4 ++ [ri] := by
    have m0 : leB ri 1 = [ri] := by rw [leB_one, show ri % 256 = ri by omega]
    show [7] ++ encP [.handle, .gift] ⟨7, hh, hl, o, c, kk, kn, ks, vk, vn, vs, fr, n, tw, ri, oh, ol⟩ = _
    simp only [encP, pB, List.flatMap_cons, List.flatMap_nil, List.append_nil, List.append_assoc, m0]
  exact ⟨_, rfl, by rw [e]; exact H4.out.made⟩
set_option maxHeartbeats 8000000 in
set_option maxRecDepth 100000 in
theorem renc_8 (q : Q) (w : World) (ok : Ok q) (hk : q.k = 8) :
    Calls Try.prog 59 #[.agg q.cells] w (REncPost w q) := by
  have HVK := Lib.hid (valB_len q.kk q.kn q.ks)
  have HVV := Lib.hid (valB_len q.vk q.vn q.vs)
  have HS := Lib.hid (aq_start w q)
  obtain ⟨k, hh, hl, o, c, kk, kn, ks, vk, vn, vs, fr, n, tw, ri, oh, ol⟩ := q
  obtain ⟨k0, k1, hh0, hh1, hl0, hl1, o0, o1, c0, c1, kk0, kk1, kn0, kn1, ks0, vk0, vk1, vn0, vn1, vs0, fr0, fr1, n0, n1, tw0, tw1, ri0, ri1, oh0, oh1, ol0, ol1⟩ := ok
  simp only at k0 k1 hh0 hh1 hl0 hl1 o0 o1 c0 c1 kk0 kk1 kn0 kn1 ks0 vk0 vk1 vn0 vn1 vs0 fr0 fr1 n0 n1 tw0 tw1 ri0 ri1 oh0 oh1 ol0 ol1
  have HVK : Hid ((valB kk kn ks).length ≤ 9 + ks.size) := HVK
  have HVV : Hid ((valB vk vn vs).length ≤ 9 + vs.size) := HVV
  have et : tw % 18446744073709551616 = tw := by omega
  simp only at hk
  subst hk
  have H0 := Lib.hid (show AQ w ((w.alloc (.cells #[.int .u8 8, .int .u64 hh, .int .u64 hl, .int .u8 o, .int .u8 c, .int .u8 kk, .int .i64 kn, .string ks, .int .u8 vk, .int .i64 vn, .string vs, .int .i64 fr, .int .i64 n, .int .u32 tw, .int .u8 ri, .int .u64 oh, .int .u64 ol] 110)).alloc (.cells #[.int .u8 8] 5)) ⟨8, hh, hl, o, c, kk, kn, ks, vk, vn, vs, fr, n, tw, ri, oh, ol⟩ (.slice (some ⟨w.heap.size + 1, 0, none⟩) 1 1) [8] from HS.out)
  clear HS
  go_enter Try.func59, Try.ntmps59
  go_wp2_with (first
    | (at_builtin; go_loud (have _t := HC3.out; refine Kd.R_append_rows (Kd.int .u8) (Rr := (Kd.int .u8).K _) (w0 := _) (w.heap.size + 1) rfl (.tmp 99) (.tmp 103) 56 5 (.int .u8 0) 1 rfl Try.underlying56 Pk.infoByte rfl (by decide) (by decide) _ ([8] ++ leB hh 8 ++ leB hl 8 ++ leB oh 8) (leB ol 8) Aa3 8 ca3 (fun k => w.heap.size + 1 ≤ k) (fun _ => False) rfl rfl HB3.out.row HC3.out (fun _ _ h => h) (fun _ h => h.elim) (fun k hk => Nat.le_trans HB3.out.lt hk) (Below.refl _ _) HB3.out.lt (by have := HVK.out; have := HVV.out; simp only [List.length_append, leB_length, List.length_cons, List.length_nil]; omega) ?_; intro va3 W3 hRa3 _ hga3 _; have H4 := Lib.hid (HB3.out.grown hRa3 hga3); have p0 := blk_cell H4.out.box 0; obtain ⟨As3, ls3, cs3, rfl⟩ := slice3 hRa3; clear hRa3 hga3))
    | (go_at_call 70; go_loud (have _t := H3.out; refine (rnum8 ol _ (by omega) (by omega)).mono ?_; rintro en wa3 ⟨Aa3, ca3, rfl, hCa3, hBa3⟩; have HB3 := Lib.hid (H3.out.below hBa3); have HC3 := Lib.hid hCa3; clear hCa3 hBa3))
    | (at_builtin; go_loud (have _t := HC2.out; refine Kd.R_append_rows (Kd.int .u8) (Rr := (Kd.int .u8).K _) (w0 := _) (w.heap.size + 1) rfl (.tmp 93) (.tmp 97) 56 5 (.int .u8 0) 1 rfl Try.underlying56 Pk.infoByte rfl (by decide) (by decide) _ ([8] ++ leB hh 8 ++ leB hl 8) (leB oh 8) Aa2 8 ca2 (fun k => w.heap.size + 1 ≤ k) (fun _ => False) rfl rfl HB2.out.row HC2.out (fun _ _ h => h) (fun _ h => h.elim) (fun k hk => Nat.le_trans HB2.out.lt hk) (Below.refl _ _) HB2.out.lt (by have := HVK.out; have := HVV.out; simp only [List.length_append, leB_length, List.length_cons, List.length_nil]; omega) ?_; intro va2 W2 hRa2 _ hga2 _; have H3 := Lib.hid (HB2.out.grown hRa2 hga2); have p0 := blk_cell H3.out.box 0; have p16 := blk_cell H3.out.box 16; obtain ⟨As2, ls2, cs2, rfl⟩ := slice3 hRa2; clear hRa2 hga2))
    | (go_at_call 70; go_loud (have _t := H2.out; refine (rnum8 oh _ (by omega) (by omega)).mono ?_; rintro en wa2 ⟨Aa2, ca2, rfl, hCa2, hBa2⟩; have HB2 := Lib.hid (H2.out.below hBa2); have HC2 := Lib.hid hCa2; clear hCa2 hBa2))
    | (at_builtin; go_loud (have _t := HC1.out; refine Kd.R_append_rows (Kd.int .u8) (Rr := (Kd.int .u8).K _) (w0 := _) (w.heap.size + 1) rfl (.tmp 21) (.tmp 25) 56 5 (.int .u8 0) 1 rfl Try.underlying56 Pk.infoByte rfl (by decide) (by decide) _ ([8] ++ leB hh 8) (leB hl 8) Aa1 8 ca1 (fun k => w.heap.size + 1 ≤ k) (fun _ => False) rfl rfl HB1.out.row HC1.out (fun _ _ h => h) (fun _ h => h.elim) (fun k hk => Nat.le_trans HB1.out.lt hk) (Below.refl _ _) HB1.out.lt (by have := HVK.out; have := HVV.out; simp only [List.length_append, leB_length, List.length_cons, List.length_nil]; omega) ?_; intro va1 W1 hRa1 _ hga1 _; have H2 := Lib.hid (HB1.out.grown hRa1 hga1); have p0 := blk_cell H2.out.box 0; have p15 := blk_cell H2.out.box 15; obtain ⟨As1, ls1, cs1, rfl⟩ := slice3 hRa1; clear hRa1 hga1))
    | (go_at_call 70; go_loud (have _t := H1.out; refine (rnum8 hl _ (by omega) (by omega)).mono ?_; rintro en wa1 ⟨Aa1, ca1, rfl, hCa1, hBa1⟩; have HB1 := Lib.hid (H1.out.below hBa1); have HC1 := Lib.hid hCa1; clear hCa1 hBa1))
    | (at_builtin; go_loud (have _t := HC0.out; refine Kd.R_append_rows (Kd.int .u8) (Rr := (Kd.int .u8).K _) (w0 := _) (w.heap.size + 1) rfl (.tmp 15) (.tmp 19) 56 5 (.int .u8 0) 1 rfl Try.underlying56 Pk.infoByte rfl (by decide) (by decide) _ ([8]) (leB hh 8) Aa0 8 ca0 (fun k => w.heap.size + 1 ≤ k) (fun _ => False) rfl rfl HB0.out.row HC0.out (fun _ _ h => h) (fun _ h => h.elim) (fun k hk => Nat.le_trans HB0.out.lt hk) (Below.refl _ _) HB0.out.lt (by have := HVK.out; have := HVV.out; simp only [List.length_append, leB_length, List.length_cons, List.length_nil]; omega) ?_; intro va0 W0 hRa0 _ hga0 _; have H1 := Lib.hid (HB0.out.grown hRa0 hga0); have p0 := blk_cell H1.out.box 0; have p2 := blk_cell H1.out.box 2; obtain ⟨As0, ls0, cs0, rfl⟩ := slice3 hRa0; clear hRa0 hga0))
    | (go_at_call 70; go_loud (have _t := H0.out; refine (rnum8 hh _ (by omega) (by omega)).mono ?_; rintro en wa0 ⟨Aa0, ca0, rfl, hCa0, hBa0⟩; have HB0 := Lib.hid (H0.out.below hBa0); have HC0 := Lib.hid hCa0; clear hCa0 hBa0)))
  go_ret
  have e : encR ⟨8, hh, hl, o, c, kk, kn, ks, vk, vn, vs, fr, n, tw, ri, oh, ol⟩ = [8] ++ leB hh 8 ++ leB hl 8 ++ leB oh 8 ++ leB ol 8 := by
    show [8] ++ encP [.handle, .other] ⟨8, hh, hl, o, c, kk, kn, ks, vk, vn, vs, fr, n, tw, ri, oh, ol⟩ = _
    simp only [encP, pB, List.flatMap_cons, List.flatMap_nil, List.append_nil, List.append_assoc]
  exact ⟨_, rfl, by rw [e]; exact H4.out.made⟩
set_option maxHeartbeats 8000000 in
set_option maxRecDepth 100000 in
theorem renc_2 (q : Q) (w : World) (ok : Ok q) (hk : q.k = 2) :
    Calls Try.prog 59 #[.agg q.cells] w (REncPost w q) := by
  have HVK := Lib.hid (valB_len q.kk q.kn q.ks)
  have HVV := Lib.hid (valB_len q.vk q.vn q.vs)
  have HS := Lib.hid (aq_start w q)
  obtain ⟨k, hh, hl, o, c, kk, kn, ks, vk, vn, vs, fr, n, tw, ri, oh, ol⟩ := q
  obtain ⟨k0, k1, hh0, hh1, hl0, hl1, o0, o1, c0, c1, kk0, kk1, kn0, kn1, ks0, vk0, vk1, vn0, vn1, vs0, fr0, fr1, n0, n1, tw0, tw1, ri0, ri1, oh0, oh1, ol0, ol1⟩ := ok
  simp only at k0 k1 hh0 hh1 hl0 hl1 o0 o1 c0 c1 kk0 kk1 kn0 kn1 ks0 vk0 vk1 vn0 vn1 vs0 fr0 fr1 n0 n1 tw0 tw1 ri0 ri1 oh0 oh1 ol0 ol1
  have HVK : Hid ((valB kk kn ks).length ≤ 9 + ks.size) := HVK
  have HVV : Hid ((valB vk vn vs).length ≤ 9 + vs.size) := HVV
  have et : tw % 18446744073709551616 = tw := by omega
  simp only at hk
  subst hk
  have H0 := Lib.hid (show AQ w ((w.alloc (.cells #[.int .u8 2, .int .u64 hh, .int .u64 hl, .int .u8 o, .int .u8 c, .int .u8 kk, .int .i64 kn, .string ks, .int .u8 vk, .int .i64 vn, .string vs, .int .i64 fr, .int .i64 n, .int .u32 tw, .int .u8 ri, .int .u64 oh, .int .u64 ol] 110)).alloc (.cells #[.int .u8 2] 5)) ⟨2, hh, hl, o, c, kk, kn, ks, vk, vn, vs, fr, n, tw, ri, oh, ol⟩ (.slice (some ⟨w.heap.size + 1, 0, none⟩) 1 1) [2] from HS.out)
  clear HS
  go_enter Try.func59, Try.ntmps59
  go_wp2_with (first
    | (at_builtin; go_loud (have _t := HC5.out; refine Kd.R_append_rows (Kd.int .u8) (Rr := (Kd.int .u8).K _) (w0 := _) (w.heap.size + 1) rfl (.tmp 50) (.tmp 55) 56 5 (.int .u8 0) 1 rfl Try.underlying56 Pk.infoByte rfl (by decide) (by decide) _ ([2] ++ leB hh 8 ++ leB hl 8 ++ [c] ++ valB kk kn ks ++ leB (fr % 18446744073709551616) 4) (leB (n % 18446744073709551616) 2) Aa5 2 ca5 (fun k => w.heap.size + 1 ≤ k) (fun _ => False) rfl rfl HB5.out.row HC5.out (fun _ _ h => h) (fun _ h => h.elim) (fun k hk => Nat.le_trans HB5.out.lt hk) (Below.refl _ _) HB5.out.lt (by have := HVK.out; have := HVV.out; simp only [List.length_append, leB_length, List.length_cons, List.length_nil]; omega) ?_; intro va5 W5 hRa5 _ hga5 _; have H6 := Lib.hid (HB5.out.grown hRa5 hga5); have p0 := blk_cell H6.out.box 0; obtain ⟨As5, ls5, cs5, rfl⟩ := slice3 hRa5; clear hRa5 hga5))
    | (go_at_call 70; go_loud (have _t := H5.out; refine (rnum2 (n % 18446744073709551616) _ (by omega) (by omega)).mono ?_; rintro en wa5 ⟨Aa5, ca5, rfl, hCa5, hBa5⟩; have HB5 := Lib.hid (H5.out.below hBa5); have HC5 := Lib.hid hCa5; clear hCa5 hBa5))
    | (at_builtin; go_loud (have _t := HC4.out; refine Kd.R_append_rows (Kd.int .u8) (Rr := (Kd.int .u8).K _) (w0 := _) (w.heap.size + 1) rfl (.tmp 43) (.tmp 48) 56 5 (.int .u8 0) 1 rfl Try.underlying56 Pk.infoByte rfl (by decide) (by decide) _ ([2] ++ leB hh 8 ++ leB hl 8 ++ [c] ++ valB kk kn ks) (leB (fr % 18446744073709551616) 4) Aa4 4 ca4 (fun k => w.heap.size + 1 ≤ k) (fun _ => False) rfl rfl HB4.out.row HC4.out (fun _ _ h => h) (fun _ h => h.elim) (fun k hk => Nat.le_trans HB4.out.lt hk) (Below.refl _ _) HB4.out.lt (by have := HVK.out; have := HVV.out; simp only [List.length_append, leB_length, List.length_cons, List.length_nil]; omega) ?_; intro va4 W4 hRa4 _ hga4 _; have H5 := Lib.hid (HB4.out.grown hRa4 hga4); have p0 := blk_cell H5.out.box 0; have p12 := blk_cell H5.out.box 12; obtain ⟨As4, ls4, cs4, rfl⟩ := slice3 hRa4; clear hRa4 hga4))
    | (go_at_call 70; go_loud (have _t := H4.out; refine (rnum4 (fr % 18446744073709551616) _ (by omega) (by omega)).mono ?_; rintro en wa4 ⟨Aa4, ca4, rfl, hCa4, hBa4⟩; have HB4 := Lib.hid (H4.out.below hBa4); have HC4 := Lib.hid hCa4; clear hCa4 hBa4))
    | (at_builtin; go_loud (have _t := HC3.out; refine Kd.R_append_rows (Kd.int .u8) (Rr := (Kd.int .u8).K _) (w0 := _) (w.heap.size + 1) rfl (.tmp 37) (.tmp 41) 56 5 (.int .u8 0) 1 rfl Try.underlying56 Pk.infoByte rfl (by decide) (by decide) _ ([2] ++ leB hh 8 ++ leB hl 8 ++ [c]) (valB kk kn ks) Aa3 lv3 ca3 (fun k => w.heap.size + 1 ≤ k) (fun _ => False) rfl rfl HB3.out.row HC3.out (fun _ _ h => h) (fun _ h => h.elim) (fun k hk => Nat.le_trans HB3.out.lt hk) (Below.refl _ _) HB3.out.lt (by have := HVK.out; have := HVV.out; have := HLV3.out; simp only [List.length_append, leB_length, List.length_cons, List.length_nil]; omega) ?_; intro va3 W3 hRa3 _ hga3 _; have H4 := Lib.hid (HB3.out.grown hRa3 hga3); have p0 := blk_cell H4.out.box 0; have p11 := blk_cell H4.out.box 11; obtain ⟨As3, ls3, cs3, rfl⟩ := slice3 hRa3; clear hRa3 hga3))
    | (go_at_call 72; go_loud (have _t := H3.out; refine (rval kk kn ks _ kk0 kk1 ks0).mono ?_; rintro en wa3 ⟨Aa3, ca3, rfl, hCa3, hBa3⟩; obtain ⟨lv3, hlv3⟩ : ∃ l, (valB kk kn ks).length = l := ⟨_, rfl⟩; rw [hlv3] at hCa3; have HLV3 := Lib.hid hlv3; try rw [hlv3]; clear hlv3; have HB3 := Lib.hid (H3.out.below hBa3); have HC3 := Lib.hid hCa3; clear hCa3 hBa3))
    | (at_builtin; go_loud (have _t := H2.out; refine Kd.R_append_rows (Kd.int .u8) (Rr := (Kd.int .u8).K _) (w0 := _) (w.heap.size + 1) rfl (.tmp 31) (.tmp 35) 56 5 (.int .u8 0) 1 rfl Try.underlying56 Pk.infoByte rfl (by decide) (by decide) _ ([2] ++ leB hh 8 ++ leB hl 8) ([c]) (some ⟨_, 0, none⟩) 1 1 (fun k => w.heap.size + 1 ≤ k) (fun _ => False) rfl rfl (Kd.R_below H2.out.row (below_alloc (Below.refl _ _) _)) (one_D _ c _ (by first | rfl | simp)) (fun _ _ h => h) (fun _ h => h.elim) (fun k hk => Nat.le_trans (H2.out.below (below_alloc (Below.refl _ _) _)).lt hk) (Below.refl _ _) (H2.out.below (below_alloc (Below.refl _ _) _)).lt (by have := HVK.out; have := HVV.out; simp only [List.length_append, leB_length, List.length_cons, List.length_nil]; omega) ?_; intro va2 W2 hRa2 _ hga2 _; have H3 := Lib.hid ((H2.out.below (below_alloc (Below.refl _ _) _)).grown hRa2 hga2); have p0 := blk_cell H3.out.box 0; have p5 := blk_cell H3.out.box 5; have p6 := blk_cell H3.out.box 6; have p7 := blk_cell H3.out.box 7; obtain ⟨As2, ls2, cs2, rfl⟩ := slice3 hRa2; clear hRa2 hga2))
    | (at_builtin; go_loud (have _t := HC1.out; refine Kd.R_append_rows (Kd.int .u8) (Rr := (Kd.int .u8).K _) (w0 := _) (w.heap.size + 1) rfl (.tmp 21) (.tmp 25) 56 5 (.int .u8 0) 1 rfl Try.underlying56 Pk.infoByte rfl (by decide) (by decide) _ ([2] ++ leB hh 8) (leB hl 8) Aa1 8 ca1 (fun k => w.heap.size + 1 ≤ k) (fun _ => False) rfl rfl HB1.out.row HC1.out (fun _ _ h => h) (fun _ h => h.elim) (fun k hk => Nat.le_trans HB1.out.lt hk) (Below.refl _ _) HB1.out.lt (by have := HVK.out; have := HVV.out; simp only [List.length_append, leB_length, List.length_cons, List.length_nil]; omega) ?_; intro va1 W1 hRa1 _ hga1 _; have H2 := Lib.hid (HB1.out.grown hRa1 hga1); have p0 := blk_cell H2.out.box 0; have p4 := blk_cell H2.out.box 4; obtain ⟨As1, ls1, cs1, rfl⟩ := slice3 hRa1; clear hRa1 hga1))
    | (go_at_call 70; go_loud (have _t := H1.out; refine (rnum8 hl _ (by omega) (by omega)).mono ?_; rintro en wa1 ⟨Aa1, ca1, rfl, hCa1, hBa1⟩; have HB1 := Lib.hid (H1.out.below hBa1); have HC1 := Lib.hid hCa1; clear hCa1 hBa1))
    | (at_builtin; go_loud (have _t := HC0.out; refine Kd.R_append_rows (Kd.int .u8) (Rr := (Kd.int .u8).K _) (w0 := _) (w.heap.size + 1) rfl (.tmp 15) (.tmp 19) 56 5 (.int .u8 0) 1 rfl Try.underlying56 Pk.infoByte rfl (by decide) (by decide) _ ([2]) (leB hh 8) Aa0 8 ca0 (fun k => w.heap.size + 1 ≤ k) (fun _ => False) rfl rfl HB0.out.row HC0.out (fun _ _ h => h) (fun _ h => h.elim) (fun k hk => Nat.le_trans HB0.out.lt hk) (Below.refl _ _) HB0.out.lt (by have := HVK.out; have := HVV.out; simp only [List.length_append, leB_length, List.length_cons, List.length_nil]; omega) ?_; intro va0 W0 hRa0 _ hga0 _; have H1 := Lib.hid (HB0.out.grown hRa0 hga0); have p0 := blk_cell H1.out.box 0; have p2 := blk_cell H1.out.box 2; obtain ⟨As0, ls0, cs0, rfl⟩ := slice3 hRa0; clear hRa0 hga0))
    | (go_at_call 70; go_loud (have _t := H0.out; refine (rnum8 hh _ (by omega) (by omega)).mono ?_; rintro en wa0 ⟨Aa0, ca0, rfl, hCa0, hBa0⟩; have HB0 := Lib.hid (H0.out.below hBa0); have HC0 := Lib.hid hCa0; clear hCa0 hBa0)))
  go_ret
  have e : encR ⟨2, hh, hl, o, c, kk, kn, ks, vk, vn, vs, fr, n, tw, ri, oh, ol⟩ = [2] ++ leB hh 8 ++ leB hl 8 ++ [c] ++ valB kk kn ks ++ leB (fr % 18446744073709551616) 4 ++ leB (n % 18446744073709551616) 2 := by
    have m0 : leB c 1 = [c] := by rw [leB_one, show c % 256 = c by omega]
    show [2] ++ encP [.handle, .looks] ⟨2, hh, hl, o, c, kk, kn, ks, vk, vn, vs, fr, n, tw, ri, oh, ol⟩ = _
    simp only [encP, pB, List.flatMap_cons, List.flatMap_nil, List.append_nil, List.append_assoc, m0]
  exact ⟨_, rfl, by rw [e]; exact H6.out.made⟩
set_option maxHeartbeats 8000000 in
set_option maxRecDepth 100000 in
theorem renc_3 (q : Q) (w : World) (ok : Ok q) (hk : q.k = 3) :
    Calls Try.prog 59 #[.agg q.cells] w (REncPost w q) := by
  have HVK := Lib.hid (valB_len q.kk q.kn q.ks)
  have HVV := Lib.hid (valB_len q.vk q.vn q.vs)
  have HS := Lib.hid (aq_start w q)
  obtain ⟨k, hh, hl, o, c, kk, kn, ks, vk, vn, vs, fr, n, tw, ri, oh, ol⟩ := q
  obtain ⟨k0, k1, hh0, hh1, hl0, hl1, o0, o1, c0, c1, kk0, kk1, kn0, kn1, ks0, vk0, vk1, vn0, vn1, vs0, fr0, fr1, n0, n1, tw0, tw1, ri0, ri1, oh0, oh1, ol0, ol1⟩ := ok
  simp only at k0 k1 hh0 hh1 hl0 hl1 o0 o1 c0 c1 kk0 kk1 kn0 kn1 ks0 vk0 vk1 vn0 vn1 vs0 fr0 fr1 n0 n1 tw0 tw1 ri0 ri1 oh0 oh1 ol0 ol1
  have HVK : Hid ((valB kk kn ks).length ≤ 9 + ks.size) := HVK
  have HVV : Hid ((valB vk vn vs).length ≤ 9 + vs.size) := HVV
  have et : tw % 18446744073709551616 = tw := by omega
  simp only at hk
  subst hk
  have H0 := Lib.hid (show AQ w ((w.alloc (.cells #[.int .u8 3, .int .u64 hh, .int .u64 hl, .int .u8 o, .int .u8 c, .int .u8 kk, .int .i64 kn, .string ks, .int .u8 vk, .int .i64 vn, .string vs, .int .i64 fr, .int .i64 n, .int .u32 tw, .int .u8 ri, .int .u64 oh, .int .u64 ol] 110)).alloc (.cells #[.int .u8 3] 5)) ⟨3, hh, hl, o, c, kk, kn, ks, vk, vn, vs, fr, n, tw, ri, oh, ol⟩ (.slice (some ⟨w.heap.size + 1, 0, none⟩) 1 1) [3] from HS.out)
  clear HS
  go_enter Try.func59, Try.ntmps59
  go_wp2_with (first
    | (at_builtin; go_loud (have _t := HC4.out; refine Kd.R_append_rows (Kd.int .u8) (Rr := (Kd.int .u8).K _) (w0 := _) (w.heap.size + 1) rfl (.tmp 72) (.tmp 76) 56 5 (.int .u8 0) 1 rfl Try.underlying56 Pk.infoByte rfl (by decide) (by decide) _ ([3] ++ leB hh 8 ++ leB hl 8 ++ [c] ++ valB kk kn ks) (valB vk vn vs) Aa4 lv4 ca4 (fun k => w.heap.size + 1 ≤ k) (fun _ => False) rfl rfl HB4.out.row HC4.out (fun _ _ h => h) (fun _ h => h.elim) (fun k hk => Nat.le_trans HB4.out.lt hk) (Below.refl _ _) HB4.out.lt (by have := HVK.out; have := HVV.out; have := HLV4.out; simp only [List.length_append, leB_length, List.length_cons, List.length_nil]; omega) ?_; intro va4 W4 hRa4 _ hga4 _; have H5 := Lib.hid (HB4.out.grown hRa4 hga4); have p0 := blk_cell H5.out.box 0; obtain ⟨As4, ls4, cs4, rfl⟩ := slice3 hRa4; clear hRa4 hga4))
    | (go_at_call 72; go_loud (have _t := H4.out; refine (rval vk vn vs _ vk0 vk1 vs0).mono ?_; rintro en wa4 ⟨Aa4, ca4, rfl, hCa4, hBa4⟩; obtain ⟨lv4, hlv4⟩ : ∃ l, (valB vk vn vs).length = l := ⟨_, rfl⟩; rw [hlv4] at hCa4; have HLV4 := Lib.hid hlv4; try rw [hlv4]; clear hlv4; have HB4 := Lib.hid (H4.out.below hBa4); have HC4 := Lib.hid hCa4; clear hCa4 hBa4))
    | (at_builtin; go_loud (have _t := HC3.out; refine Kd.R_append_rows (Kd.int .u8) (Rr := (Kd.int .u8).K _) (w0 := _) (w.heap.size + 1) rfl (.tmp 66) (.tmp 70) 56 5 (.int .u8 0) 1 rfl Try.underlying56 Pk.infoByte rfl (by decide) (by decide) _ ([3] ++ leB hh 8 ++ leB hl 8 ++ [c]) (valB kk kn ks) Aa3 lv3 ca3 (fun k => w.heap.size + 1 ≤ k) (fun _ => False) rfl rfl HB3.out.row HC3.out (fun _ _ h => h) (fun _ h => h.elim) (fun k hk => Nat.le_trans HB3.out.lt hk) (Below.refl _ _) HB3.out.lt (by have := HVK.out; have := HVV.out; have := HLV3.out; simp only [List.length_append, leB_length, List.length_cons, List.length_nil]; omega) ?_; intro va3 W3 hRa3 _ hga3 _; have H4 := Lib.hid (HB3.out.grown hRa3 hga3); have p0 := blk_cell H4.out.box 0; have p8 := blk_cell H4.out.box 8; have p9 := blk_cell H4.out.box 9; have p10 := blk_cell H4.out.box 10; obtain ⟨As3, ls3, cs3, rfl⟩ := slice3 hRa3; clear hRa3 hga3))
    | (go_at_call 72; go_loud (have _t := H3.out; refine (rval kk kn ks _ kk0 kk1 ks0).mono ?_; rintro en wa3 ⟨Aa3, ca3, rfl, hCa3, hBa3⟩; obtain ⟨lv3, hlv3⟩ : ∃ l, (valB kk kn ks).length = l := ⟨_, rfl⟩; rw [hlv3] at hCa3; have HLV3 := Lib.hid hlv3; try rw [hlv3]; clear hlv3; have HB3 := Lib.hid (H3.out.below hBa3); have HC3 := Lib.hid hCa3; clear hCa3 hBa3))
    | (at_builtin; go_loud (have _t := H2.out; refine Kd.R_append_rows (Kd.int .u8) (Rr := (Kd.int .u8).K _) (w0 := _) (w.heap.size + 1) rfl (.tmp 60) (.tmp 64) 56 5 (.int .u8 0) 1 rfl Try.underlying56 Pk.infoByte rfl (by decide) (by decide) _ ([3] ++ leB hh 8 ++ leB hl 8) ([c]) (some ⟨_, 0, none⟩) 1 1 (fun k => w.heap.size + 1 ≤ k) (fun _ => False) rfl rfl (Kd.R_below H2.out.row (below_alloc (Below.refl _ _) _)) (one_D _ c _ (by first | rfl | simp)) (fun _ _ h => h) (fun _ h => h.elim) (fun k hk => Nat.le_trans (H2.out.below (below_alloc (Below.refl _ _) _)).lt hk) (Below.refl _ _) (H2.out.below (below_alloc (Below.refl _ _) _)).lt (by have := HVK.out; have := HVV.out; simp only [List.length_append, leB_length, List.length_cons, List.length_nil]; omega) ?_; intro va2 W2 hRa2 _ hga2 _; have H3 := Lib.hid ((H2.out.below (below_alloc (Below.refl _ _) _)).grown hRa2 hga2); have p0 := blk_cell H3.out.box 0; have p5 := blk_cell H3.out.box 5; have p6 := blk_cell H3.out.box 6; have p7 := blk_cell H3.out.box 7; obtain ⟨As2, ls2, cs2, rfl⟩ := slice3 hRa2; clear hRa2 hga2))
    | (at_builtin; go_loud (have _t := HC1.out; refine Kd.R_append_rows (Kd.int .u8) (Rr := (Kd.int .u8).K _) (w0 := _) (w.heap.size + 1) rfl (.tmp 21) (.tmp 25) 56 5 (.int .u8 0) 1 rfl Try.underlying56 Pk.infoByte rfl (by decide) (by decide) _ ([3] ++ leB hh 8) (leB hl 8) Aa1 8 ca1 (fun k => w.heap.size + 1 ≤ k) (fun _ => False) rfl rfl HB1.out.row HC1.out (fun _ _ h => h) (fun _ h => h.elim) (fun k hk => Nat.le_trans HB1.out.lt hk) (Below.refl _ _) HB1.out.lt (by have := HVK.out; have := HVV.out; simp only [List.length_append, leB_length, List.length_cons, List.length_nil]; omega) ?_; intro va1 W1 hRa1 _ hga1 _; have H2 := Lib.hid (HB1.out.grown hRa1 hga1); have p0 := blk_cell H2.out.box 0; have p4 := blk_cell H2.out.box 4; obtain ⟨As1, ls1, cs1, rfl⟩ := slice3 hRa1; clear hRa1 hga1))
    | (go_at_call 70; go_loud (have _t := H1.out; refine (rnum8 hl _ (by omega) (by omega)).mono ?_; rintro en wa1 ⟨Aa1, ca1, rfl, hCa1, hBa1⟩; have HB1 := Lib.hid (H1.out.below hBa1); have HC1 := Lib.hid hCa1; clear hCa1 hBa1))
    | (at_builtin; go_loud (have _t := HC0.out; refine Kd.R_append_rows (Kd.int .u8) (Rr := (Kd.int .u8).K _) (w0 := _) (w.heap.size + 1) rfl (.tmp 15) (.tmp 19) 56 5 (.int .u8 0) 1 rfl Try.underlying56 Pk.infoByte rfl (by decide) (by decide) _ ([3]) (leB hh 8) Aa0 8 ca0 (fun k => w.heap.size + 1 ≤ k) (fun _ => False) rfl rfl HB0.out.row HC0.out (fun _ _ h => h) (fun _ h => h.elim) (fun k hk => Nat.le_trans HB0.out.lt hk) (Below.refl _ _) HB0.out.lt (by have := HVK.out; have := HVV.out; simp only [List.length_append, leB_length, List.length_cons, List.length_nil]; omega) ?_; intro va0 W0 hRa0 _ hga0 _; have H1 := Lib.hid (HB0.out.grown hRa0 hga0); have p0 := blk_cell H1.out.box 0; have p2 := blk_cell H1.out.box 2; obtain ⟨As0, ls0, cs0, rfl⟩ := slice3 hRa0; clear hRa0 hga0))
    | (go_at_call 70; go_loud (have _t := H0.out; refine (rnum8 hh _ (by omega) (by omega)).mono ?_; rintro en wa0 ⟨Aa0, ca0, rfl, hCa0, hBa0⟩; have HB0 := Lib.hid (H0.out.below hBa0); have HC0 := Lib.hid hCa0; clear hCa0 hBa0)))
  go_ret
  have e : encR ⟨3, hh, hl, o, c, kk, kn, ks, vk, vn, vs, fr, n, tw, ri, oh, ol⟩ = [3] ++ leB hh 8 ++ leB hl 8 ++ [c] ++ valB kk kn ks ++ valB vk vn vs := by
    have m0 : leB c 1 = [c] := by rw [leB_one, show c % 256 = c by omega]
    show [3] ++ encP [.handle, .changes] ⟨3, hh, hl, o, c, kk, kn, ks, vk, vn, vs, fr, n, tw, ri, oh, ol⟩ = _
    simp only [encP, pB, List.flatMap_cons, List.flatMap_nil, List.append_nil, List.append_assoc, m0]
  exact ⟨_, rfl, by rw [e]; exact H5.out.made⟩
set_option maxHeartbeats 8000000 in
set_option maxRecDepth 100000 in
theorem renc_5 (q : Q) (w : World) (ok : Ok q) (hk : q.k = 5) :
    Calls Try.prog 59 #[.agg q.cells] w (REncPost w q) := by
  have HVK := Lib.hid (valB_len q.kk q.kn q.ks)
  have HVV := Lib.hid (valB_len q.vk q.vn q.vs)
  have HS := Lib.hid (aq_start w q)
  obtain ⟨k, hh, hl, o, c, kk, kn, ks, vk, vn, vs, fr, n, tw, ri, oh, ol⟩ := q
  obtain ⟨k0, k1, hh0, hh1, hl0, hl1, o0, o1, c0, c1, kk0, kk1, kn0, kn1, ks0, vk0, vk1, vn0, vn1, vs0, fr0, fr1, n0, n1, tw0, tw1, ri0, ri1, oh0, oh1, ol0, ol1⟩ := ok
  simp only at k0 k1 hh0 hh1 hl0 hl1 o0 o1 c0 c1 kk0 kk1 kn0 kn1 ks0 vk0 vk1 vn0 vn1 vs0 fr0 fr1 n0 n1 tw0 tw1 ri0 ri1 oh0 oh1 ol0 ol1
  have HVK : Hid ((valB kk kn ks).length ≤ 9 + ks.size) := HVK
  have HVV : Hid ((valB vk vn vs).length ≤ 9 + vs.size) := HVV
  have et : tw % 18446744073709551616 = tw := by omega
  simp only at hk
  subst hk
  have H0 := Lib.hid (show AQ w ((w.alloc (.cells #[.int .u8 5, .int .u64 hh, .int .u64 hl, .int .u8 o, .int .u8 c, .int .u8 kk, .int .i64 kn, .string ks, .int .u8 vk, .int .i64 vn, .string vs, .int .i64 fr, .int .i64 n, .int .u32 tw, .int .u8 ri, .int .u64 oh, .int .u64 ol] 110)).alloc (.cells #[.int .u8 5] 5)) ⟨5, hh, hl, o, c, kk, kn, ks, vk, vn, vs, fr, n, tw, ri, oh, ol⟩ (.slice (some ⟨w.heap.size + 1, 0, none⟩) 1 1) [5] from HS.out)
  clear HS
  go_enter Try.func59, Try.ntmps59
  go_wp2_with (first
    | (at_builtin; go_loud (have _t := HC4.out; refine Kd.R_append_rows (Kd.int .u8) (Rr := (Kd.int .u8).K _) (w0 := _) (w.heap.size + 1) rfl (.tmp 72) (.tmp 76) 56 5 (.int .u8 0) 1 rfl Try.underlying56 Pk.infoByte rfl (by decide) (by decide) _ ([5] ++ leB hh 8 ++ leB hl 8 ++ [c] ++ valB kk kn ks) (valB vk vn vs) Aa4 lv4 ca4 (fun k => w.heap.size + 1 ≤ k) (fun _ => False) rfl rfl HB4.out.row HC4.out (fun _ _ h => h) (fun _ h => h.elim) (fun k hk => Nat.le_trans HB4.out.lt hk) (Below.refl _ _) HB4.out.lt (by have := HVK.out; have := HVV.out; have := HLV4.out; simp only [List.length_append, leB_length, List.length_cons, List.length_nil]; omega) ?_; intro va4 W4 hRa4 _ hga4 _; have H5 := Lib.hid (HB4.out.grown hRa4 hga4); have p0 := blk_cell H5.out.box 0; obtain ⟨As4, ls4, cs4, rfl⟩ := slice3 hRa4; clear hRa4 hga4))
    | (go_at_call 72; go_loud (have _t := H4.out; refine (rval vk vn vs _ vk0 vk1 vs0).mono ?_; rintro en wa4 ⟨Aa4, ca4, rfl, hCa4, hBa4⟩; obtain ⟨lv4, hlv4⟩ : ∃ l, (valB vk vn vs).length = l := ⟨_, rfl⟩; rw [hlv4] at hCa4; have HLV4 := Lib.hid hlv4; try rw [hlv4]; clear hlv4; have HB4 := Lib.hid (H4.out.below hBa4); have HC4 := Lib.hid hCa4; clear hCa4 hBa4))
    | (at_builtin; go_loud (have _t := HC3.out; refine Kd.R_append_rows (Kd.int .u8) (Rr := (Kd.int .u8).K _) (w0 := _) (w.heap.size + 1) rfl (.tmp 66) (.tmp 70) 56 5 (.int .u8 0) 1 rfl Try.underlying56 Pk.infoByte rfl (by decide) (by decide) _ ([5] ++ leB hh 8 ++ leB hl 8 ++ [c]) (valB kk kn ks) Aa3 lv3 ca3 (fun k => w.heap.size + 1 ≤ k) (fun _ => False) rfl rfl HB3.out.row HC3.out (fun _ _ h => h) (fun _ h => h.elim) (fun k hk => Nat.le_trans HB3.out.lt hk) (Below.refl _ _) HB3.out.lt (by have := HVK.out; have := HVV.out; have := HLV3.out; simp only [List.length_append, leB_length, List.length_cons, List.length_nil]; omega) ?_; intro va3 W3 hRa3 _ hga3 _; have H4 := Lib.hid (HB3.out.grown hRa3 hga3); have p0 := blk_cell H4.out.box 0; have p8 := blk_cell H4.out.box 8; have p9 := blk_cell H4.out.box 9; have p10 := blk_cell H4.out.box 10; obtain ⟨As3, ls3, cs3, rfl⟩ := slice3 hRa3; clear hRa3 hga3))
    | (go_at_call 72; go_loud (have _t := H3.out; refine (rval kk kn ks _ kk0 kk1 ks0).mono ?_; rintro en wa3 ⟨Aa3, ca3, rfl, hCa3, hBa3⟩; obtain ⟨lv3, hlv3⟩ : ∃ l, (valB kk kn ks).length = l := ⟨_, rfl⟩; rw [hlv3] at hCa3; have HLV3 := Lib.hid hlv3; try rw [hlv3]; clear hlv3; have HB3 := Lib.hid (H3.out.below hBa3); have HC3 := Lib.hid hCa3; clear hCa3 hBa3))
    | (at_builtin; go_loud (have _t := H2.out; refine Kd.R_append_rows (Kd.int .u8) (Rr := (Kd.int .u8).K _) (w0 := _) (w.heap.size + 1) rfl (.tmp 60) (.tmp 64) 56 5 (.int .u8 0) 1 rfl Try.underlying56 Pk.infoByte rfl (by decide) (by decide) _ ([5] ++ leB hh 8 ++ leB hl 8) ([c]) (some ⟨_, 0, none⟩) 1 1 (fun k => w.heap.size + 1 ≤ k) (fun _ => False) rfl rfl (Kd.R_below H2.out.row (below_alloc (Below.refl _ _) _)) (one_D _ c _ (by first | rfl | simp)) (fun _ _ h => h) (fun _ h => h.elim) (fun k hk => Nat.le_trans (H2.out.below (below_alloc (Below.refl _ _) _)).lt hk) (Below.refl _ _) (H2.out.below (below_alloc (Below.refl _ _) _)).lt (by have := HVK.out; have := HVV.out; simp only [List.length_append, leB_length, List.length_cons, List.length_nil]; omega) ?_; intro va2 W2 hRa2 _ hga2 _; have H3 := Lib.hid ((H2.out.below (below_alloc (Below.refl _ _) _)).grown hRa2 hga2); have p0 := blk_cell H3.out.box 0; have p5 := blk_cell H3.out.box 5; have p6 := blk_cell H3.out.box 6; have p7 := blk_cell H3.out.box 7; obtain ⟨As2, ls2, cs2, rfl⟩ := slice3 hRa2; clear hRa2 hga2))
    | (at_builtin; go_loud (have _t := HC1.out; refine Kd.R_append_rows (Kd.int .u8) (Rr := (Kd.int .u8).K _) (w0 := _) (w.heap.size + 1) rfl (.tmp 21) (.tmp 25) 56 5 (.int .u8 0) 1 rfl Try.underlying56 Pk.infoByte rfl (by decide) (by decide) _ ([5] ++ leB hh 8) (leB hl 8) Aa1 8 ca1 (fun k => w.heap.size + 1 ≤ k) (fun _ => False) rfl rfl HB1.out.row HC1.out (fun _ _ h => h) (fun _ h => h.elim) (fun k hk => Nat.le_trans HB1.out.lt hk) (Below.refl _ _) HB1.out.lt (by have := HVK.out; have := HVV.out; simp only [List.length_append, leB_length, List.length_cons, List.length_nil]; omega) ?_; intro va1 W1 hRa1 _ hga1 _; have H2 := Lib.hid (HB1.out.grown hRa1 hga1); have p0 := blk_cell H2.out.box 0; have p4 := blk_cell H2.out.box 4; obtain ⟨As1, ls1, cs1, rfl⟩ := slice3 hRa1; clear hRa1 hga1))
    | (go_at_call 70; go_loud (have _t := H1.out; refine (rnum8 hl _ (by omega) (by omega)).mono ?_; rintro en wa1 ⟨Aa1, ca1, rfl, hCa1, hBa1⟩; have HB1 := Lib.hid (H1.out.below hBa1); have HC1 := Lib.hid hCa1; clear hCa1 hBa1))
    | (at_builtin; go_loud (have _t := HC0.out; refine Kd.R_append_rows (Kd.int .u8) (Rr := (Kd.int .u8).K _) (w0 := _) (w.heap.size + 1) rfl (.tmp 15) (.tmp 19) 56 5 (.int .u8 0) 1 rfl Try.underlying56 Pk.infoByte rfl (by decide) (by decide) _ ([5]) (leB hh 8) Aa0 8 ca0 (fun k => w.heap.size + 1 ≤ k) (fun _ => False) rfl rfl HB0.out.row HC0.out (fun _ _ h => h) (fun _ h => h.elim) (fun k hk => Nat.le_trans HB0.out.lt hk) (Below.refl _ _) HB0.out.lt (by have := HVK.out; have := HVV.out; simp only [List.length_append, leB_length, List.length_cons, List.length_nil]; omega) ?_; intro va0 W0 hRa0 _ hga0 _; have H1 := Lib.hid (HB0.out.grown hRa0 hga0); have p0 := blk_cell H1.out.box 0; have p2 := blk_cell H1.out.box 2; obtain ⟨As0, ls0, cs0, rfl⟩ := slice3 hRa0; clear hRa0 hga0))
    | (go_at_call 70; go_loud (have _t := H0.out; refine (rnum8 hh _ (by omega) (by omega)).mono ?_; rintro en wa0 ⟨Aa0, ca0, rfl, hCa0, hBa0⟩; have HB0 := Lib.hid (H0.out.below hBa0); have HC0 := Lib.hid hCa0; clear hCa0 hBa0)))
  go_ret
  have e : encR ⟨5, hh, hl, o, c, kk, kn, ks, vk, vn, vs, fr, n, tw, ri, oh, ol⟩ = [5] ++ leB hh 8 ++ leB hl 8 ++ [c] ++ valB kk kn ks ++ valB vk vn vs := by
    have m0 : leB c 1 = [c] := by rw [leB_one, show c % 256 = c by omega]
    show [5] ++ encP [.handle, .changes] ⟨5, hh, hl, o, c, kk, kn, ks, vk, vn, vs, fr, n, tw, ri, oh, ol⟩ = _
    simp only [encP, pB, List.flatMap_cons, List.flatMap_nil, List.append_nil, List.append_assoc, m0]
  exact ⟨_, rfl, by rw [e]; exact H5.out.made⟩
theorem renc_calls (q : Q) (w : World) (ok : Ok q) : Calls Try.prog 59 #[.agg q.cells] w (REncPost w q) := by
  by_cases h1 : q.k = 1
  · exact renc_1 q w ok h1
  by_cases h2 : q.k = 2
  · exact renc_2 q w ok h2
  by_cases h3 : q.k = 3
  · exact renc_3 q w ok h3
  by_cases h5 : q.k = 5
  · exact renc_5 q w ok h5
  by_cases h7 : q.k = 7
  · exact renc_7 q w ok h7
  by_cases h8 : q.k = 8
  · exact renc_8 q w ok h8
  exact renc_4 q w ok ⟨h1, h2, h3, h5, h7, h8⟩
end Go.Proofs.Ytaoacibahdbdkaa.Req
