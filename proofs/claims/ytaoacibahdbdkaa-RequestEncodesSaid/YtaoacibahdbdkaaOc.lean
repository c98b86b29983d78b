/- Texts of this claim, laid together: ReqH, ReqJ. -/
import Derived.Test.YtaoacibahdbdkaaOb
import Derived.Test.YtaoacibahdbdkaaRq1
/-! request: Encode, as a contract. Printed by wip/tools/gen_reqh.py. -/
namespace Go.Proofs.Ytaoacibahdbdkaa.Req
open Go.RowKit Go Go.Proofs.Ytaoacibahdbdkaa.QRequestParses Go.Proofs.YtaoacibahdbdkaaW.PrintWords Go.Proofs.YtaoacibahdbdkaaW.PrintLast Go.Proofs.YtaoacibahdbdkaaW.PrintMore Go.Proofs.Ytaoacibahdbdkaa.Fra Go.Proofs.Ytaoacibahdbdkaa.Pk Go.Proofs.Ytaoacibahdbdkaa.Bts Go.Proofs.Ytaoacibahdbdkaa.Pr Go.Proofs.Ytaoacibahdbdkaa.Rep
attribute [local go_sem] run_store_func is_req_new World.setRow_alloc_new store_req run_loadAll ofRow_some rowOf_alloc rowOf_drew rowOf_new
attribute [local go_sem high] all_req
attribute [local go_sem ↓ high] all_load
theorem eq_req_x (a0 : Int) (a1 : Int) (a2 : Int) (a3 : Int) (a4 : Int) (a5 : Int) (a6 : Int) (a7 : ByteArray) (a8 : Int) (a9 : Int) (a10 : ByteArray) (a11 : Int) (a12 : Int) (a13 : Int) (a14 : Int) (a15 : Int) (a16 : Int) (b0 : Int) (b1 : Int) (b2 : Int) (b3 : Int) (b4 : Int) (b5 : Int) (b6 : Int) (b7 : ByteArray) (b8 : Int) (b9 : Int) (b10 : ByteArray) (b11 : Int) (b12 : Int) (b13 : Int) (b14 : Int) (b15 : Int) (b16 : Int) (w : World) : (Op.equalIn 10000 104 (.agg #[.int .u8 a0, .int .u64 a1, .int .u64 a2, .int .u8 a3, .int .u8 a4, .int .u8 a5, .int .i64 a6, .string a7, .int .u8 a8, .int .i64 a9, .string a10, .int .i64 a11, .int .i64 a12, .int .u32 a13, .int .u8 a14, .int .u64 a15, .int .u64 a16]) (.agg #[.int .u8 b0, .int .u64 b1, .int .u64 b2, .int .u8 b3, .int .u8 b4, .int .u8 b5, .int .i64 b6, .string b7, .int .u8 b8, .int .i64 b9, .string b10, .int .i64 b11, .int .i64 b12, .int .u32 b13, .int .u8 b14, .int .u64 b15, .int .u64 b16])).run Try.prog w = .ok (sameQ ⟨a0, a1, a2, a3, a4, a5, a6, a7, a8, a9, a10, a11, a12, a13, a14, a15, a16⟩ ⟨b0, b1, b2, b3, b4, b5, b6, b7, b8, b9, b10, b11, b12, b13, b14, b15, b16⟩) w := eq_req ⟨a0, a1, a2, a3, a4, a5, a6, a7, a8, a9, a10, a11, a12, a13, a14, a15, a16⟩ ⟨b0, b1, b2, b3, b4, b5, b6, b7, b8, b9, b10, b11, b12, b13, b14, b15, b16⟩ w
attribute [local go_sem high] eq_req_x
/-- A request's bytes. -/
def encP (ps : List Part) (q : Q) : List Int := ps.flatMap fun p => pB p q
def encB (q : Q) : List Int := [q.k] ++ encP (partsOf q.k) q
def rightQ (q : Q) : Bool := rightS ⟨q.kk, q.kn, q.ks⟩ && rightS ⟨q.vk, q.vn, q.vs⟩
/-- Is it a request? -/
def okQ (q : Q) : Bool := okK q.k && rightQ q && ((reqP (encB q)).2 == 0) && sameQ (reqP (encB q)).1 q
theorem encP_snoc (ps : List Part) (p : Part) (q : Q) : encP (ps ++ [p]) q = encP ps q ++ pB p q := by
  unfold encP
  rw [List.flatMap_append]
  simp
theorem encP_len (ps : List Part) (q : Q) (h : Ok q) : (encP ps q).length ≤ ps.length * 20100 := by
  induction ps with
  | nil => simp [encP]
  | cons p ps ih =>
    have e : encP (p :: ps) q = pB p q ++ encP ps q := by simp [encP]
    have := pB_len p q h
    rw [e, List.length_append, List.length_cons]
    omega
theorem bs_leB (n : Int) (k : Nat) : Bs (leB n k) := by
  intro x hx
  unfold leB at hx
  rw [List.mem_map] at hx
  obtain ⟨j, _, rfl⟩ := hx
  omega
theorem pB_bs (p : Part) (q : Q) : Bs (pB p q) := by
  have ap : ∀ {a b : List Int}, Bs a → Bs b → Bs (a ++ b) := fun ha hb x hx => by
    rcases List.mem_append.1 hx with h | h
    · exact ha x h
    · exact hb x h
  cases p
  · exact ap (bs_leB _ _) (bs_leB _ _)
  · exact ap (bs_leB _ _) (bs_leB _ _)
  · exact bs_leB _ _
  · exact ap (bs_leB _ _) (bs_leB _ _)
  · exact ap (ap (ap (bs_leB _ _) (bs_valB _ _ _)) (bs_leB _ _)) (bs_leB _ _)
  · exact ap (ap (bs_leB _ _) (bs_valB _ _ _)) (bs_valB _ _ _)
theorem encP_bs (ps : List Part) (q : Q) : Bs (encP ps q) := by
  intro x hx
  unfold encP at hx
  rw [List.mem_flatMap] at hx
  obtain ⟨p, _, h⟩ := hx
  exact pB_bs p q x h
theorem encB_bs (q : Q) (h : Ok q) : Bs (encB q) := by
  intro x hx
  unfold encB at hx
  rcases List.mem_append.1 hx with h1 | h1
  · have := h.k0
    have := h.k1
    simp at h1
    omega
  · exact encP_bs _ _ x h1
theorem parts_len (k : Int) : (partsOf k).length ≤ 2 := by
  unfold partsOf
  repeat' split
  all_goals simp
theorem encB_len (q : Q) (h : Ok q) : (encB q).length ≤ 40300 := by
  have h1 := encP_len (partsOf q.k) q h
  have h2 := parts_len q.k
  unfold encB
  rw [List.length_append, List.length_singleton]
  have h3 := Nat.mul_le_mul_right 20100 h2
  omega
abbrev EncPost (w : World) (q : Q) (e : Ending) (w' : World) : Prop :=
  (okQ q = true ∧ ∃ v, e = .returned (.tuple #[v, .int .i64 0]) ∧ Made w w' v (encB q)) ∨ (okQ q = false ∧ e = .returned (.tuple #[.slice none 0 0, .int .i64 1]) ∧ Below w.heap.size w w')
theorem all_calls (A : Option Addr) (l : List S54) (c : Nat) (w : World) (h : Kd.C k54 w A l.length l) (hc : l.length ≤ c) (hl : l.length ≤ 100) : Calls Try.prog 89 #[.slice A l.length c] w fun e w' => e = .returned (.bool (l.all rightS)) ∧ Below w.heap.size w w' :=
  value_All.calls 1000 A c l _ w h hc (all_f 1000 l (by omega) (by omega))
set_option maxHeartbeats 8000000 in
set_option maxRecDepth 100000 in
theorem encode_calls (q : Q) (w : World) (ok : Ok q) : Calls Try.prog 58 #[.agg q.cells] w (EncPost w q) := by
  have HOK := Lib.hid ok
  obtain ⟨ps, hps⟩ : ∃ ps, partsOf q.k = ps := ⟨_, rfl⟩
  have HPS := Lib.hid hps
  obtain ⟨okk, hokk⟩ : ∃ okk, okK q.k = okk := ⟨_, rfl⟩
  have HOKK := Lib.hid hokk
  obtain ⟨n, hn⟩ : ∃ n, ps.length = n := ⟨_, rfl⟩
  have hn2 : n ≤ 2 := by rw [← hn, ← hps]; exact parts_len _
  have HLEN := Lib.hid hn
  have hk0 := ok.k0
  have hk1 := ok.k1
  have HENC := Lib.hid (show encB q = [q.k] ++ encP ps q by unfold encB; rw [hps])
  clear ok hps hokk hn
  go_enter Try.func58, Try.ntmps58
  go_upto_region 2 with (go_at_call 88; go_loud (refine (parts_calls q.k _).mono ?_; unfold PartsPost; rw [HPS.out, HOKK.out, HLEN.out]; rintro en w2 ⟨A, c, rfl, hpl, hB2⟩; have HPL2 := Lib.hid hpl; have HQ2 := Lib.hid (blk_below (blk_new w _) hB2); have HB2 := Lib.hid (below_step (below_alloc (Below.refl w.heap.size w) _) hB2); clear hpl hB2))
  have hz2 : w.heap.size < w2.heap.size := blk_lt HQ2.out
  have s0 := blk_cell HQ2.out 0
  have s5 : w2.cell? ⟨w.heap.size, 5, none⟩ = some (.int .u8 q.kk) := blk_cell HQ2.out 5
  have s6 : w2.cell? ⟨w.heap.size, 6, none⟩ = some (.int .i64 q.kn) := blk_cell HQ2.out 6
  have s7 : w2.cell? ⟨w.heap.size, 7, none⟩ = some (.string q.ks) := blk_cell HQ2.out 7
  have s8 : w2.cell? ⟨w.heap.size, 8, none⟩ = some (.int .u8 q.vk) := blk_cell HQ2.out 8
  have s9 : w2.cell? ⟨w.heap.size, 9, none⟩ = some (.int .i64 q.vn) := blk_cell HQ2.out 9
  have s10 : w2.cell? ⟨w.heap.size, 10, none⟩ = some (.string q.vs) := blk_cell HQ2.out 10
  cases okk
  · have HNO := Lib.hid (show okQ q = false by unfold okQ; rw [HOKK.out]; rfl)
    go_wp2
    go_ret2
    exact .inr ⟨HNO.out, rfl, HB2.out⟩
  obtain ⟨rq, hrq⟩ : ∃ rq, rightQ q = rq := ⟨_, rfl⟩
  have HRQ := Lib.hid hrq
  clear hrq
  have HALL := Lib.hid (show Calls Try.prog 89 #[.slice (some ⟨w2.heap.size, 0, none⟩) 2 2] (w2.alloc (.cells #[.int .u8 q.kk, .int .i64 q.kn, .string q.ks, .int .u8 q.vk, .int .i64 q.vn, .string q.vs] 54)) fun e w' => e = .returned (.bool rq) ∧ Below (w2.alloc (.cells #[.int .u8 q.kk, .int .i64 q.kn, .string q.ks, .int .u8 q.vk, .int .i64 q.vn, .string q.vs] 54)).heap.size (w2.alloc (.cells #[.int .u8 q.kk, .int .i64 q.kn, .string q.ks, .int .u8 q.vk, .int .i64 q.vn, .string q.vs] 54)) w' from by
    have h := all_calls (some ⟨w2.heap.size, 0, none⟩) [⟨q.kk, q.kn, q.ks⟩, ⟨q.vk, q.vn, q.vs⟩] 2 _ (two_C (w := w2.alloc (.cells #[.int .u8 q.kk, .int .i64 q.kn, .string q.ks, .int .u8 q.vk, .int .i64 q.vn, .string q.vs] 54)) (b := w2.heap.size) ⟨q.kk, q.kn, q.ks⟩ ⟨q.vk, q.vn, q.vs⟩ (blk_new w2 _)) (Nat.le_refl 2) (by simp)
    have e : ([⟨q.kk, q.kn, q.ks⟩, ⟨q.vk, q.vn, q.vs⟩] : List S54).all rightS = rq := by
      rw [← HRQ.out]
      unfold rightQ
      simp only [List.all_cons, List.all_nil, Bool.and_true]
    rw [e] at h
    exact h)
  cases rq
  · have HNO := Lib.hid (show okQ q = false by unfold okQ; rw [HRQ.out, Bool.and_false]; rfl)
    go_wp2_with (go_at_call 89; go_loud (refine HALL.out.mono ?_; rintro en w3 ⟨rfl, hB3⟩; have HB3 := Lib.hid (below_step (below_alloc HB2.out _) hB3); clear hB3))
    go_ret2
    exact .inr ⟨HNO.out, rfl, HB3.out⟩
  go_upto_region 5 with (go_at_call 89; go_loud (refine HALL.out.mono ?_; rintro en w3 ⟨rfl, hB3⟩; have HB3 := Lib.hid (below_step (below_alloc HB2.out _) hB3); have HQ3 := Lib.hid (blk_below (blk_alloc HQ2.out _) hB3); have HPL3 := Lib.hid ((HPL2.out.below (below_alloc (Below.refl _ _) _)).below hB3); have t0 := blk_cell HQ3.out 0; have hz3 : w.heap.size < w3.heap.size := blk_lt HQ3.out; clear hB3))
  clear s0 s5 s6 s7 s8 s9 s10
  have HM0 := Lib.hid (show Made w (w3.alloc (.cells #[.int .u8 q.k] 5)) (.slice (some ⟨w3.heap.size, 0, none⟩) 1 1) ([q.k] ++ encP (ps.take 0) q) from ⟨own_one _ _ (by omega), below_alloc HB3.out _⟩)
  have HQ4 := Lib.hid (blk_alloc HQ3.out (.cells #[.int .u8 q.k] 5))
  have HPL4 := Lib.hid (HPL3.out.below (below_alloc (Below.refl _ _) (.cells #[.int .u8 q.k] 5)))
  clear t0
  go_wp2
  go_loopw [6, 35] (fun b i wr => ∃ (j : Nat), i = .int .i64 j ∧ j ≤ n ∧ Made w wr b ([q.k] ++ encP (ps.take j) q) ∧ QB wr w.heap.size q ∧ PL wr (w.alloc (.cells q.cells 104)).heap.size A ps) (fun _ i _ => n - (intOf i).toNat)
  case atStart => exact ⟨0, rfl, by omega, HM0.out, HQ4.out, HPL4.out⟩
  case round =>
    obtain ⟨j, rfl, hj, hM, hQ, hPL⟩ := hrel
    have HM := Lib.hid hM
    have HQR := Lib.hid hQ
    have HPLR := Lib.hid hPL
    have hzr : w.heap.size < wr.heap.size := blk_lt hQ
    clear hM hQ hPL
    by_cases hlt : j < n
    · obtain ⟨p, hp⟩ : ∃ p, ps[j]? = some p := ⟨ps[j]'(by rw [HLEN.out]; exact hlt), by rw [List.getElem?_eq_getElem]⟩
      obtain ⟨ad, rfl, c0, c1⟩ := HPLR.out.at j p hp
      have HP := Lib.hid hp
      have HLN := Lib.hid (show ([q.k] ++ encP (ps.take j) q).length ≤ 1000000 by
        have h1 := encP_len (ps.take j) q HOK.out
        rw [List.length_take] at h1
        have h2 : min j ps.length ≤ 2 := by have := HLEN.out; omega
        have h3 := Nat.mul_le_mul_right 20100 h2
        rw [List.length_append, List.length_singleton]
        omega)
      clear hp
      have hrow : rowOf wr w.heap.size = some #[.int .u8 q.k, .int .u64 q.hh, .int .u64 q.hl, .int .u8 q.o, .int .u8 q.c, .int .u8 q.kk, .int .i64 q.kn, .string q.ks, .int .u8 q.vk, .int .i64 q.vn, .string q.vs, .int .i64 q.fr, .int .i64 q.n, .int .u32 q.tw, .int .u8 q.ri, .int .u64 q.oh, .int .u64 q.ol] := rowOf_of HQR.out rfl
      cases p
      · as_aux_lemma => (
        replace c0 : wr.cell? (ad.add (j * 2)) = some (.func (.func 118) #[] #[]) := c0
        replace c1 : wr.cell? ⟨(ad.add (j * 2)).block, (ad.add (j * 2)).off + 1, none⟩ = some (.func (.func 120) #[] #[]) := c1
        go_wp2_with (go_at_call 118; go_loud (refine (put_handle _ ([q.k] ++ encP (ps.take j) q) q _ (HM.out.byt.below (by repeat (first | (with_reducible first | exact Below.refl _ _ | apply below_alloc | apply pw_below_drewN | apply below_drew1)))) HLN.out HOK.out).mono ?_; rintro en w6 ⟨v6, rfl, hM6⟩; have HM6 := Lib.hid (made_step (below_step HM.out.2 (by repeat (first | (with_reducible first | exact Below.refl _ _ | apply below_alloc | apply pw_below_drewN | apply below_drew1)))) hM6); have HP6 := Lib.hid (blk_below (blk_below HQR.out (by repeat (first | (with_reducible first | exact Below.refl _ _ | apply below_alloc | apply pw_below_drewN | apply below_drew1)))) hM6.2); have HL6 := Lib.hid ((HPLR.out.below (by repeat (first | (with_reducible first | exact Below.refl _ _ | apply below_alloc | apply pw_below_drewN | apply below_drew1)))).below hM6.2); clear hM6))
        go_roundw
        case rel =>
          refine ⟨j + 1, by simp, by omega, ?_, HP6.out, HL6.out⟩
          rw [take_one ps j _ HP.out, encP_snoc, ← List.append_assoc]
          exact HM6.out
        case measure => simp [intOf]; omega
        )
      · as_aux_lemma => (
        replace c0 : wr.cell? (ad.add (j * 2)) = some (.func (.func 128) #[] #[]) := c0
        replace c1 : wr.cell? ⟨(ad.add (j * 2)).block, (ad.add (j * 2)).off + 1, none⟩ = some (.func (.func 129) #[] #[]) := c1
        go_wp2_with (go_at_call 128; go_loud (refine (put_other _ ([q.k] ++ encP (ps.take j) q) q _ (HM.out.byt.below (by repeat (first | (with_reducible first | exact Below.refl _ _ | apply below_alloc | apply pw_below_drewN | apply below_drew1)))) HLN.out HOK.out).mono ?_; rintro en w6 ⟨v6, rfl, hM6⟩; have HM6 := Lib.hid (made_step (below_step HM.out.2 (by repeat (first | (with_reducible first | exact Below.refl _ _ | apply below_alloc | apply pw_below_drewN | apply below_drew1)))) hM6); have HP6 := Lib.hid (blk_below (blk_below HQR.out (by repeat (first | (with_reducible first | exact Below.refl _ _ | apply below_alloc | apply pw_below_drewN | apply below_drew1)))) hM6.2); have HL6 := Lib.hid ((HPLR.out.below (by repeat (first | (with_reducible first | exact Below.refl _ _ | apply below_alloc | apply pw_below_drewN | apply below_drew1)))).below hM6.2); clear hM6))
        go_roundw
        case rel =>
          refine ⟨j + 1, by simp, by omega, ?_, HP6.out, HL6.out⟩
          rw [take_one ps j _ HP.out, encP_snoc, ← List.append_assoc]
          exact HM6.out
        case measure => simp [intOf]; omega
        )
      · as_aux_lemma => (
        replace c0 : wr.cell? (ad.add (j * 2)) = some (.func (.func 116) #[] #[]) := c0
        replace c1 : wr.cell? ⟨(ad.add (j * 2)).block, (ad.add (j * 2)).off + 1, none⟩ = some (.func (.func 117) #[] #[]) := c1
        go_wp2_with (go_at_call 116; go_loud (refine (put_kind _ ([q.k] ++ encP (ps.take j) q) q _ (HM.out.byt.below (by repeat (first | (with_reducible first | exact Below.refl _ _ | apply below_alloc | apply pw_below_drewN | apply below_drew1)))) HLN.out HOK.out).mono ?_; rintro en w6 ⟨v6, rfl, hM6⟩; have HM6 := Lib.hid (made_step (below_step HM.out.2 (by repeat (first | (with_reducible first | exact Below.refl _ _ | apply below_alloc | apply pw_below_drewN | apply below_drew1)))) hM6); have HP6 := Lib.hid (blk_below (blk_below HQR.out (by repeat (first | (with_reducible first | exact Below.refl _ _ | apply below_alloc | apply pw_below_drewN | apply below_drew1)))) hM6.2); have HL6 := Lib.hid ((HPLR.out.below (by repeat (first | (with_reducible first | exact Below.refl _ _ | apply below_alloc | apply pw_below_drewN | apply below_drew1)))).below hM6.2); clear hM6))
        go_roundw
        case rel =>
          refine ⟨j + 1, by simp, by omega, ?_, HP6.out, HL6.out⟩
          rw [take_one ps j _ HP.out, encP_snoc, ← List.append_assoc]
          exact HM6.out
        case measure => simp [intOf]; omega
        )
      · as_aux_lemma => (
        replace c0 : wr.cell? (ad.add (j * 2)) = some (.func (.func 126) #[] #[]) := c0
        replace c1 : wr.cell? ⟨(ad.add (j * 2)).block, (ad.add (j * 2)).off + 1, none⟩ = some (.func (.func 127) #[] #[]) := c1
        go_wp2_with (go_at_call 126; go_loud (refine (put_gift _ ([q.k] ++ encP (ps.take j) q) q _ (HM.out.byt.below (by repeat (first | (with_reducible first | exact Below.refl _ _ | apply below_alloc | apply pw_below_drewN | apply below_drew1)))) HLN.out HOK.out).mono ?_; rintro en w6 ⟨v6, rfl, hM6⟩; have HM6 := Lib.hid (made_step (below_step HM.out.2 (by repeat (first | (with_reducible first | exact Below.refl _ _ | apply below_alloc | apply pw_below_drewN | apply below_drew1)))) hM6); have HP6 := Lib.hid (blk_below (blk_below HQR.out (by repeat (first | (with_reducible first | exact Below.refl _ _ | apply below_alloc | apply pw_below_drewN | apply below_drew1)))) hM6.2); have HL6 := Lib.hid ((HPLR.out.below (by repeat (first | (with_reducible first | exact Below.refl _ _ | apply below_alloc | apply pw_below_drewN | apply below_drew1)))).below hM6.2); clear hM6))
        go_roundw
        case rel =>
          refine ⟨j + 1, by simp, by omega, ?_, HP6.out, HL6.out⟩
          rw [take_one ps j _ HP.out, encP_snoc, ← List.append_assoc]
          exact HM6.out
        case measure => simp [intOf]; omega
        )
      · as_aux_lemma => (
        replace c0 : wr.cell? (ad.add (j * 2)) = some (.func (.func 122) #[] #[]) := c0
        replace c1 : wr.cell? ⟨(ad.add (j * 2)).block, (ad.add (j * 2)).off + 1, none⟩ = some (.func (.func 123) #[] #[]) := c1
        go_wp2_with (go_at_call 122; go_loud (refine (put_looks _ ([q.k] ++ encP (ps.take j) q) q _ (HM.out.byt.below (by repeat (first | (with_reducible first | exact Below.refl _ _ | apply below_alloc | apply pw_below_drewN | apply below_drew1)))) HLN.out HOK.out).mono ?_; rintro en w6 ⟨v6, rfl, hM6⟩; have HM6 := Lib.hid (made_step (below_step HM.out.2 (by repeat (first | (with_reducible first | exact Below.refl _ _ | apply below_alloc | apply pw_below_drewN | apply below_drew1)))) hM6); have HP6 := Lib.hid (blk_below (blk_below HQR.out (by repeat (first | (with_reducible first | exact Below.refl _ _ | apply below_alloc | apply pw_below_drewN | apply below_drew1)))) hM6.2); have HL6 := Lib.hid ((HPLR.out.below (by repeat (first | (with_reducible first | exact Below.refl _ _ | apply below_alloc | apply pw_below_drewN | apply below_drew1)))).below hM6.2); clear hM6))
        go_roundw
        case rel =>
          refine ⟨j + 1, by simp, by omega, ?_, HP6.out, HL6.out⟩
          rw [take_one ps j _ HP.out, encP_snoc, ← List.append_assoc]
          exact HM6.out
        case measure => simp [intOf]; omega
        )
      · as_aux_lemma => (
        replace c0 : wr.cell? (ad.add (j * 2)) = some (.func (.func 124) #[] #[]) := c0
        replace c1 : wr.cell? ⟨(ad.add (j * 2)).block, (ad.add (j * 2)).off + 1, none⟩ = some (.func (.func 125) #[] #[]) := c1
        go_wp2_with (go_at_call 124; go_loud (refine (put_changes _ ([q.k] ++ encP (ps.take j) q) q _ (HM.out.byt.below (by repeat (first | (with_reducible first | exact Below.refl _ _ | apply below_alloc | apply pw_below_drewN | apply below_drew1)))) HLN.out HOK.out).mono ?_; rintro en w6 ⟨v6, rfl, hM6⟩; have HM6 := Lib.hid (made_step (below_step HM.out.2 (by repeat (first | (with_reducible first | exact Below.refl _ _ | apply below_alloc | apply pw_below_drewN | apply below_drew1)))) hM6); have HP6 := Lib.hid (blk_below (blk_below HQR.out (by repeat (first | (with_reducible first | exact Below.refl _ _ | apply below_alloc | apply pw_below_drewN | apply below_drew1)))) hM6.2); have HL6 := Lib.hid ((HPLR.out.below (by repeat (first | (with_reducible first | exact Below.refl _ _ | apply below_alloc | apply pw_below_drewN | apply below_drew1)))).below hM6.2); clear hM6))
        go_roundw
        case rel =>
          refine ⟨j + 1, by simp, by omega, ?_, HP6.out, HL6.out⟩
          rw [take_one ps j _ HP.out, encP_snoc, ← List.append_assoc]
          exact HM6.out
        case measure => simp [intOf]; omega
        )
    · obtain rfl : j = n := by omega
      have hm := HM.out
      rw [← HLEN.out, List.take_length, ← HENC.out] at hm
      have HME := Lib.hid hm
      clear hm
      obtain ⟨⟨r, e⟩, hre⟩ : ∃ x, reqP (encB q) = x := ⟨_, rfl⟩
      have HRE := Lib.hid hre
      clear hre
      by_cases he : e = 0
      · subst he
        obtain ⟨sm, hsm⟩ : ∃ sm, sameQ ⟨r.k, r.hh, r.hl, r.o, r.c, r.kk, r.kn, r.ks, r.vk, r.vn, r.vs, r.fr, r.n, r.tw, r.ri, r.oh, r.ol⟩ ⟨q.k, q.hh, q.hl, q.o, q.c, q.kk, q.kn, q.ks, q.vk, q.vn, q.vs, q.fr, q.n, q.tw, q.ri, q.oh, q.ol⟩ = sm := ⟨_, rfl⟩
        have HSM := Lib.hid (show sameQ r q = sm from hsm)
        cases sm
        · have HNO := Lib.hid (show okQ q = false by unfold okQ; rw [HRE.out]; dsimp only; rw [HSM.out, Bool.and_false])
          go_wp2_with (go_at_call 55; go_loud (refine (parse_calls _ (encB q) _ HME.out.byt (by have := encB_len q HOK.out; omega) (encB_bs q HOK.out)).mono ?_; rw [HRE.out]; rintro en w6 ⟨rfl, hB6⟩; have hq6 := blk_below HQR.out hB6; have HB6 := Lib.hid hB6; have HB7 := Lib.hid (below_step HME.out.2 hB6); have hz6 : w.heap.size < w6.heap.size := blk_lt hq6; have hrow6 : rowOf w6 w.heap.size = some #[.int .u8 q.k, .int .u64 q.hh, .int .u64 q.hl, .int .u8 q.o, .int .u8 q.c, .int .u8 q.kk, .int .i64 q.kn, .string q.ks, .int .u8 q.vk, .int .i64 q.vn, .string q.vs, .int .i64 q.fr, .int .i64 q.n, .int .u32 q.tw, .int .u8 q.ri, .int .u64 q.oh, .int .u64 q.ol] := rowOf_of hq6 rfl; clear hB6 hq6))
          go_ret2
          exact .inr ⟨HNO.out, rfl, below_alloc HB7.out _⟩
        · have HYES := Lib.hid (show okQ q = true by unfold okQ; rw [HRE.out]; dsimp only; rw [HSM.out, HOKK.out, HRQ.out]; rfl)
          go_wp2_with (go_at_call 55; go_loud (refine (parse_calls _ (encB q) _ HME.out.byt (by have := encB_len q HOK.out; omega) (encB_bs q HOK.out)).mono ?_; rw [HRE.out]; rintro en w6 ⟨rfl, hB6⟩; have hq6 := blk_below HQR.out hB6; have HB6 := Lib.hid hB6; have HB7 := Lib.hid (below_step HME.out.2 hB6); have hz6 : w.heap.size < w6.heap.size := blk_lt hq6; have hrow6 : rowOf w6 w.heap.size = some #[.int .u8 q.k, .int .u64 q.hh, .int .u64 q.hl, .int .u8 q.o, .int .u8 q.c, .int .u8 q.kk, .int .i64 q.kn, .string q.ks, .int .u8 q.vk, .int .i64 q.vn, .string q.vs, .int .i64 q.fr, .int .i64 q.n, .int .u32 q.tw, .int .u8 q.ri, .int .u64 q.oh, .int .u64 q.ol] := rowOf_of hq6 rfl; clear hB6 hq6))
          go_ret2
          exact .inl ⟨HYES.out, _, rfl, made_below (made_below HME.out HB6.out) (below_alloc (Below.refl _ _) _)⟩
      · have HNO := Lib.hid (show okQ q = false by unfold okQ; rw [HRE.out]; dsimp only; rw [show (e == 0) = false by simpa using he]; simp)
        have be : (e != 0) = true := by simpa using he
        go_wp2_with (go_at_call 55; go_loud (refine (parse_calls _ (encB q) _ HME.out.byt (by have := encB_len q HOK.out; omega) (encB_bs q HOK.out)).mono ?_; rw [HRE.out]; rintro en w6 ⟨rfl, hB6⟩; have hq6 := blk_below HQR.out hB6; have HB6 := Lib.hid hB6; have HB7 := Lib.hid (below_step HME.out.2 hB6); have hz6 : w.heap.size < w6.heap.size := blk_lt hq6; have hrow6 : rowOf w6 w.heap.size = some #[.int .u8 q.k, .int .u64 q.hh, .int .u64 q.hl, .int .u8 q.o, .int .u8 q.c, .int .u8 q.kk, .int .i64 q.kn, .string q.ks, .int .u8 q.vk, .int .i64 q.vn, .string q.vs, .int .i64 q.fr, .int .i64 q.n, .int .u32 q.tw, .int .u8 q.ri, .int .u64 q.oh, .int .u64 q.ol] := rowOf_of hq6 rfl; clear hB6 hq6))
        go_ret2
        exact .inr ⟨HNO.out, rfl, below_alloc HB7.out _⟩
end Go.Proofs.Ytaoacibahdbdkaa.Req
/-! request: what is parsed is what was encoded, in plain words. -/
namespace Go.Proofs.Ytaoacibahdbdkaa.Req
open Go.RowKit Go Go.Proofs.Ytaoacibahdbdkaa.QRequestParses Go.Proofs.YtaoacibahdbdkaaW.PrintWords Go.Proofs.Ytaoacibahdbdkaa.Fra Go.Proofs.Ytaoacibahdbdkaa.Pk Go.Proofs.Ytaoacibahdbdkaa.Bts Go.Proofs.Ytaoacibahdbdkaa.Pr Go.Proofs.Ytaoacibahdbdkaa.Rep
/-- A number of so many bytes. -/
theorem num_ok {xs bs ys : List Int} {f : Int} {n : Nat} (hb : Bs xs) (h : takeP xs f n = (bs, ys, 0)) (hn : n ≤ 8) : f = 0 ∧ xs = leB (numB bs) n ++ ys ∧ Bs ys ∧ 0 ≤ numB bs ∧ numB bs < 256 ^ n := by
  obtain ⟨rfl, rfl, hl⟩ := takeP_ok h
  have hb1 := bs_left hb
  have hs := numB_small hb1 (Nat.le_of_eq hl) hn
  refine ⟨rfl, ?_, bs_right hb, hs.1, hs.2⟩
  rw [← hl, leB_numB bs hb1]
theorem val_in (xs : List Int) (f : Int) : -9223372036854775808 ≤ (valueP xs f).1.2.1 ∧ (valueP xs f).1.2.1 ≤ 9223372036854775807 := by
  have wr : ∀ a : Int, -9223372036854775808 ≤ wrap64 a ∧ wrap64 a ≤ 9223372036854775807 := fun a => by unfold wrap64; omega
  have hm : -9223372036854775808 ≤ (valM xs f).2.1 ∧ (valM xs f).2.1 ≤ 9223372036854775807 := by
    unfold valM
    dsimp only
    split
    · exact wr _
    · split
      · exact wr _
      · split <;> (dsimp only; omega)
  rw [valueP_eq]
  unfold endV
  dsimp only
  generalize (if (valM xs f).2.2.2.2 = 0 ∧ Pr.rightV (valM xs f).1 (valM xs f).2.1 (valM xs f).2.2.1 = false then (10 : Int) else (valM xs f).2.2.2.2) = E
  by_cases hE : E = 0
  · rw [if_pos hE]; exact hm
  · rw [if_neg hE]; dsimp only; omega
/-- A value. -/
theorem val_ok {xs ys : List Int} {f k n : Int} {s : ByteArray} (hb : Bs xs) (h : valueP xs f = ((k, n, s), ys, 0)) : f = 0 ∧ xs = valB k n s ++ ys ∧ Bs ys ∧ rightS ⟨k, n, s⟩ = true ∧ -9223372036854775808 ≤ n ∧ n ≤ 9223372036854775807 := by
  obtain ⟨rfl, e, hr⟩ := valueP_ok hb h
  have hi := val_in xs 0
  rw [h] at hi
  refine ⟨rfl, e, ?_, ?_, hi⟩
  · rw [e] at hb; exact bs_right hb
  · show Rep.rightV k n s = true
    rw [← rightV_eq]; exact hr
theorem handle_ok {q0 q : Q} {xs ys : List Int} {f : Int} (hb : Bs xs) (h : gHandle q0 xs f = (q, ys, 0)) : ∃ a b, q = {q0 with hh := a, hl := b} ∧ f = 0 ∧ xs = leB a 8 ++ leB b 8 ++ ys ∧ Bs ys ∧ (0 ≤ a ∧ a < 256 ^ 8) ∧ (0 ≤ b ∧ b < 256 ^ 8) := by
  unfold gHandle at h
  obtain ⟨b1, x1, f1, h1⟩ : ∃ b x g, takeP xs f 8 = (b, x, g) := ⟨_, _, _, rfl⟩
  rw [h1] at h
  dsimp only at h
  obtain ⟨b2, x2, f2, h2⟩ : ∃ b x g, takeP x1 f1 8 = (b, x, g) := ⟨_, _, _, rfl⟩
  rw [h2] at h
  simp only [Prod.mk.injEq] at h
  obtain ⟨rfl, rfl, rfl⟩ := h
  have hx1 := (takeP_bs1 h1 hb).2.1
  obtain ⟨rfl, rfl, hy, hn2⟩ := num_ok hx1 h2 (by omega)
  obtain ⟨rfl, e1, _, hn1⟩ := num_ok hb h1 (by omega)
  exact ⟨_, _, rfl, rfl, by rw [e1, List.append_assoc], hy, hn1, hn2⟩
theorem other_ok {q0 q : Q} {xs ys : List Int} {f : Int} (hb : Bs xs) (h : gOther q0 xs f = (q, ys, 0)) : ∃ a b, q = {q0 with oh := a, ol := b} ∧ f = 0 ∧ xs = leB a 8 ++ leB b 8 ++ ys ∧ Bs ys ∧ (0 ≤ a ∧ a < 256 ^ 8) ∧ (0 ≤ b ∧ b < 256 ^ 8) := by
  unfold gOther at h
  obtain ⟨b1, x1, f1, h1⟩ : ∃ b x g, takeP xs f 8 = (b, x, g) := ⟨_, _, _, rfl⟩
  rw [h1] at h
  dsimp only at h
  obtain ⟨b2, x2, f2, h2⟩ : ∃ b x g, takeP x1 f1 8 = (b, x, g) := ⟨_, _, _, rfl⟩
  rw [h2] at h
  simp only [Prod.mk.injEq] at h
  obtain ⟨rfl, rfl, rfl⟩ := h
  have hx1 := (takeP_bs1 h1 hb).2.1
  obtain ⟨rfl, rfl, hy, hn2⟩ := num_ok hx1 h2 (by omega)
  obtain ⟨rfl, e1, _, hn1⟩ := num_ok hb h1 (by omega)
  exact ⟨_, _, rfl, rfl, by rw [e1, List.append_assoc], hy, hn1, hn2⟩
theorem kind_ok {q0 q : Q} {xs ys : List Int} {f : Int} (hb : Bs xs) (h : gKind q0 xs f = (q, ys, 0)) : ∃ a, q = {q0 with o := a} ∧ f = 0 ∧ xs = leB a 1 ++ ys ∧ Bs ys ∧ (0 ≤ a ∧ a < 256 ^ 1) := by
  unfold gKind at h
  obtain ⟨b1, x1, f1, h1⟩ : ∃ b x g, takeP xs f 1 = (b, x, g) := ⟨_, _, _, rfl⟩
  rw [h1] at h
  simp only [Prod.mk.injEq] at h
  obtain ⟨rfl, rfl, rfl⟩ := h
  obtain ⟨rfl, e1, hy, hn1⟩ := num_ok hb h1 (by omega)
  exact ⟨_, rfl, rfl, e1, hy, hn1⟩
theorem gift_ok {q0 q : Q} {xs ys : List Int} {f : Int} (hb : Bs xs) (h : gGift q0 xs f = (q, ys, 0)) : ∃ a b, q = {q0 with tw := a, ri := b} ∧ f = 0 ∧ xs = leB a 4 ++ leB b 1 ++ ys ∧ Bs ys ∧ (0 ≤ a ∧ a < 256 ^ 4) ∧ (0 ≤ b ∧ b < 256 ^ 1) := by
  unfold gGift at h
  obtain ⟨b1, x1, f1, h1⟩ : ∃ b x g, takeP xs f 4 = (b, x, g) := ⟨_, _, _, rfl⟩
  rw [h1] at h
  dsimp only at h
  obtain ⟨b2, x2, f2, h2⟩ : ∃ b x g, takeP x1 f1 1 = (b, x, g) := ⟨_, _, _, rfl⟩
  rw [h2] at h
  simp only [Prod.mk.injEq] at h
  obtain ⟨rfl, rfl, rfl⟩ := h
  have hx1 := (takeP_bs1 h1 hb).2.1
  obtain ⟨rfl, rfl, hy, hn2⟩ := num_ok hx1 h2 (by omega)
  obtain ⟨rfl, e1, _, hn1⟩ := num_ok hb h1 (by omega)
  exact ⟨_, _, rfl, rfl, by rw [e1, List.append_assoc], hy, hn1, hn2⟩
theorem looks_ok {q0 q : Q} {xs ys : List Int} {f : Int} (hb : Bs xs) (h : gLooks q0 xs f = (q, ys, 0)) : ∃ a kk kn ks b d, q = {q0 with c := a, kk := kk, kn := kn, ks := ks, fr := b, n := d} ∧ f = 0 ∧ xs = leB a 1 ++ valB kk kn ks ++ leB b 4 ++ leB d 2 ++ ys ∧ Bs ys ∧ (0 ≤ a ∧ a < 256 ^ 1) ∧ (0 ≤ b ∧ b < 256 ^ 4) ∧ (0 ≤ d ∧ d < 256 ^ 2) ∧ rightS ⟨kk, kn, ks⟩ = true ∧ -9223372036854775808 ≤ kn ∧ kn ≤ 9223372036854775807 := by
  unfold gLooks at h
  obtain ⟨b1, x1, f1, h1⟩ : ∃ b x g, takeP xs f 1 = (b, x, g) := ⟨_, _, _, rfl⟩
  rw [h1] at h
  dsimp only at h
  obtain ⟨⟨vk, vn, vs⟩, x2, f2, h2⟩ : ∃ b x g, valueP x1 f1 = (b, x, g) := ⟨_, _, _, rfl⟩
  rw [h2] at h
  dsimp only at h
  obtain ⟨b3, x3, f3, h3⟩ : ∃ b x g, takeP x2 f2 4 = (b, x, g) := ⟨_, _, _, rfl⟩
  rw [h3] at h
  dsimp only at h
  obtain ⟨b4, x4, f4, h4⟩ : ∃ b x g, takeP x3 f3 2 = (b, x, g) := ⟨_, _, _, rfl⟩
  rw [h4] at h
  simp only [Prod.mk.injEq] at h
  obtain ⟨rfl, rfl, rfl⟩ := h
  have hx1 := (takeP_bs1 h1 hb).2.1
  have hx2 : Bs x2 := by have := (valueP_bs x1 f1 hx1).1; rw [h2] at this; exact this
  have hx3 := (takeP_bs1 h3 hx2).2.1
  obtain ⟨rfl, e4, hy, hn4⟩ := num_ok hx3 h4 (by omega)
  obtain ⟨rfl, e3, _, hn3⟩ := num_ok hx2 h3 (by omega)
  obtain ⟨rfl, e2, _, hr, hi⟩ := val_ok hx1 h2
  obtain ⟨rfl, e1, _, hn1⟩ := num_ok hb h1 (by omega)
  exact ⟨_, _, _, _, _, _, rfl, rfl, by rw [e1, e2, e3, e4]; simp only [List.append_assoc], hy, hn1, hn3, hn4, hr, hi⟩
theorem changes_ok {q0 q : Q} {xs ys : List Int} {f : Int} (hb : Bs xs) (h : gChanges q0 xs f = (q, ys, 0)) : ∃ a kk kn ks vk vn vs, q = {q0 with c := a, kk := kk, kn := kn, ks := ks, vk := vk, vn := vn, vs := vs} ∧ f = 0 ∧ xs = leB a 1 ++ valB kk kn ks ++ valB vk vn vs ++ ys ∧ Bs ys ∧ (0 ≤ a ∧ a < 256 ^ 1) ∧ rightS ⟨kk, kn, ks⟩ = true ∧ (-9223372036854775808 ≤ kn ∧ kn ≤ 9223372036854775807) ∧ rightS ⟨vk, vn, vs⟩ = true ∧ -9223372036854775808 ≤ vn ∧ vn ≤ 9223372036854775807 := by
  unfold gChanges at h
  obtain ⟨b1, x1, f1, h1⟩ : ∃ b x g, takeP xs f 1 = (b, x, g) := ⟨_, _, _, rfl⟩
  rw [h1] at h
  dsimp only at h
  obtain ⟨⟨kk, kn, ks⟩, x2, f2, h2⟩ : ∃ b x g, valueP x1 f1 = (b, x, g) := ⟨_, _, _, rfl⟩
  rw [h2] at h
  dsimp only at h
  obtain ⟨⟨vk, vn, vs⟩, x3, f3, h3⟩ : ∃ b x g, valueP x2 f2 = (b, x, g) := ⟨_, _, _, rfl⟩
  rw [h3] at h
  simp only [Prod.mk.injEq] at h
  obtain ⟨rfl, rfl, rfl⟩ := h
  have hx1 := (takeP_bs1 h1 hb).2.1
  have hx2 : Bs x2 := by have := (valueP_bs x1 f1 hx1).1; rw [h2] at this; exact this
  obtain ⟨rfl, e3, hy, hr3, hi3⟩ := val_ok hx2 h3
  obtain ⟨rfl, e2, _, hr, hi⟩ := val_ok hx1 h2
  obtain ⟨rfl, e1, _, hn1⟩ := num_ok hb h1 (by omega)
  exact ⟨_, _, _, _, _, _, _, rfl, rfl, by rw [e1, e2, e3]; simp only [List.append_assoc], hy, hn1, hr, hi, hr3, hi3⟩
theorem rightS_0 : rightS ⟨0, 0, ⟨#[]⟩⟩ = true := by decide
theorem rightS_b {k n : Int} {s : ByteArray} (h : rightS ⟨k, n, s⟩ = true) : 0 ≤ k ∧ k ≤ 3 ∧ s.size ≤ 4096 := rightS_small h
/-- The parts of a kind, read: the request is whole, and its bytes are these. -/
theorem run_ok {k : Int} {q : Q} {xs : List Int} {f : Int} (hb : Bs xs) (hk : okK k = true) (h : runP (partsOf k) ({k := k}, xs, f) = (q, [], 0)) : f = 0 ∧ q.k = k ∧ xs = encP (partsOf k) q ∧ rightQ q = true ∧ Ok q ∧ 0 ≤ q.fr ∧ 0 ≤ q.n := by
  have e0 : ((⟨#[]⟩ : ByteArray).size) = 0 := rfl
  unfold okK at hk
  simp only [Bool.and_eq_true, decide_eq_true_eq] at hk
  rcases (by omega : k = 1 ∨ k = 7 ∨ k = 8 ∨ k = 2 ∨ (k = 3 ∨ k = 5) ∨ (k = 4 ∨ k = 6 ∨ k = 9 ∨ k = 10)) with rfl | rfl | rfl | rfl | hg | hg
  · have h : gKind {k := 1} xs f = (q, [], 0) := h
    obtain ⟨a, rfl, rfl, rfl, _, ha⟩ := kind_ok hb h
    refine ⟨rfl, rfl, ?_, ?_, ?_, Int.le_refl 0, Int.le_refl 0⟩
    · show _ = encP [.kind] _; simp [encP, pB]
    · unfold rightQ; dsimp only; rw [rightS_0]; rfl
    · constructor <;> dsimp only <;> omega
  · have h : gGift (gHandle {k := 7} xs f).1 (gHandle {k := 7} xs f).2.1 (gHandle {k := 7} xs f).2.2 = (q, [], 0) := h
    obtain ⟨q1, x1, f1, h1⟩ : ∃ a b c, gHandle {k := 7} xs f = (a, b, c) := ⟨_, _, _, rfl⟩
    rw [h1] at h
    have hx1 : Bs x1 := by have := (getP_bs .handle {k := 7} xs f hb).1; rw [show getP .handle {k := 7} xs f = (q1, x1, f1) from h1] at this; exact this
    obtain ⟨a, b, rfl, rfl, rfl, _, ha, hb2⟩ := gift_ok hx1 h
    obtain ⟨c, d, rfl, rfl, rfl, _, hc, hd⟩ := handle_ok hb h1
    refine ⟨rfl, rfl, ?_, ?_, ?_, Int.le_refl 0, Int.le_refl 0⟩
    · show _ = encP [.handle, .gift] _; simp [encP, pB]
    · unfold rightQ; dsimp only; rw [rightS_0]; rfl
    · constructor <;> dsimp only <;> omega
  · have h : gOther (gHandle {k := 8} xs f).1 (gHandle {k := 8} xs f).2.1 (gHandle {k := 8} xs f).2.2 = (q, [], 0) := h
    obtain ⟨q1, x1, f1, h1⟩ : ∃ a b c, gHandle {k := 8} xs f = (a, b, c) := ⟨_, _, _, rfl⟩
    rw [h1] at h
    have hx1 : Bs x1 := by have := (getP_bs .handle {k := 8} xs f hb).1; rw [show getP .handle {k := 8} xs f = (q1, x1, f1) from h1] at this; exact this
    obtain ⟨a, b, rfl, rfl, rfl, _, ha, hb2⟩ := other_ok hx1 h
    obtain ⟨c, d, rfl, rfl, rfl, _, hc, hd⟩ := handle_ok hb h1
    refine ⟨rfl, rfl, ?_, ?_, ?_, Int.le_refl 0, Int.le_refl 0⟩
    · show _ = encP [.handle, .other] _; simp [encP, pB]
    · unfold rightQ; dsimp only; rw [rightS_0]; rfl
    · constructor <;> dsimp only <;> omega
  · have h : gLooks (gHandle {k := 2} xs f).1 (gHandle {k := 2} xs f).2.1 (gHandle {k := 2} xs f).2.2 = (q, [], 0) := h
    obtain ⟨q1, x1, f1, h1⟩ : ∃ a b c, gHandle {k := 2} xs f = (a, b, c) := ⟨_, _, _, rfl⟩
    rw [h1] at h
    have hx1 : Bs x1 := by have := (getP_bs .handle {k := 2} xs f hb).1; rw [show getP .handle {k := 2} xs f = (q1, x1, f1) from h1] at this; exact this
    obtain ⟨a, kk, kn, ks, b, d, rfl, rfl, rfl, _, ha, hb2, hd2, hr, hi⟩ := looks_ok hx1 h
    obtain ⟨c, d', rfl, rfl, rfl, _, hc, hd⟩ := handle_ok hb h1
    obtain ⟨r1, r2, r3⟩ := rightS_b hr
    have m1 : b % 18446744073709551616 = b := by omega
    have m2 : d % 18446744073709551616 = d := by omega
    refine ⟨rfl, rfl, ?_, ?_, ?_, hb2.1, hd2.1⟩
    · show _ = encP [.handle, .looks] _; simp [encP, pB, m1, m2]
    · unfold rightQ; dsimp only; rw [rightS_0, hr]; rfl
    · constructor <;> dsimp only <;> omega
  · have hp : partsOf k = [.handle, .changes] := by rcases hg with rfl | rfl <;> rfl
    rw [hp] at h ⊢
    have h : gChanges (gHandle {k := k} xs f).1 (gHandle {k := k} xs f).2.1 (gHandle {k := k} xs f).2.2 = (q, [], 0) := h
    obtain ⟨q1, x1, f1, h1⟩ : ∃ a b c, gHandle {k := k} xs f = (a, b, c) := ⟨_, _, _, rfl⟩
    rw [h1] at h
    have hx1 : Bs x1 := by have := (getP_bs .handle {k := k} xs f hb).1; rw [show getP .handle {k := k} xs f = (q1, x1, f1) from h1] at this; exact this
    obtain ⟨a, kk, kn, ks, vk, vn, vs, rfl, rfl, rfl, _, ha, hr, hi, hr2, hi2⟩ := changes_ok hx1 h
    obtain ⟨c, d', rfl, rfl, rfl, _, hc, hd⟩ := handle_ok hb h1
    obtain ⟨r1, r2, r3⟩ := rightS_b hr
    obtain ⟨t1, t2, t3⟩ := rightS_b hr2
    refine ⟨rfl, rfl, ?_, ?_, ?_, Int.le_refl 0, Int.le_refl 0⟩
    · simp [encP, pB]
    · unfold rightQ; dsimp only; rw [hr2, hr]; rfl
    · constructor <;> dsimp only <;> omega
  · have hp : partsOf k = [.handle] := by rcases hg with rfl | rfl | rfl | rfl <;> rfl
    rw [hp] at h ⊢
    have h : gHandle {k := k} xs f = (q, [], 0) := h
    obtain ⟨c, d', rfl, rfl, rfl, _, hc, hd⟩ := handle_ok hb h
    refine ⟨rfl, rfl, ?_, ?_, ?_, Int.le_refl 0, Int.le_refl 0⟩
    · simp [encP, pB]
    · unfold rightQ; dsimp only; rw [rightS_0]; rfl
    · constructor <;> dsimp only <;> omega
theorem reqP_ok {xs : List Int} {q : Q} (hb : Bs xs) (h : reqP xs = (q, 0)) : xs = encB q ∧ okK q.k = true ∧ rightQ q = true ∧ Ok q ∧ 0 ≤ q.fr ∧ 0 ≤ q.n := by
  unfold reqP at h
  obtain ⟨b1, r1, f1, ht⟩ : ∃ a b c, takeP xs 0 1 = (a, b, c) := ⟨_, _, _, rfl⟩
  rw [ht] at h
  dsimp only at h
  split at h
  · simp at h
  · rename_i hc
    obtain ⟨q1, z, fz, hr⟩ : ∃ a b c, runP (partsOf (numB b1)) ({k := numB b1}, r1, f1) = (a, b, c) := ⟨_, _, _, rfl⟩
    rw [hr] at h
    dsimp only at h
    split at h
    · rename_i he
      obtain ⟨rfl, rfl⟩ := endP_zero he
      simp only [Prod.mk.injEq, and_true] at h
      subst h
      have hb1 := takeP_bs1 ht hb
      have hf : f1 = 0 := by
        by_cases hf : f1 = 0
        · exact hf
        · have hbs : b1 = [] := by have := takeP_wrong xs 0 1 (by rw [ht]; exact hf); rw [ht] at this; exact this
          have hp : partsOf (numB b1) = [] := by rw [hbs]; rfl
          rw [hp] at hr
          have hr : (({k := numB b1} : Q), r1, f1) = (q1, [], 0) := hr
          simp only [Prod.mk.injEq] at hr
          exact hr.2.2
      subst hf
      have hok : okK (numB b1) = true := by
        cases hk : okK (numB b1)
        · exact absurd ⟨rfl, hk⟩ hc
        · rfl
      obtain ⟨_, hk, e, h1, h2, h3, h4⟩ := run_ok hb1.2.1 hok hr
      obtain ⟨_, rfl, l1⟩ := takeP_ok ht
      obtain ⟨x, rfl, hx⟩ := one_byte l1
      refine ⟨?_, by rw [hk]; exact hok, h1, h2, h3, h4⟩
      unfold encB
      rw [hk, ← e, hx]
    · rename_i he
      simp only [Prod.mk.injEq] at h
      exact absurd h.2 he
theorem okQ_of {xs : List Int} {q : Q} (hb : Bs xs) (h : reqP xs = (q, 0)) : okQ q = true := by
  obtain ⟨e, h1, h2, _⟩ := reqP_ok hb h
  unfold okQ
  rw [← e, h, h1, h2, sameQ_self]
  rfl
theorem okQ_parse {q : Q} (h : okQ q = true) : okK q.k = true ∧ rightQ q = true ∧ reqP (encB q) = (q, 0) := by
  unfold okQ at h
  simp only [Bool.and_eq_true, beq_iff_eq, sameQ_iff] at h
  obtain ⟨⟨⟨h1, h2⟩, h3⟩, h4⟩ := h
  exact ⟨h1, h2, Prod.ext h4 h3⟩
end Go.Proofs.Ytaoacibahdbdkaa.Req
