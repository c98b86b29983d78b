/- Texts of this claim, laid together: ReqD, ReqE, ReqC. -/
import Derived.Test.YtaoacibahdbdkaaOa
import Derived.Test.YtaoacibahdbdkaaRq1
/-! request: Parse, as a contract. Printed by wip/tools/gen_reqd.py. -/
namespace Go.Proofs.Ytaoacibahdbdkaa.Req
open Go.RowKit Go Go.Proofs.Ytaoacibahdbdkaa.QRequestParses Go.Proofs.YtaoacibahdbdkaaW.PrintWords Go.Proofs.YtaoacibahdbdkaaW.PrintLast Go.Proofs.YtaoacibahdbdkaaW.PrintMore Go.Proofs.Ytaoacibahdbdkaa.Fra Go.Proofs.Ytaoacibahdbdkaa.Pk Go.Proofs.Ytaoacibahdbdkaa.Bts Go.Proofs.Ytaoacibahdbdkaa.Pr Go.Proofs.Ytaoacibahdbdkaa.Rep
attribute [local go_sem] run_store_func is_req_new World.setRow_alloc_new
attribute [local go_sem high] all_req
attribute [local go_sem] store_req
/-- The parts, one behind the other. -/
def runP (ps : List Part) (s : Q × List Int × Int) : Q × List Int × Int := ps.foldl (fun s p => getP p s.1 s.2.1 s.2.2) s
/-- What bytes say. -/
def reqP (xs : List Int) : Q × Int :=
  let t := takeP xs 0 1
  if t.2.2 = 0 ∧ okK (numB t.1) = false then ({}, 10)
  else
    let r := runP (partsOf (numB t.1)) ({k := numB t.1}, t.2.1, t.2.2)
    if endP r.2.1 r.2.2 = 0 then (r.1, 0) else ({}, endP r.2.1 r.2.2)
theorem getP_bs (p : Part) (q : Q) (xs : List Int) (f : Int) (h : Bs xs) : Bs (getP p q xs f).2.1 ∧ (getP p q xs f).2.1.length ≤ xs.length := by
  have tk : ∀ (xs : List Int) (f : Int) (n : Nat), Bs xs → Bs (takeP xs f n).2.1 ∧ (takeP xs f n).2.1.length ≤ xs.length := fun xs f n h => ⟨(takeP_bs h f n).2, takeP_left xs f n⟩
  have vl : ∀ (xs : List Int) (f : Int), Bs xs → Bs (valueP xs f).2.1 ∧ (valueP xs f).2.1.length ≤ xs.length := fun xs f h => valueP_bs xs f h
  cases p
  · obtain ⟨a1, a2⟩ := tk xs f 8 h
    obtain ⟨b1, b2⟩ := tk _ (takeP xs f 8).2.2 8 a1
    exact ⟨b1, Nat.le_trans b2 a2⟩
  · obtain ⟨a1, a2⟩ := tk xs f 8 h
    obtain ⟨b1, b2⟩ := tk _ (takeP xs f 8).2.2 8 a1
    exact ⟨b1, Nat.le_trans b2 a2⟩
  · exact tk xs f 1 h
  · obtain ⟨a1, a2⟩ := tk xs f 4 h
    obtain ⟨b1, b2⟩ := tk _ (takeP xs f 4).2.2 1 a1
    exact ⟨b1, Nat.le_trans b2 a2⟩
  · obtain ⟨a1, a2⟩ := tk xs f 1 h
    obtain ⟨b1, b2⟩ := vl _ (takeP xs f 1).2.2 a1
    obtain ⟨c1, c2⟩ := tk _ (valueP (takeP xs f 1).2.1 (takeP xs f 1).2.2).2.2 4 b1
    obtain ⟨d1, d2⟩ := tk _ (takeP (valueP (takeP xs f 1).2.1 (takeP xs f 1).2.2).2.1 (valueP (takeP xs f 1).2.1 (takeP xs f 1).2.2).2.2 4).2.2 2 c1
    exact ⟨d1, Nat.le_trans d2 (Nat.le_trans c2 (Nat.le_trans b2 a2))⟩
  · obtain ⟨a1, a2⟩ := tk xs f 1 h
    obtain ⟨b1, b2⟩ := vl _ (takeP xs f 1).2.2 a1
    obtain ⟨c1, c2⟩ := vl _ (valueP (takeP xs f 1).2.1 (takeP xs f 1).2.2).2.2 b1
    exact ⟨c1, Nat.le_trans c2 (Nat.le_trans b2 a2)⟩
theorem runP_snoc (ps : List Part) (p : Part) (s : Q × List Int × Int) : runP (ps ++ [p]) s = getP p (runP ps s).1 (runP ps s).2.1 (runP ps s).2.2 := by
  unfold runP
  rw [List.foldl_append]
  rfl
theorem take_one {α : Type} (l : List α) (j : Nat) (x : α) (h : l[j]? = some x) : l.take (j + 1) = l.take j ++ [x] := by
  rw [List.take_add_one, h]; rfl
/-- The world between two rounds. -/
structure RS (w wr : World) (B g b : Nat) (A : Option Addr) (ps : List Part) (s : Q × List Int × Int) : Prop where
  rd : Rd wr B g s.2.1 s.2.2
  qb : QB wr b s.1
  pl : PL wr (b + 1) A ps
  res : QB wr w.heap.size {}
  bel : Below w.heap.size w wr
  bs : Bs s.2.1
  hl : s.2.1.length ≤ 1000000
theorem RS.below {w wr w' : World} {B g b : Nat} {A : Option Addr} {ps : List Part} {s : Q × List Int × Int} (h : RS w wr B g b A ps s) (hb : Below wr.heap.size wr w') : RS w w' B g b A ps s :=
  ⟨h.rd.below hb, blk_below h.qb hb, h.pl.below hb, blk_below h.res hb, below_step h.bel hb, h.bs, h.hl⟩
theorem RS.get {w wr w' : World} {B g b : Nat} {A : Option Addr} {ps : List Part} {s : Q × List Int × Int} (h : RS w wr B g b A ps s) (p : Part) (hg : w.heap.size < g) (hB : g < b) {e : Ending} (hp : GetPost B g b wr (getP p s.1 s.2.1 s.2.2) e w') : e = .returned (.tuple #[]) ∧ RS w w' B g b A ps (getP p s.1 s.2.1 s.2.2) := by
  obtain ⟨e1, r1, r2, r3⟩ := hp
  obtain ⟨b1, b2⟩ := getP_bs p s.1 s.2.1 s.2.2 h.bs
  refine ⟨e1, r1, r2, h.pl.fr r3 (fun k hk => by omega), r3.blk h.res (by omega), ?_, b1, Nat.le_trans b2 h.hl⟩
  have hs := h.bel.size
  exact Fr.below (S := fun k => w.heap.size ≤ k) (Fr.then_ (Fr.of_below h.bel (fun k hk => .inl hk)) r3 (fun k hk => .inl (by omega))) (fun k hk => hk) (Nat.le_refl _)
set_option maxHeartbeats 8000000 in
set_option maxRecDepth 100000 in
theorem parse_calls (v : Value) (xs : List Int) (w : World) (hv : Byt w v xs) (hl : xs.length ≤ 1000000) (hb : Bs xs) :
    Calls Try.prog 55 #[v] w fun e w' => e = .returned (.tuple #[.agg (reqP xs).1.cells, .int .i64 (reqP xs).2]) ∧ Below w.heap.size w w' := by
  obtain ⟨bs, ys, f1, ht1⟩ : ∃ bs ys f, takeP xs 0 1 = (bs, ys, f) := ⟨_, _, _, rfl⟩
  obtain ⟨q1, q2, q3, q4⟩ := takeP_bs1 ht1 hb
  obtain ⟨u0, u1⟩ := num1 q1 q3
  obtain ⟨k, hk⟩ : ∃ k, numB bs = k := ⟨_, rfl⟩
  have hrq : reqP xs = if f1 = 0 ∧ okK k = false then ({}, 10) else if endP (runP (partsOf k) ({k := k}, ys, f1)).2.1 (runP (partsOf k) ({k := k}, ys, f1)).2.2 = 0 then ((runP (partsOf k) ({k := k}, ys, f1)).1, 0) else ({}, endP (runP (partsOf k) ({k := k}, ys, f1)).2.1 (runP (partsOf k) ({k := k}, ys, f1)).2.2) := by
    unfold reqP
    rw [ht1]
    dsimp only
    rw [hk]
  rw [hk] at u0 u1
  have em : k % 256 = k := by omega
  have HT1 := Lib.hid ht1
  have HK := Lib.hid hk
  have HRQ := Lib.hid hrq
  have HY := Lib.hid (show ys.length ≤ 1000000 by omega)
  have HYB := Lib.hid q2
  obtain ⟨ps, hps⟩ : ∃ ps, partsOf k = ps := ⟨_, rfl⟩
  have HPS := Lib.hid hps
  obtain ⟨okk, hokk⟩ : ∃ okk, okK k = okk := ⟨_, rfl⟩
  have HOKK := Lib.hid hokk
  have HNK := Lib.hid (show f1 ≠ 0 → ps = [] by
    intro hf
    have hbs : bs = [] := by have := takeP_wrong xs 0 1 (by rw [ht1]; exact hf); rw [ht1] at this; exact this
    rw [← hps, ← hk, hbs]
    rfl)
  have HN := Lib.hid (show ps.length ≤ 2 by rw [← hps]; unfold partsOf; repeat' split
                                            all_goals simp)
  clear ht1 hk hrq q1 q2 q3 hps hokk
  obtain ⟨n, hn⟩ : ∃ n, ps.length = n := ⟨_, rfl⟩
  have hn2 : n ≤ 2 := by rw [← hn]; exact HN.out
  have HLEN := Lib.hid hn
  clear hn
  go_enter Try.func55, Try.ntmps55
  go_upto_region 4 with (first
    | (go_at_call 88; go_loud (have _t := HRD2.out; refine (parts_calls k _).mono ?_; unfold PartsPost; rw [HPS.out, HOKK.out, HLEN.out]; rintro en w3 ⟨A, c, rfl, hpl, hB3⟩; have HPL3 := Lib.hid hpl; have HB3 := Lib.hid hB3; clear hpl hB3))
    | (go_at_call 32; go_loud (have _t := HRD1.out; refine (number_k 1 w1.heap.size g xs 0 1 _ rfl HRD1.out (by omega) hb).mono ?_; rw [HT1.out]; rw [HK.out]; rintro en w2 ⟨rfl, hr2, hf2⟩; have HRD2 := Lib.hid hr2; have HF2 := Lib.hid hf2; clear hr2 hf2))
    | (go_at_call 73; go_loud (refine (open_calls _ xs _ (hv.below (below_alloc (Below.refl _ _) _)) (by omega)).mono ?_; rintro en w1 ⟨g, rfl, hr1, hg1, hB1⟩; have HB1 := Lib.hid (below_step (below_alloc (Below.refl w.heap.size w) _) hB1); have HRD1 := Lib.hid hr1; have HZ1 := Lib.hid (blk_below (blk_new w _) hB1); have hgz : w.heap.size < g := (by have := hg1; simp at this; omega); clear hr1 hB1)))
  have HS := Lib.hid (show RS w w3 w1.heap.size g w2.heap.size A ps ({k := k}, ys, f1) from ⟨(HRD2.out.below (below_alloc (Below.refl _ _) _)).below HB3.out, blk_below (blk_new w2 _) HB3.out, by have := HPL3.out; rw [World.size_alloc] at this; exact this, blk_below (blk_alloc (HF2.out.blk HZ1.out (by omega)) _) HB3.out, below_step (below_alloc (fr_below HB1.out HF2.out (fun k hk => by omega) (Nat.le_refl _)) _) HB3.out, HYB.out, HY.out⟩)
  have hgb : g < w2.heap.size := by have h1 := HRD2.out.lt; have h2 : w1.heap.size ≤ w2.heap.size := HF2.out.size; omega
  have HBB := Lib.hid (show w1.heap.size ≤ w2.heap.size from HF2.out.size)
  have hzb : w.heap.size < w2.heap.size := by omega
  clear HRD2 HPL3 HB3 HF2 HZ1 HRD1 HB1
  have hor : (f1 = 0 ∧ okk = false) ∨ ((f1 == 0) = true ∧ okk = true) ∨ (f1 == 0) = false := by
    by_cases h0 : f1 = 0
    · cases okk
      · exact .inl ⟨h0, rfl⟩
      · exact .inr (.inl ⟨by simpa using h0, rfl⟩)
    · exact .inr (.inr (by simpa using h0))
  rcases hor with ⟨rfl, rfl⟩ | hor
  · have hres : reqP xs = ({}, 10) := by rw [HRQ.out, if_pos ⟨rfl, HOKK.out⟩]
    have HRES := Lib.hid hres
    clear hres
    have zr := is_req_of HS.out.res rfl
    go_wp2_with (go_at_call 36; go_loud (refine (failed_calls w1.heap.size g ys 0 _ HS.out.rd).mono ?_; rintro en w4 ⟨rfl, rfl⟩))
    refine bodyPost_ret (results_ct rfl _ _ w.heap.size 104 #[.int .u8 0, .int .u64 0, .int .u64 0, .int .u8 0, .int .u8 0, .int .u8 0, .int .i64 0, .string (⟨#[]⟩ : ByteArray), .int .u8 0, .int .i64 0, .string (⟨#[]⟩ : ByteArray), .int .i64 0, .int .i64 0, .int .u32 0, .int .u8 0, .int .u64 0, .int .u64 0] (0, 0) _ rfl (setRow_heap _ _ _ _ _ _ HS.out.res) Try.underlying104 rfl (by kernel_rfl)) rfl ?_
    exact ⟨by rw [HRES.out] <;> rfl, below_setRow HS.out.bel (Nat.le_refl _) _⟩
  have HRQ2 := Lib.hid (show reqP xs = if endP (runP ps ({k := k}, ys, f1)).2.1 (runP ps ({k := k}, ys, f1)).2.2 = 0 then ((runP ps ({k := k}, ys, f1)).1, 0) else ({}, endP (runP ps ({k := k}, ys, f1)).2.1 (runP ps ({k := k}, ys, f1)).2.2) by
    rw [HRQ.out, HOKK.out, HPS.out, if_neg]
    rintro ⟨h1, h2⟩
    rcases hor with ⟨_, h3⟩ | h3
    · rw [h3] at h2; cases h2
    · rw [h1] at h3; cases h3)
  clear HRQ
  go_cut [29] (fun s29 wx => s29 = .bool false ∧ wx = w3)
  case first =>
    rcases hor with ⟨hb1, rfl⟩ | hb1
    all_goals (
      go_wp2_with (go_at_call 36; go_loud (refine (failed_calls w1.heap.size g ys _ _ HS.out.rd).mono ?_; rintro en w4 ⟨rfl, rfl⟩))
      go_meet
      exact ⟨rfl, rfl⟩)
  case rest =>
    obtain ⟨rfl, rfl⟩ := hcut
    clear hor
    go_wp2
    go_loopw [33] (fun i wr => ∃ j : Nat, i = .int .i64 j ∧ j ≤ n ∧ RS w wr w1.heap.size g w2.heap.size A ps (runP (ps.take j) ({k := k}, ys, f1))) (fun i _ => n - (intOf i).toNat)
    case atStart => exact ⟨0, rfl, by omega, HS.out⟩
    case round =>
      obtain ⟨j, rfl, hj, hS⟩ := hrel
      obtain ⟨⟨q, xs5, f5⟩, hst⟩ : ∃ s, runP (ps.take j) ({k := k}, ys, f1) = s := ⟨_, rfl⟩
      rw [hst] at hS
      have HST := Lib.hid hst
      have HSR := Lib.hid hS
      clear hS hst
      by_cases hlt : j < n
      · obtain ⟨p, hp⟩ : ∃ p, ps[j]? = some p := ⟨ps[j]'(by rw [HLEN.out]; exact hlt), by rw [List.getElem?_eq_getElem]⟩
        obtain ⟨ad, rfl, c0, c1⟩ := HSR.out.pl.at j p hp
        have HP := Lib.hid hp
        clear hp
        cases p
        · as_aux_lemma => (
          replace c0 : wr.cell? (ad.add (j * 2)) = some (.func (.func 118) #[] #[]) := c0
          replace c1 : wr.cell? ⟨(ad.add (j * 2)).block, (ad.add (j * 2)).off + 1, none⟩ = some (.func (.func 120) #[] #[]) := c1
          go_wp2_with (go_at_call 120; go_loud (refine (get_handle w1.heap.size g w2.heap.size xs5 f5 q _ (HSR.out.below (by repeat (first | (with_reducible first | exact Below.refl _ _ | apply below_alloc | apply pw_below_drewN | apply below_drew1)))).rd (HSR.out.below (by repeat (first | (with_reducible first | exact Below.refl _ _ | apply below_alloc | apply pw_below_drewN | apply below_drew1)))).qb HBB.out HSR.out.hl HSR.out.bs).mono ?_; intro en w6 hp6; obtain ⟨rfl, hS6⟩ := RS.get (s := (q, xs5, f5)) (HSR.out.below (by repeat (first | (with_reducible first | exact Below.refl _ _ | apply below_alloc | apply pw_below_drewN | apply below_drew1)))) .handle hgz hgb hp6; have HS6 := Lib.hid hS6; clear hS6 hp6))
          go_roundw
          case rel =>
            refine ⟨j + 1, by simp, by omega, ?_⟩
            rw [take_one ps j _ HP.out, runP_snoc, HST.out]
            exact HS6.out
          case measure => simp [intOf]; omega
          )
        · as_aux_lemma => (
          replace c0 : wr.cell? (ad.add (j * 2)) = some (.func (.func 128) #[] #[]) := c0
          replace c1 : wr.cell? ⟨(ad.add (j * 2)).block, (ad.add (j * 2)).off + 1, none⟩ = some (.func (.func 129) #[] #[]) := c1
          go_wp2_with (go_at_call 129; go_loud (refine (get_other w1.heap.size g w2.heap.size xs5 f5 q _ (HSR.out.below (by repeat (first | (with_reducible first | exact Below.refl _ _ | apply below_alloc | apply pw_below_drewN | apply below_drew1)))).rd (HSR.out.below (by repeat (first | (with_reducible first | exact Below.refl _ _ | apply below_alloc | apply pw_below_drewN | apply below_drew1)))).qb HBB.out HSR.out.hl HSR.out.bs).mono ?_; intro en w6 hp6; obtain ⟨rfl, hS6⟩ := RS.get (s := (q, xs5, f5)) (HSR.out.below (by repeat (first | (with_reducible first | exact Below.refl _ _ | apply below_alloc | apply pw_below_drewN | apply below_drew1)))) .other hgz hgb hp6; have HS6 := Lib.hid hS6; clear hS6 hp6))
          go_roundw
          case rel =>
            refine ⟨j + 1, by simp, by omega, ?_⟩
            rw [take_one ps j _ HP.out, runP_snoc, HST.out]
            exact HS6.out
          case measure => simp [intOf]; omega
          )
        · as_aux_lemma => (
          replace c0 : wr.cell? (ad.add (j * 2)) = some (.func (.func 116) #[] #[]) := c0
          replace c1 : wr.cell? ⟨(ad.add (j * 2)).block, (ad.add (j * 2)).off + 1, none⟩ = some (.func (.func 117) #[] #[]) := c1
          go_wp2_with (go_at_call 117; go_loud (refine (get_kind w1.heap.size g w2.heap.size xs5 f5 q _ (HSR.out.below (by repeat (first | (with_reducible first | exact Below.refl _ _ | apply below_alloc | apply pw_below_drewN | apply below_drew1)))).rd (HSR.out.below (by repeat (first | (with_reducible first | exact Below.refl _ _ | apply below_alloc | apply pw_below_drewN | apply below_drew1)))).qb HBB.out HSR.out.hl HSR.out.bs).mono ?_; intro en w6 hp6; obtain ⟨rfl, hS6⟩ := RS.get (s := (q, xs5, f5)) (HSR.out.below (by repeat (first | (with_reducible first | exact Below.refl _ _ | apply below_alloc | apply pw_below_drewN | apply below_drew1)))) .kind hgz hgb hp6; have HS6 := Lib.hid hS6; clear hS6 hp6))
          go_roundw
          case rel =>
            refine ⟨j + 1, by simp, by omega, ?_⟩
            rw [take_one ps j _ HP.out, runP_snoc, HST.out]
            exact HS6.out
          case measure => simp [intOf]; omega
          )
        · as_aux_lemma => (
          replace c0 : wr.cell? (ad.add (j * 2)) = some (.func (.func 126) #[] #[]) := c0
          replace c1 : wr.cell? ⟨(ad.add (j * 2)).block, (ad.add (j * 2)).off + 1, none⟩ = some (.func (.func 127) #[] #[]) := c1
          go_wp2_with (go_at_call 127; go_loud (refine (get_gift w1.heap.size g w2.heap.size xs5 f5 q _ (HSR.out.below (by repeat (first | (with_reducible first | exact Below.refl _ _ | apply below_alloc | apply pw_below_drewN | apply below_drew1)))).rd (HSR.out.below (by repeat (first | (with_reducible first | exact Below.refl _ _ | apply below_alloc | apply pw_below_drewN | apply below_drew1)))).qb HBB.out HSR.out.hl HSR.out.bs).mono ?_; intro en w6 hp6; obtain ⟨rfl, hS6⟩ := RS.get (s := (q, xs5, f5)) (HSR.out.below (by repeat (first | (with_reducible first | exact Below.refl _ _ | apply below_alloc | apply pw_below_drewN | apply below_drew1)))) .gift hgz hgb hp6; have HS6 := Lib.hid hS6; clear hS6 hp6))
          go_roundw
          case rel =>
            refine ⟨j + 1, by simp, by omega, ?_⟩
            rw [take_one ps j _ HP.out, runP_snoc, HST.out]
            exact HS6.out
          case measure => simp [intOf]; omega
          )
        · as_aux_lemma => (
          replace c0 : wr.cell? (ad.add (j * 2)) = some (.func (.func 122) #[] #[]) := c0
          replace c1 : wr.cell? ⟨(ad.add (j * 2)).block, (ad.add (j * 2)).off + 1, none⟩ = some (.func (.func 123) #[] #[]) := c1
          go_wp2_with (go_at_call 123; go_loud (refine (get_looks w1.heap.size g w2.heap.size xs5 f5 q _ (HSR.out.below (by repeat (first | (with_reducible first | exact Below.refl _ _ | apply below_alloc | apply pw_below_drewN | apply below_drew1)))).rd (HSR.out.below (by repeat (first | (with_reducible first | exact Below.refl _ _ | apply below_alloc | apply pw_below_drewN | apply below_drew1)))).qb HBB.out HSR.out.hl HSR.out.bs).mono ?_; intro en w6 hp6; obtain ⟨rfl, hS6⟩ := RS.get (s := (q, xs5, f5)) (HSR.out.below (by repeat (first | (with_reducible first | exact Below.refl _ _ | apply below_alloc | apply pw_below_drewN | apply below_drew1)))) .looks hgz hgb hp6; have HS6 := Lib.hid hS6; clear hS6 hp6))
          go_roundw
          case rel =>
            refine ⟨j + 1, by simp, by omega, ?_⟩
            rw [take_one ps j _ HP.out, runP_snoc, HST.out]
            exact HS6.out
          case measure => simp [intOf]; omega
          )
        · as_aux_lemma => (
          replace c0 : wr.cell? (ad.add (j * 2)) = some (.func (.func 124) #[] #[]) := c0
          replace c1 : wr.cell? ⟨(ad.add (j * 2)).block, (ad.add (j * 2)).off + 1, none⟩ = some (.func (.func 125) #[] #[]) := c1
          go_wp2_with (go_at_call 125; go_loud (refine (get_changes w1.heap.size g w2.heap.size xs5 f5 q _ (HSR.out.below (by repeat (first | (with_reducible first | exact Below.refl _ _ | apply below_alloc | apply pw_below_drewN | apply below_drew1)))).rd (HSR.out.below (by repeat (first | (with_reducible first | exact Below.refl _ _ | apply below_alloc | apply pw_below_drewN | apply below_drew1)))).qb HBB.out HSR.out.hl HSR.out.bs).mono ?_; intro en w6 hp6; obtain ⟨rfl, hS6⟩ := RS.get (s := (q, xs5, f5)) (HSR.out.below (by repeat (first | (with_reducible first | exact Below.refl _ _ | apply below_alloc | apply pw_below_drewN | apply below_drew1)))) .changes hgz hgb hp6; have HS6 := Lib.hid hS6; clear hS6 hp6))
          go_roundw
          case rel =>
            refine ⟨j + 1, by simp, by omega, ?_⟩
            rw [take_one ps j _ HP.out, runP_snoc, HST.out]
            exact HS6.out
          case measure => simp [intOf]; omega
          )
      · obtain rfl : j = n := by omega
        have hst := HST.out
        rw [← HLEN.out, List.take_length] at hst
        have hrq := HRQ2.out
        rw [hst] at hrq
        dsimp only at hrq
        have HRQ3 := Lib.hid hrq
        obtain ⟨E, hE⟩ : ∃ E, endP xs5 f5 = E := ⟨_, rfl⟩
        have HE := Lib.hid hE
        clear hst hrq hE
        by_cases hE0 : E = 0
        · subst hE0
          have hres : reqP xs = (q, 0) := by rw [HRQ3.out, if_pos HE.out]
          have HRES := Lib.hid hres
          clear hres
          have zr := is_req_of HSR.out.res rfl
          have s0 : wr.cell? ⟨w2.heap.size, 0, none⟩ = some (.int .u8 q.k) := blk_cell HSR.out.qb 0
          have s1 : wr.cell? ⟨w2.heap.size, 1, none⟩ = some (.int .u64 q.hh) := blk_cell HSR.out.qb 1
          have s2 : wr.cell? ⟨w2.heap.size, 2, none⟩ = some (.int .u64 q.hl) := blk_cell HSR.out.qb 2
          have s3 : wr.cell? ⟨w2.heap.size, 3, none⟩ = some (.int .u8 q.o) := blk_cell HSR.out.qb 3
          have s4 : wr.cell? ⟨w2.heap.size, 4, none⟩ = some (.int .u8 q.c) := blk_cell HSR.out.qb 4
          have s5 : wr.cell? ⟨w2.heap.size, 5, none⟩ = some (.int .u8 q.kk) := blk_cell HSR.out.qb 5
          have s6 : wr.cell? ⟨w2.heap.size, 6, none⟩ = some (.int .i64 q.kn) := blk_cell HSR.out.qb 6
          have s7 : wr.cell? ⟨w2.heap.size, 7, none⟩ = some (.string q.ks) := blk_cell HSR.out.qb 7
          have s8 : wr.cell? ⟨w2.heap.size, 8, none⟩ = some (.int .u8 q.vk) := blk_cell HSR.out.qb 8
          have s9 : wr.cell? ⟨w2.heap.size, 9, none⟩ = some (.int .i64 q.vn) := blk_cell HSR.out.qb 9
          have s10 : wr.cell? ⟨w2.heap.size, 10, none⟩ = some (.string q.vs) := blk_cell HSR.out.qb 10
          have s11 : wr.cell? ⟨w2.heap.size, 11, none⟩ = some (.int .i64 q.fr) := blk_cell HSR.out.qb 11
          have s12 : wr.cell? ⟨w2.heap.size, 12, none⟩ = some (.int .i64 q.n) := blk_cell HSR.out.qb 12
          have s13 : wr.cell? ⟨w2.heap.size, 13, none⟩ = some (.int .u32 q.tw) := blk_cell HSR.out.qb 13
          have s14 : wr.cell? ⟨w2.heap.size, 14, none⟩ = some (.int .u8 q.ri) := blk_cell HSR.out.qb 14
          have s15 : wr.cell? ⟨w2.heap.size, 15, none⟩ = some (.int .u64 q.oh) := blk_cell HSR.out.qb 15
          have s16 : wr.cell? ⟨w2.heap.size, 16, none⟩ = some (.int .u64 q.ol) := blk_cell HSR.out.qb 16
          go_wp2_with (go_at_call 37; go_loud (refine (end_calls w1.heap.size g xs5 f5 _ HSR.out.rd).mono ?_; rw [HE.out]; rintro en w4 ⟨rfl, rfl⟩))
          refine bodyPost_ret (results_ct rfl _ _ w.heap.size 104 q.cells (0, 0) _ rfl (setRow_heap _ _ _ _ _ _ HSR.out.res) Try.underlying104 rfl (by kernel_rfl)) rfl ?_
          exact ⟨by rw [HRES.out] <;> rfl, below_setRow HSR.out.bel (Nat.le_refl _) _⟩
        · have hres : reqP xs = ({}, E) := by rw [HRQ3.out, if_neg (by rw [HE.out]; exact hE0), HE.out]
          have HRES := Lib.hid hres
          clear hres
          have b2 : (E != 0) = true := by simpa using hE0
          have zr := is_req_of HSR.out.res rfl
          go_wp2_with (go_at_call 37; go_loud (refine (end_calls w1.heap.size g xs5 f5 _ HSR.out.rd).mono ?_; rw [HE.out]; rintro en w4 ⟨rfl, rfl⟩))
          refine bodyPost_ret (results_ct rfl _ _ w.heap.size 104 #[.int .u8 0, .int .u64 0, .int .u64 0, .int .u8 0, .int .u8 0, .int .u8 0, .int .i64 0, .string (⟨#[]⟩ : ByteArray), .int .u8 0, .int .i64 0, .string (⟨#[]⟩ : ByteArray), .int .i64 0, .int .i64 0, .int .u32 0, .int .u8 0, .int .u64 0, .int .u64 0] (0, 0) _ rfl (setRow_heap _ _ _ _ _ _ HSR.out.res) Try.underlying104 rfl (by kernel_rfl)) rfl ?_
          exact ⟨by rw [HRES.out] <;> rfl, below_setRow HSR.out.bel (Nat.le_refl _) _⟩
end Go.Proofs.Ytaoacibahdbdkaa.Req
/-! request: are two requests one? Printed by wip/tools/gen_reqe.py. -/
namespace Go.Proofs.Ytaoacibahdbdkaa.Req
open Go.RowKit Go Go.Proofs.Ytaoacibahdbdkaa.QRequestParses Go.Proofs.YtaoacibahdbdkaaW.PrintWords Go.Proofs.YtaoacibahdbdkaaW.PrintLast Go.Proofs.YtaoacibahdbdkaaW.PrintMore Go.Proofs.Ytaoacibahdbdkaa.Fra Go.Proofs.Ytaoacibahdbdkaa.Pk Go.Proofs.Ytaoacibahdbdkaa.Bts Go.Proofs.Ytaoacibahdbdkaa.Pr Go.Proofs.Ytaoacibahdbdkaa.Rep
theorem eq_handle (d : Nat) (a b x y : Int) (w : World) : (Op.equalIn (d + 2) 80 (.agg #[.int .u64 a, .int .u64 b]) (.agg #[.int .u64 x, .int .u64 y])).run Try.prog w = .ok (a == x && b == y) w :=
  eqA_of (d := d + 1) Try.underlying80 (by kernel_rfl) (eqf_cons (by rfl) (by kernel_rfl) (by kernel_rfl) (run_equalIn_int w d _ .u64 _ _ _ Try.underlying46) (eqf_last (by rfl) (by kernel_rfl) (by kernel_rfl) (run_equalIn_int w d _ .u64 _ _ _ Try.underlying46)))
theorem eq_val (d : Nat) (a b : Int) (c : ByteArray) (x y : Int) (z : ByteArray) (w : World) : (Op.equalIn (d + 2) 54 (.agg #[.int .u8 a, .int .i64 b, .string c]) (.agg #[.int .u8 x, .int .i64 y, .string z])).run Try.prog w = .ok (a == x && (b == y && (c.toList == z.toList))) w :=
  eqA_of (d := d + 1) Try.underlying54 (by kernel_rfl) (eqf_cons (by rfl) (by kernel_rfl) (by kernel_rfl) (run_equalIn_int w d _ .u8 _ _ _ Try.underlying52) (eqf_cons (by rfl) (by kernel_rfl) (by kernel_rfl) (run_equalIn_int w d _ .i64 _ _ _ Try.underlying2) (eqf_last (by rfl) (by kernel_rfl) (by kernel_rfl) (run_equalIn_string w d _ _ _ Try.underlying9))))
theorem eq_rval (d : Nat) (a b : Int) (c : ByteArray) (x y : Int) (z : ByteArray) (w : World) : (Op.equalIn (d + 2) 67 (.agg #[.int .u8 a, .int .i64 b, .string c]) (.agg #[.int .u8 x, .int .i64 y, .string z])).run Try.prog w = .ok (a == x && (b == y && (c.toList == z.toList))) w :=
  eqA_of (d := d + 1) Try.underlying67 (by kernel_rfl) (eqf_cons (by rfl) (by kernel_rfl) (by kernel_rfl) (run_equalIn_int w d _ .u8 _ _ _ Try.underlying5) (eqf_cons (by rfl) (by kernel_rfl) (by kernel_rfl) (run_equalIn_int w d _ .i64 _ _ _ Try.underlying2) (eqf_last (by rfl) (by kernel_rfl) (by kernel_rfl) (run_equalIn_string w d _ _ _ Try.underlying9))))
def sameV (a b : Int) (c : ByteArray) (x y : Int) (z : ByteArray) : Bool := a == x && (b == y && (c.toList == z.toList))
def sameO (q r : Q) : Bool := q.c == r.c && (sameV q.kk q.kn q.ks r.kk r.kn r.ks && (sameV q.vk q.vn q.vs r.vk r.vn r.vs && (q.fr == r.fr && q.n == r.n)))
def sameQ (q r : Q) : Bool := q.k == r.k && ((q.hh == r.hh && q.hl == r.hl) && (q.o == r.o && (sameO q r && (q.tw == r.tw && (q.ri == r.ri && (q.oh == r.oh && q.ol == r.ol))))))
theorem eq_op (q r : Q) (w : World) : (Op.equalIn 9999 101 (.agg #[.int .u8 q.c, .int .u8 q.kk, .int .i64 q.kn, .string q.ks, .int .u8 q.vk, .int .i64 q.vn, .string q.vs, .int .i64 q.fr, .int .i64 q.n]) (.agg #[.int .u8 r.c, .int .u8 r.kk, .int .i64 r.kn, .string r.ks, .int .u8 r.vk, .int .i64 r.vn, .string r.vs, .int .i64 r.fr, .int .i64 r.n])).run Try.prog w = .ok (sameO q r) w :=
  eqA_of (d := 9998) Try.underlying101 (by kernel_rfl) (eqf_cons (by rfl) (by kernel_rfl) (by kernel_rfl) (run_equalIn_int w 9997 _ .u8 _ _ _ Try.underlying99) (eqf_cons (by rfl) (by kernel_rfl) (by kernel_rfl) (eq_val 9996 _ _ _ _ _ _ w) (eqf_cons (by rfl) (by kernel_rfl) (by kernel_rfl) (eq_val 9996 _ _ _ _ _ _ w) (eqf_cons (by rfl) (by kernel_rfl) (by kernel_rfl) (run_equalIn_int w 9997 _ .i64 _ _ _ Try.underlying3) (eqf_last (by rfl) (by kernel_rfl) (by kernel_rfl) (run_equalIn_int w 9997 _ .i64 _ _ _ Try.underlying3))))))
theorem eq_rop (q r : Q) (w : World) : (Op.equalIn 9999 108 (.agg #[.int .u8 q.c, .int .u8 q.kk, .int .i64 q.kn, .string q.ks, .int .u8 q.vk, .int .i64 q.vn, .string q.vs, .int .i64 q.fr, .int .i64 q.n]) (.agg #[.int .u8 r.c, .int .u8 r.kk, .int .i64 r.kn, .string r.ks, .int .u8 r.vk, .int .i64 r.vn, .string r.vs, .int .i64 r.fr, .int .i64 r.n])).run Try.prog w = .ok (sameO q r) w :=
  eqA_of (d := 9998) Try.underlying108 (by kernel_rfl) (eqf_cons (by rfl) (by kernel_rfl) (by kernel_rfl) (run_equalIn_int w 9997 _ .u8 _ _ _ Try.underlying5) (eqf_cons (by rfl) (by kernel_rfl) (by kernel_rfl) (eq_rval 9996 _ _ _ _ _ _ w) (eqf_cons (by rfl) (by kernel_rfl) (by kernel_rfl) (eq_rval 9996 _ _ _ _ _ _ w) (eqf_cons (by rfl) (by kernel_rfl) (by kernel_rfl) (run_equalIn_int w 9997 _ .i64 _ _ _ Try.underlying3) (eqf_last (by rfl) (by kernel_rfl) (by kernel_rfl) (run_equalIn_int w 9997 _ .i64 _ _ _ Try.underlying3))))))
theorem eq_req (q r : Q) (w : World) : (Op.equalIn 10000 104 (.agg q.cells) (.agg r.cells)).run Try.prog w = .ok (sameQ q r) w :=
  eqA_of (d := 9999) Try.underlying104 (by kernel_rfl) (eqf_cons (by rfl) (by kernel_rfl) (by kernel_rfl) (run_equalIn_int w 9998 _ .u8 _ _ _ Try.underlying97) (eqf_cons (by rfl) (by kernel_rfl) (by kernel_rfl) (eq_handle 9997 _ _ _ _ w) (eqf_cons (by rfl) (by kernel_rfl) (by kernel_rfl) (run_equalIn_int w 9998 _ .u8 _ _ _ Try.underlying98) (eqf_cons (by rfl) (by kernel_rfl) (by kernel_rfl) (eq_op q r w) (eqf_cons (by rfl) (by kernel_rfl) (by kernel_rfl) (run_equalIn_int w 9998 _ .u32 _ _ _ Try.underlying38) (eqf_cons (by rfl) (by kernel_rfl) (by kernel_rfl) (run_equalIn_int w 9998 _ .u8 _ _ _ Try.underlying102) (eqf_last (by rfl) (by kernel_rfl) (by kernel_rfl) (eq_handle 9997 _ _ _ _ w))))))))
theorem eq_arr (a b x y : Int) (w : World) : (Op.equalIn 9999 84 (.agg #[.int .u64 a, .int .u64 b]) (.agg #[.int .u64 x, .int .u64 y])).run Try.prog w = .ok (a == x && b == y) w :=
  ArrEq.equalIn_arr2 9997 Try.underlying84 Try.underlying46 w a b x y (by kernel_rfl) (fun _ _ => ⟨by kernel_rfl, by kernel_rfl⟩)
theorem eq_ref (q r : Q) (w : World) : (Op.equalIn 10000 110 (.agg q.cells) (.agg r.cells)).run Try.prog w = .ok (sameQ q r) w :=
  eqA_of (d := 9999) Try.underlying110 (by kernel_rfl) (eqf_cons (by rfl) (by kernel_rfl) (by kernel_rfl) (run_equalIn_int w 9998 _ .u8 _ _ _ Try.underlying5) (eqf_cons (by rfl) (by kernel_rfl) (by kernel_rfl) (eq_arr _ _ _ _ w) (eqf_cons (by rfl) (by kernel_rfl) (by kernel_rfl) (run_equalIn_int w 9998 _ .u8 _ _ _ Try.underlying5) (eqf_cons (by rfl) (by kernel_rfl) (by kernel_rfl) (eq_rop q r w) (eqf_cons (by rfl) (by kernel_rfl) (by kernel_rfl) (run_equalIn_int w 9998 _ .u32 _ _ _ Try.underlying38) (eqf_cons (by rfl) (by kernel_rfl) (by kernel_rfl) (run_equalIn_int w 9998 _ .u8 _ _ _ Try.underlying5) (eqf_last (by rfl) (by kernel_rfl) (by kernel_rfl) (eq_arr _ _ _ _ w))))))))
theorem Q_ext {q r : Q} (h0 : q.k = r.k) (h1 : q.hh = r.hh) (h2 : q.hl = r.hl) (h3 : q.o = r.o) (h4 : q.c = r.c) (h5 : q.kk = r.kk) (h6 : q.kn = r.kn) (h7 : q.ks = r.ks) (h8 : q.vk = r.vk) (h9 : q.vn = r.vn) (h10 : q.vs = r.vs) (h11 : q.fr = r.fr) (h12 : q.n = r.n) (h13 : q.tw = r.tw) (h14 : q.ri = r.ri) (h15 : q.oh = r.oh) (h16 : q.ol = r.ol) : q = r := by cases q; cases r; simp_all
theorem sameV_iff {a b : Int} {c : ByteArray} {x y : Int} {z : ByteArray} : sameV a b c x y z = true ↔ a = x ∧ b = y ∧ c = z := by
  unfold sameV
  simp only [Bool.and_eq_true, beq_iff_eq]
  constructor
  · rintro ⟨rfl, rfl, h⟩; exact ⟨rfl, rfl, ByteArray.toList_inj' h⟩
  · rintro ⟨rfl, rfl, rfl⟩; exact ⟨rfl, rfl, rfl⟩
theorem sameQ_iff (q r : Q) : sameQ q r = true ↔ q = r := by
  unfold sameQ sameO
  simp only [Bool.and_eq_true, beq_iff_eq, sameV_iff]
  constructor
  · rintro ⟨h0, ⟨h1, h2⟩, h3, ⟨h4, ⟨h5, h6, h7⟩, ⟨h8, h9, h10⟩, h11, h12⟩, h13, h14, h15, h16⟩
    exact Q_ext h0 h1 h2 h3 h4 h5 h6 h7 h8 h9 h10 h11 h12 h13 h14 h15 h16
  · rintro rfl
    exact ⟨rfl, ⟨rfl, rfl⟩, rfl, ⟨rfl, ⟨rfl, rfl, rfl⟩, ⟨rfl, rfl, rfl⟩, rfl, rfl⟩, rfl, rfl, rfl, rfl⟩
theorem sameQ_self (q : Q) : sameQ q q = true := (sameQ_iff q q).2 rfl
/-- Two values in a block. -/
theorem two_C {w : World} {b : Nat} (x y : S54) (h : w.heap[b]? = some (.cells #[.int .u8 x.f0, .int .i64 x.f1, .string x.f2, .int .u8 y.f0, .int .i64 y.f1, .string y.f2] 54 (0, 0))) : Kd.C k54 w (some ⟨b, 0, none⟩) ([x, y] : List S54).length [x, y] := by
  refine ⟨rfl, by simp, fun _ => ⟨_, rfl, ?_⟩⟩
  intro j p hj
  have hadd : ∀ i : Nat, (⟨b, 0, none⟩ : Addr).add i = ⟨b, i, none⟩ := fun i => by unfold Addr.add; split <;> simp_all
  match j, hj with
  | 0, hj =>
    obtain rfl : x = p := by simpa using hj
    refine ⟨_, rfl, k54_mk _ _, fun i u hi => ?_⟩
    rw [hadd, blk_cell h]
    match i, hi with
    | 0, hi => exact hi
    | 1, hi => exact hi
    | 2, hi => exact hi
    | (n + 3), hi => simp at hi
  | 1, hj =>
    obtain rfl : y = p := by simpa using hj
    refine ⟨_, rfl, k54_mk _ _, fun i u hi => ?_⟩
    rw [hadd, blk_cell h]
    match i, hi with
    | 0, hi => exact hi
    | 1, hi => exact hi
    | 2, hi => exact hi
    | (n + 3), hi => simp at hi
  | (n + 2), hj => simp at hj
end Go.Proofs.Ytaoacibahdbdkaa.Req
/-! request: a request's parts are put, as contracts; no wrap words. Printed by wip/tools/gen_reqc.py. -/
namespace Go.Proofs.Ytaoacibahdbdkaa.Req
open Go.RowKit Go Go.Proofs.Ytaoacibahdbdkaa.QRequestParses Go.Proofs.YtaoacibahdbdkaaW.PrintWords Go.Proofs.YtaoacibahdbdkaaW.PrintLast Go.Proofs.YtaoacibahdbdkaaW.PrintMore Go.Proofs.Ytaoacibahdbdkaa.Fra Go.Proofs.Ytaoacibahdbdkaa.Pk Go.Proofs.Ytaoacibahdbdkaa.Bts Go.Proofs.Ytaoacibahdbdkaa.Pr Go.Proofs.Ytaoacibahdbdkaa.Rep
/-- A request's numbers are of their kinds. -/
structure Ok (q : Q) : Prop where
  k0 : 0 ≤ q.k
  k1 : q.k ≤ 255
  hh0 : 0 ≤ q.hh
  hh1 : q.hh ≤ 18446744073709551615
  hl0 : 0 ≤ q.hl
  hl1 : q.hl ≤ 18446744073709551615
  o0 : 0 ≤ q.o
  o1 : q.o ≤ 255
  c0 : 0 ≤ q.c
  c1 : q.c ≤ 255
  kk0 : 0 ≤ q.kk
  kk1 : q.kk ≤ 255
  kn0 : -9223372036854775808 ≤ q.kn
  kn1 : q.kn ≤ 9223372036854775807
  ks0 : q.ks.size ≤ 10000
  vk0 : 0 ≤ q.vk
  vk1 : q.vk ≤ 255
  vn0 : -9223372036854775808 ≤ q.vn
  vn1 : q.vn ≤ 9223372036854775807
  vs0 : q.vs.size ≤ 10000
  fr0 : -9223372036854775808 ≤ q.fr
  fr1 : q.fr ≤ 9223372036854775807
  n0 : -9223372036854775808 ≤ q.n
  n1 : q.n ≤ 9223372036854775807
  tw0 : 0 ≤ q.tw
  tw1 : q.tw ≤ 4294967295
  ri0 : 0 ≤ q.ri
  ri1 : q.ri ≤ 255
  oh0 : 0 ≤ q.oh
  oh1 : q.oh ≤ 18446744073709551615
  ol0 : 0 ≤ q.ol
  ol1 : q.ol ≤ 18446744073709551615
/-- A part's bytes. -/
def pB (p : Part) (q : Q) : List Int :=
  match p with
  | .handle => leB q.hh 8 ++ leB q.hl 8
  | .other => leB q.oh 8 ++ leB q.ol 8
  | .kind => leB q.o 1
  | .gift => leB q.tw 4 ++ leB q.ri 1
  | .looks => leB q.c 1 ++ valB q.kk q.kn q.ks ++ leB (q.fr % 18446744073709551616) 4 ++ leB (q.n % 18446744073709551616) 2
  | .changes => leB q.c 1 ++ valB q.kk q.kn q.ks ++ valB q.vk q.vn q.vs
theorem valB_len (k n : Int) (s : ByteArray) : (valB k n s).length ≤ 9 + s.size := by
  unfold valB
  have hb : (bytesOf s).length = s.size := by unfold bytesOf; rw [List.length_map, Array.length_toList]; rfl
  split
  · simp only [List.length_cons, leB_length]; omega
  · split
    · simp only [List.length_cons, leB_length]; omega
    · split
      · simp only [List.length_cons, List.length_append, leB_length, hb]; omega
      · simp only [List.length_cons, List.length_nil]; omega
theorem pB_len (p : Part) (q : Q) (h : Ok q) : (pB p q).length ≤ 20100 := by
  have h1 := valB_len q.kk q.kn q.ks
  have h2 := valB_len q.vk q.vn q.vs
  have h3 := h.ks0
  have h4 := h.vs0
  cases p <;> simp only [pB, List.length_append, leB_length] <;> omega
abbrev PutPost (w : World) (zs : List Int) (e : Ending) (w' : World) : Prop := ∃ v, e = .returned v ∧ Made w w' v zs
set_option maxHeartbeats 2000000 in
set_option maxRecDepth 100000 in
theorem putHandle_calls (v : Value) (xs : List Int) (hh hl : Int) (w : World) (h : Byt w v xs) (hn : xs.length ≤ 1000000) (h0 : 0 ≤ hh) (h1 : 0 ≤ hl) :
    Calls Try.prog 119 #[v, .agg #[.int .u64 hh, .int .u64 hl]] w (PutPost w (xs ++ (leB hh 8 ++ leB hl 8))) := by
  have hlen : (xs ++ leB hh 8).length ≤ 140737488351300 := by simp [leB_length]; omega
  have HLE := Lib.hid hlen
  have HN := Lib.hid hn
  have HT := Lib.hid h
  clear h hlen hn
  go_enter Try.func119, Try.ntmps119
  go_wp2
  have hb := blk_drew (blk_new w (.cells #[.int .u64 hh, .int .u64 hl] 80))
  have HBB := Lib.hid (below_drew1 (below_alloc (Below.refl w.heap.size w) (.cells #[.int .u64 hh, .int .u64 hl] 80)))
  have p0 := blk_cell hb 0
  have p1 := blk_cell hb 1
  have HB := Lib.hid hb
  clear hb
  refine start_ (n := 8) (S := fun w' => w'.cell? ⟨w.heap.size, 0, none⟩ = some (.int .u64 hh) ∧ w'.cell? ⟨w.heap.size, 1, none⟩ = some (.int .u64 hl)) (ds := []) #[false, false, false, false, false, false, false, false] (by kernel_rfl) rfl rfl ⟨p0, p1⟩ (fun hHeld => ?_)
  refine pure_ (i := 0) (N := some 5) (v := ?_) (a' := ?_) #[true, false, false, false, false, false, false, false] rfl rfl (by kernel_rfl) (fun _ _ _ h => h) (Or.inl ⟨by rfl, ?_⟩) ?_ ?_
  rotate_left
  · intro w'
    go_simp
    with_reducible rfl
  rotate_left
  · simp only [Act.put, List.setIfInBounds_toArray, List.set_cons_zero, List.set_cons_succ]
    rfl
  refine pure_ (i := 1) (N := some 6) (v := ?_) (a' := ?_) #[true, true, false, false, false, false, false, false] rfl rfl (by kernel_rfl) (fun _ _ _ h => h) (Or.inl ⟨by rfl, ?_⟩) ?_ ?_
  rotate_left
  · intro w'
    go_simp
    with_reducible rfl
  rotate_left
  · simp only [Act.put, List.setIfInBounds_toArray, List.set_cons_zero, List.set_cons_succ]
    rfl
  refine pure_ (i := 4) (N := some 9) (v := ?_) (a' := ?_) #[true, true, false, false, true, false, false, false] rfl rfl (by kernel_rfl) (fun _ _ _ h => h) (Or.inl ⟨by rfl, ?_⟩) ?_ ?_
  rotate_left
  · intro w'
    go_simp
    with_reducible rfl
  rotate_left
  · simp only [Act.put, List.setIfInBounds_toArray, List.set_cons_zero, List.set_cons_succ]
    rfl
  refine take_ (i := 2) (N := some 7) (v := ?_) (a' := ?_) #[true, true, true, false, true, false, false, false] rfl rfl (by kernel_rfl) (fun _ _ _ h => h) (Or.inl ⟨by rfl, ?_⟩) hHeld ?_ ?_
  rotate_left
  · rintro w' ⟨s0, s1⟩
    go_simp
    with_reducible rfl
  rotate_left
  · simp only [Act.put, List.setIfInBounds_toArray, List.set_cons_zero, List.set_cons_succ]
    rfl
  refine take_ (i := 5) (N := some 10) (v := ?_) (a' := ?_) #[true, true, true, false, true, true, false, false] rfl rfl (by kernel_rfl) (fun _ _ _ h => h) (Or.inl ⟨by rfl, ?_⟩) hHeld ?_ ?_
  rotate_left
  · rintro w' ⟨s0, s1⟩
    go_simp
    with_reducible rfl
  rotate_left
  · simp only [Act.put, List.setIfInBounds_toArray, List.set_cons_zero, List.set_cons_succ]
    rfl
  refine one_ (i := 3) (N := some 8) #[true, true, true, true, true, true, false, false] rfl rfl (by kernel_rfl) (by decide) (fun K hK => ?_)
  refine goes_ Try.func67 (by kernel_rfl) rfl #[v, .int .u64 hh, .int .i64 8] (by rfl) rfl rfl (by simp only [List.map_toArray, List.map_cons, List.map_nil]; rfl) ?_
  with_reducible refine (put8 _ xs hh _ (HT.out.below HBB.out) (by have := HN.out; omega) h0).mono ?_
  rintro e4 w4 ⟨v4, rfl, hM4⟩
  refine ⟨_, rfl, ?_⟩
  have hp4 := blk_below HB.out hM4.2
  refine hK.out _ _ ⟨(blk_cell hp4 0), (blk_cell hp4 1)⟩ (fun hHeld => ?_)
  clear hK K
  refine norm_ (a' := ?_) ?_ ?_
  rotate_left
  · show Act.put _ (some 8) _ = _
    simp only [Act.put, List.setIfInBounds_toArray, List.set_cons_zero, List.set_cons_succ]
    rfl
  refine one_ (i := 6) (N := some 11) #[true, true, true, true, true, true, true, false] rfl rfl (by kernel_rfl) (by decide) (fun K hK => ?_)
  refine goes_ Try.func67 (by kernel_rfl) rfl #[v4, .int .u64 hl, .int .i64 8] (by rfl) rfl rfl (by simp only [List.map_toArray, List.map_cons, List.map_nil]; rfl) ?_
  with_reducible refine (put8 _ (xs ++ leB hh 8) hl _ hM4.byt HLE.out h1).mono ?_
  rintro e5 w5 ⟨v5, rfl, hM5⟩
  refine ⟨_, rfl, ?_⟩
  have hp5 := blk_below hp4 hM5.2
  refine hK.out _ _ ⟨(blk_cell hp5 0), (blk_cell hp5 1)⟩ (fun hHeld => ?_)
  clear hK K
  refine norm_ (a' := ?_) ?_ ?_
  rotate_left
  · show Act.put _ (some 11) _ = _
    simp only [Act.put, List.setIfInBounds_toArray, List.set_cons_zero, List.set_cons_succ]
    rfl
  refine pure_ (i := 7) (N := some 4) (v := ?_) (a' := ?_) #[true, true, true, true, true, true, true, true] rfl rfl (by kernel_rfl) (fun _ _ _ h => h) (Or.inl ⟨by rfl, ?_⟩) ?_ ?_
  rotate_left
  · intro w'
    go_simp
    with_reducible rfl
  rotate_left
  · simp only [Act.put, List.setIfInBounds_toArray, List.set_cons_zero, List.set_cons_succ]
    rfl
  refine done_ (by kernel_rfl) ?_

  go_wp2
  go_ret
  exact ⟨_, rfl, by rw [← List.append_assoc]; exact made_step (below_step HBB.out hM4.2) hM5⟩
set_option maxHeartbeats 4000000 in
set_option maxRecDepth 100000 in
theorem put_handle (v : Value) (xs : List Int) (q : Q) (w : World) (h : Byt w v xs) (hN : xs.length ≤ 1000000) (ok : Ok q) :
    Calls Try.prog 118 #[v, .agg q.cells] w (PutPost w (xs ++ pB .handle q)) := by
  have HVK := Lib.hid (valB_len q.kk q.kn q.ks)
  have HVV := Lib.hid (valB_len q.vk q.vn q.vs)
  obtain ⟨k, hh, hl, o, c, kk, kn, ks, vk, vn, vs, fr, n, tw, ri, oh, ol⟩ := q
  have HOK := Lib.hid ok
  obtain ⟨k0, k1, hh0, hh1, hl0, hl1, o0, o1, c0, c1, kk0, kk1, kn0, kn1, ks0, vk0, vk1, vn0, vn1, vs0, fr0, fr1, n0, n1, tw0, tw1, ri0, ri1, oh0, oh1, ol0, ol1⟩ := ok
  simp only at k0 k1 hh0 hh1 hl0 hl1 o0 o1 c0 c1 kk0 kk1 kn0 kn1 ks0 vk0 vk1 vn0 vn1 vs0 fr0 fr1 n0 n1 tw0 tw1 ri0 ri1 oh0 oh1 ol0 ol1
  have HVK : Hid ((valB kk kn ks).length ≤ 9 + ks.size) := HVK
  have HVV : Hid ((valB vk vn vs).length ≤ 9 + vs.size) := HVV
  have HN := Lib.hid hN
  have HT := Lib.hid h
  have eo : o % 18446744073709551616 = o := by omega
  have ec : c % 18446744073709551616 = c := by omega
  have et : tw % 18446744073709551616 = tw := by omega
  have er : ri % 18446744073709551616 = ri := by omega
  have HBB := Lib.hid (below_drew1 (below_alloc (Below.refl w.heap.size w) (.cells #[.int .u8 k, .int .u64 hh, .int .u64 hl, .int .u8 o, .int .u8 c, .int .u8 kk, .int .i64 kn, .string ks, .int .u8 vk, .int .i64 vn, .string vs, .int .i64 fr, .int .i64 n, .int .u32 tw, .int .u8 ri, .int .u64 oh, .int .u64 ol] 104)))
  have HB0 := Lib.hid (below_alloc (Below.refl w.heap.size w) (.cells #[.int .u8 k, .int .u64 hh, .int .u64 hl, .int .u8 o, .int .u8 c, .int .u8 kk, .int .i64 kn, .string ks, .int .u8 vk, .int .i64 vn, .string vs, .int .i64 fr, .int .i64 n, .int .u32 tw, .int .u8 ri, .int .u64 oh, .int .u64 ol] 104))
  have hb := blk_drew (blk_new w (.cells #[.int .u8 k, .int .u64 hh, .int .u64 hl, .int .u8 o, .int .u8 c, .int .u8 kk, .int .i64 kn, .string ks, .int .u8 vk, .int .i64 vn, .string vs, .int .i64 fr, .int .i64 n, .int .u32 tw, .int .u8 ri, .int .u64 oh, .int .u64 ol] 104))
  have HB := Lib.hid hb
  clear h hN hb HOK
  go_enter Try.func118, Try.ntmps118
  go_wp2_with (go_at_call 119; go_loud (refine (putHandle_calls v xs hh hl _ (HT.out.below HB0.out) HN.out hh0 hl0).mono ?_; rintro e w4 ⟨v4, rfl, hM4⟩))
  go_ret
  exact ⟨_, rfl, made_step HB0.out hM4⟩
set_option maxHeartbeats 4000000 in
set_option maxRecDepth 100000 in
theorem put_other (v : Value) (xs : List Int) (q : Q) (w : World) (h : Byt w v xs) (hN : xs.length ≤ 1000000) (ok : Ok q) :
    Calls Try.prog 128 #[v, .agg q.cells] w (PutPost w (xs ++ pB .other q)) := by
  have HVK := Lib.hid (valB_len q.kk q.kn q.ks)
  have HVV := Lib.hid (valB_len q.vk q.vn q.vs)
  obtain ⟨k, hh, hl, o, c, kk, kn, ks, vk, vn, vs, fr, n, tw, ri, oh, ol⟩ := q
  have HOK := Lib.hid ok
  obtain ⟨k0, k1, hh0, hh1, hl0, hl1, o0, o1, c0, c1, kk0, kk1, kn0, kn1, ks0, vk0, vk1, vn0, vn1, vs0, fr0, fr1, n0, n1, tw0, tw1, ri0, ri1, oh0, oh1, ol0, ol1⟩ := ok
  simp only at k0 k1 hh0 hh1 hl0 hl1 o0 o1 c0 c1 kk0 kk1 kn0 kn1 ks0 vk0 vk1 vn0 vn1 vs0 fr0 fr1 n0 n1 tw0 tw1 ri0 ri1 oh0 oh1 ol0 ol1
  have HVK : Hid ((valB kk kn ks).length ≤ 9 + ks.size) := HVK
  have HVV : Hid ((valB vk vn vs).length ≤ 9 + vs.size) := HVV
  have HN := Lib.hid hN
  have HT := Lib.hid h
  have eo : o % 18446744073709551616 = o := by omega
  have ec : c % 18446744073709551616 = c := by omega
  have et : tw % 18446744073709551616 = tw := by omega
  have er : ri % 18446744073709551616 = ri := by omega
  have HBB := Lib.hid (below_drew1 (below_alloc (Below.refl w.heap.size w) (.cells #[.int .u8 k, .int .u64 hh, .int .u64 hl, .int .u8 o, .int .u8 c, .int .u8 kk, .int .i64 kn, .string ks, .int .u8 vk, .int .i64 vn, .string vs, .int .i64 fr, .int .i64 n, .int .u32 tw, .int .u8 ri, .int .u64 oh, .int .u64 ol] 104)))
  have HB0 := Lib.hid (below_alloc (Below.refl w.heap.size w) (.cells #[.int .u8 k, .int .u64 hh, .int .u64 hl, .int .u8 o, .int .u8 c, .int .u8 kk, .int .i64 kn, .string ks, .int .u8 vk, .int .i64 vn, .string vs, .int .i64 fr, .int .i64 n, .int .u32 tw, .int .u8 ri, .int .u64 oh, .int .u64 ol] 104))
  have hb := blk_drew (blk_new w (.cells #[.int .u8 k, .int .u64 hh, .int .u64 hl, .int .u8 o, .int .u8 c, .int .u8 kk, .int .i64 kn, .string ks, .int .u8 vk, .int .i64 vn, .string vs, .int .i64 fr, .int .i64 n, .int .u32 tw, .int .u8 ri, .int .u64 oh, .int .u64 ol] 104))
  have HB := Lib.hid hb
  clear h hN hb HOK
  go_enter Try.func128, Try.ntmps128
  go_wp2_with (go_at_call 119; go_loud (refine (putHandle_calls v xs oh ol _ (HT.out.below HB0.out) HN.out oh0 ol0).mono ?_; rintro e w4 ⟨v4, rfl, hM4⟩))
  go_ret
  exact ⟨_, rfl, made_step HB0.out hM4⟩
set_option maxHeartbeats 4000000 in
set_option maxRecDepth 100000 in
theorem put_kind (v : Value) (xs : List Int) (q : Q) (w : World) (h : Byt w v xs) (hN : xs.length ≤ 1000000) (ok : Ok q) :
    Calls Try.prog 116 #[v, .agg q.cells] w (PutPost w (xs ++ pB .kind q)) := by
  have HVK := Lib.hid (valB_len q.kk q.kn q.ks)
  have HVV := Lib.hid (valB_len q.vk q.vn q.vs)
  obtain ⟨k, hh, hl, o, c, kk, kn, ks, vk, vn, vs, fr, n, tw, ri, oh, ol⟩ := q
  have HOK := Lib.hid ok
  obtain ⟨k0, k1, hh0, hh1, hl0, hl1, o0, o1, c0, c1, kk0, kk1, kn0, kn1, ks0, vk0, vk1, vn0, vn1, vs0, fr0, fr1, n0, n1, tw0, tw1, ri0, ri1, oh0, oh1, ol0, ol1⟩ := ok
  simp only at k0 k1 hh0 hh1 hl0 hl1 o0 o1 c0 c1 kk0 kk1 kn0 kn1 ks0 vk0 vk1 vn0 vn1 vs0 fr0 fr1 n0 n1 tw0 tw1 ri0 ri1 oh0 oh1 ol0 ol1
  have HVK : Hid ((valB kk kn ks).length ≤ 9 + ks.size) := HVK
  have HVV : Hid ((valB vk vn vs).length ≤ 9 + vs.size) := HVV
  have HN := Lib.hid hN
  have HT := Lib.hid h
  have eo : o % 18446744073709551616 = o := by omega
  have ec : c % 18446744073709551616 = c := by omega
  have et : tw % 18446744073709551616 = tw := by omega
  have er : ri % 18446744073709551616 = ri := by omega
  have HBB := Lib.hid (below_drew1 (below_alloc (Below.refl w.heap.size w) (.cells #[.int .u8 k, .int .u64 hh, .int .u64 hl, .int .u8 o, .int .u8 c, .int .u8 kk, .int .i64 kn, .string ks, .int .u8 vk, .int .i64 vn, .string vs, .int .i64 fr, .int .i64 n, .int .u32 tw, .int .u8 ri, .int .u64 oh, .int .u64 ol] 104)))
  have HB0 := Lib.hid (below_alloc (Below.refl w.heap.size w) (.cells #[.int .u8 k, .int .u64 hh, .int .u64 hl, .int .u8 o, .int .u8 c, .int .u8 kk, .int .i64 kn, .string ks, .int .u8 vk, .int .i64 vn, .string vs, .int .i64 fr, .int .i64 n, .int .u32 tw, .int .u8 ri, .int .u64 oh, .int .u64 ol] 104))
  have hb := blk_drew (blk_new w (.cells #[.int .u8 k, .int .u64 hh, .int .u64 hl, .int .u8 o, .int .u8 c, .int .u8 kk, .int .i64 kn, .string ks, .int .u8 vk, .int .i64 vn, .string vs, .int .i64 fr, .int .i64 n, .int .u32 tw, .int .u8 ri, .int .u64 oh, .int .u64 ol] 104))
  have HB := Lib.hid hb
  clear h hN hb HOK
  go_enter Try.func116, Try.ntmps116
  go_wp2_with (go_at_call 67; go_loud (refine (put1 v xs o _ (HT.out.below HB0.out) (by have := HN.out; omega) (by omega)).mono ?_; rintro e w4 ⟨v4, rfl, hM4⟩))
  go_ret
  exact ⟨_, rfl, made_step HB0.out hM4⟩
set_option maxHeartbeats 4000000 in
set_option maxRecDepth 100000 in
theorem put_gift (v : Value) (xs : List Int) (q : Q) (w : World) (h : Byt w v xs) (hN : xs.length ≤ 1000000) (ok : Ok q) :
    Calls Try.prog 126 #[v, .agg q.cells] w (PutPost w (xs ++ pB .gift q)) := by
  have HVK := Lib.hid (valB_len q.kk q.kn q.ks)
  have HVV := Lib.hid (valB_len q.vk q.vn q.vs)
  obtain ⟨k, hh, hl, o, c, kk, kn, ks, vk, vn, vs, fr, n, tw, ri, oh, ol⟩ := q
  have HOK := Lib.hid ok
  obtain ⟨k0, k1, hh0, hh1, hl0, hl1, o0, o1, c0, c1, kk0, kk1, kn0, kn1, ks0, vk0, vk1, vn0, vn1, vs0, fr0, fr1, n0, n1, tw0, tw1, ri0, ri1, oh0, oh1, ol0, ol1⟩ := ok
  simp only at k0 k1 hh0 hh1 hl0 hl1 o0 o1 c0 c1 kk0 kk1 kn0 kn1 ks0 vk0 vk1 vn0 vn1 vs0 fr0 fr1 n0 n1 tw0 tw1 ri0 ri1 oh0 oh1 ol0 ol1
  have HVK : Hid ((valB kk kn ks).length ≤ 9 + ks.size) := HVK
  have HVV : Hid ((valB vk vn vs).length ≤ 9 + vs.size) := HVV
  have HN := Lib.hid hN
  have HT := Lib.hid h
  have eo : o % 18446744073709551616 = o := by omega
  have ec : c % 18446744073709551616 = c := by omega
  have et : tw % 18446744073709551616 = tw := by omega
  have er : ri % 18446744073709551616 = ri := by omega
  have HBB := Lib.hid (below_drew1 (below_alloc (Below.refl w.heap.size w) (.cells #[.int .u8 k, .int .u64 hh, .int .u64 hl, .int .u8 o, .int .u8 c, .int .u8 kk, .int .i64 kn, .string ks, .int .u8 vk, .int .i64 vn, .string vs, .int .i64 fr, .int .i64 n, .int .u32 tw, .int .u8 ri, .int .u64 oh, .int .u64 ol] 104)))
  have HB0 := Lib.hid (below_alloc (Below.refl w.heap.size w) (.cells #[.int .u8 k, .int .u64 hh, .int .u64 hl, .int .u8 o, .int .u8 c, .int .u8 kk, .int .i64 kn, .string ks, .int .u8 vk, .int .i64 vn, .string vs, .int .i64 fr, .int .i64 n, .int .u32 tw, .int .u8 ri, .int .u64 oh, .int .u64 ol] 104))
  have hb := blk_drew (blk_new w (.cells #[.int .u8 k, .int .u64 hh, .int .u64 hl, .int .u8 o, .int .u8 c, .int .u8 kk, .int .i64 kn, .string ks, .int .u8 vk, .int .i64 vn, .string vs, .int .i64 fr, .int .i64 n, .int .u32 tw, .int .u8 ri, .int .u64 oh, .int .u64 ol] 104))
  have HB := Lib.hid hb
  clear h hN hb HOK
  go_enter Try.func126, Try.ntmps126
  go_wp2
  have p13 := blk_cell HB.out 13
  have p14 := blk_cell HB.out 14
  refine start_ (n := 10) (S := fun w' => w'.cell? ⟨w.heap.size, 13, none⟩ = some (.int .u32 tw) ∧ w'.cell? ⟨w.heap.size, 14, none⟩ = some (.int .u8 ri)) (ds := []) #[false, false, false, false, false, false, false, false, false, false] (by kernel_rfl) rfl rfl ⟨p13, p14⟩ (fun hHeld => ?_)
  refine pure_ (i := 0) (N := some 5) (v := ?_) (a' := ?_) #[true, false, false, false, false, false, false, false, false, false] rfl rfl (by kernel_rfl) (fun _ _ _ h => h) (Or.inl ⟨by rfl, ?_⟩) ?_ ?_
  rotate_left
  · intro w'
    go_simp
    with_reducible rfl
  rotate_left
  · simp only [Act.put, List.setIfInBounds_toArray, List.set_cons_zero, List.set_cons_succ]
    rfl
  refine pure_ (i := 1) (N := some 6) (v := ?_) (a' := ?_) #[true, true, false, false, false, false, false, false, false, false] rfl rfl (by kernel_rfl) (fun _ _ _ h => h) (Or.inl ⟨by rfl, ?_⟩) ?_ ?_
  rotate_left
  · intro w'
    go_simp
    with_reducible rfl
  rotate_left
  · simp only [Act.put, List.setIfInBounds_toArray, List.set_cons_zero, List.set_cons_succ]
    rfl
  refine pure_ (i := 5) (N := some 10) (v := ?_) (a' := ?_) #[true, true, false, false, false, true, false, false, false, false] rfl rfl (by kernel_rfl) (fun _ _ _ h => h) (Or.inl ⟨by rfl, ?_⟩) ?_ ?_
  rotate_left
  · intro w'
    go_simp
    with_reducible rfl
  rotate_left
  · simp only [Act.put, List.setIfInBounds_toArray, List.set_cons_zero, List.set_cons_succ]
    rfl
  refine take_ (i := 2) (N := some 7) (v := ?_) (a' := ?_) #[true, true, true, false, false, true, false, false, false, false] rfl rfl (by kernel_rfl) (fun _ _ _ h => h) (Or.inl ⟨by rfl, ?_⟩) hHeld ?_ ?_
  rotate_left
  · rintro w' ⟨s0, s1⟩
    go_simp
    with_reducible rfl
  rotate_left
  · simp only [Act.put, List.setIfInBounds_toArray, List.set_cons_zero, List.set_cons_succ]
    rfl
  refine pure_ (i := 3) (N := some 8) (v := ?_) (a' := ?_) #[true, true, true, true, false, true, false, false, false, false] rfl rfl (by kernel_rfl) (fun _ _ _ h => h) (Or.inl ⟨by rfl, ?_⟩) ?_ ?_
  rotate_left
  · intro w'
    go_simp
    with_reducible rfl
  rotate_left
  · simp only [Act.put, List.setIfInBounds_toArray, List.set_cons_zero, List.set_cons_succ]
    rfl
  refine take_ (i := 6) (N := some 11) (v := ?_) (a' := ?_) #[true, true, true, true, false, true, true, false, false, false] rfl rfl (by kernel_rfl) (fun _ _ _ h => h) (Or.inl ⟨by rfl, ?_⟩) hHeld ?_ ?_
  rotate_left
  · rintro w' ⟨s0, s1⟩
    go_simp
    with_reducible rfl
  rotate_left
  · simp only [Act.put, List.setIfInBounds_toArray, List.set_cons_zero, List.set_cons_succ]
    rfl
  refine pure_ (i := 7) (N := some 12) (v := ?_) (a' := ?_) #[true, true, true, true, false, true, true, true, false, false] rfl rfl (by kernel_rfl) (fun _ _ _ h => h) (Or.inl ⟨by rfl, ?_⟩) ?_ ?_
  rotate_left
  · intro w'
    go_simp
    with_reducible rfl
  rotate_left
  · simp only [Act.put, List.setIfInBounds_toArray, List.set_cons_zero, List.set_cons_succ]
    rfl
  refine one_ (i := 4) (N := some 9) #[true, true, true, true, true, true, true, true, false, false] rfl rfl (by kernel_rfl) (by decide) (fun K hK => ?_)
  refine goes_ Try.func67 (by kernel_rfl) rfl #[v, .int .u64 (IntKind.u64.wrap tw), .int .i64 4] (by rfl) rfl rfl (by simp only [List.map_toArray, List.map_cons, List.map_nil]; rfl) ?_
  with_reducible refine (put4 _ (xs) (IntKind.u64.wrap tw) _ (HT.out.below HBB.out) (by have := HN.out; omega) (by rw [IntKind.wrap_u64]; omega)).mono ?_
  rintro e4 w4 ⟨v4, rfl, hM4⟩
  refine ⟨_, rfl, ?_⟩
  have hp4 := blk_below HB.out hM4.2
  have hB4 := below_step HBB.out hM4.2
  refine hK.out _ _ ⟨(blk_cell hp4 13), (blk_cell hp4 14)⟩ (fun hHeld => ?_)
  clear hK K
  refine norm_ (a' := ?_) ?_ ?_
  rotate_left
  · show Act.put _ (some 9) _ = _
    simp only [Act.put, List.setIfInBounds_toArray, List.set_cons_zero, List.set_cons_succ]
    rfl
  refine one_ (i := 8) (N := some 13) #[true, true, true, true, true, true, true, true, true, false] rfl rfl (by kernel_rfl) (by decide) (fun K hK => ?_)
  refine goes_ Try.func67 (by kernel_rfl) rfl #[v4, .int .u64 (IntKind.u64.wrap ri), .int .i64 1] (by rfl) rfl rfl (by simp only [List.map_toArray, List.map_cons, List.map_nil]; rfl) ?_
  with_reducible refine (put1 _ (xs ++ leB (IntKind.u64.wrap tw) 4) (IntKind.u64.wrap ri) _ hM4.byt (by have := HN.out; have := HVK.out; have := HVV.out; simp only [List.length_append, leB_length]; omega) (by rw [IntKind.wrap_u64]; omega)).mono ?_
  rintro e5 w5 ⟨v5, rfl, hM5⟩
  refine ⟨_, rfl, ?_⟩
  have hp5 := blk_below hp4 hM5.2
  have hB5 := below_step hB4 hM5.2
  refine hK.out _ _ ⟨(blk_cell hp5 13), (blk_cell hp5 14)⟩ (fun hHeld => ?_)
  clear hK K
  refine norm_ (a' := ?_) ?_ ?_
  rotate_left
  · show Act.put _ (some 13) _ = _
    simp only [Act.put, List.setIfInBounds_toArray, List.set_cons_zero, List.set_cons_succ]
    rfl
  refine pure_ (i := 9) (N := some 4) (v := ?_) (a' := ?_) #[true, true, true, true, true, true, true, true, true, true] rfl rfl (by kernel_rfl) (fun _ _ _ h => h) (Or.inl ⟨by rfl, ?_⟩) ?_ ?_
  rotate_left
  · intro w'
    go_simp
    with_reducible rfl
  rotate_left
  · simp only [Act.put, List.setIfInBounds_toArray, List.set_cons_zero, List.set_cons_succ]
    rfl
  refine done_ (by kernel_rfl) ?_

  go_wp2
  go_ret
  exact ⟨_, rfl, by rw [show xs ++ pB .gift _ = xs ++ leB (IntKind.u64.wrap tw) 4 ++ leB (IntKind.u64.wrap ri) 1 from by simp only [pB, IntKind.wrap_u64, et, er, ec, List.append_assoc]]; exact made_step hB4 hM5⟩
set_option maxHeartbeats 4000000 in
set_option maxRecDepth 100000 in
theorem put_looks (v : Value) (xs : List Int) (q : Q) (w : World) (h : Byt w v xs) (hN : xs.length ≤ 1000000) (ok : Ok q) :
    Calls Try.prog 122 #[v, .agg q.cells] w (PutPost w (xs ++ pB .looks q)) := by
  have HVK := Lib.hid (valB_len q.kk q.kn q.ks)
  have HVV := Lib.hid (valB_len q.vk q.vn q.vs)
  obtain ⟨k, hh, hl, o, c, kk, kn, ks, vk, vn, vs, fr, n, tw, ri, oh, ol⟩ := q
  have HOK := Lib.hid ok
  obtain ⟨k0, k1, hh0, hh1, hl0, hl1, o0, o1, c0, c1, kk0, kk1, kn0, kn1, ks0, vk0, vk1, vn0, vn1, vs0, fr0, fr1, n0, n1, tw0, tw1, ri0, ri1, oh0, oh1, ol0, ol1⟩ := ok
  simp only at k0 k1 hh0 hh1 hl0 hl1 o0 o1 c0 c1 kk0 kk1 kn0 kn1 ks0 vk0 vk1 vn0 vn1 vs0 fr0 fr1 n0 n1 tw0 tw1 ri0 ri1 oh0 oh1 ol0 ol1
  have HVK : Hid ((valB kk kn ks).length ≤ 9 + ks.size) := HVK
  have HVV : Hid ((valB vk vn vs).length ≤ 9 + vs.size) := HVV
  have HN := Lib.hid hN
  have HT := Lib.hid h
  have eo : o % 18446744073709551616 = o := by omega
  have ec : c % 18446744073709551616 = c := by omega
  have et : tw % 18446744073709551616 = tw := by omega
  have er : ri % 18446744073709551616 = ri := by omega
  have HBB := Lib.hid (below_drew1 (below_alloc (Below.refl w.heap.size w) (.cells #[.int .u8 k, .int .u64 hh, .int .u64 hl, .int .u8 o, .int .u8 c, .int .u8 kk, .int .i64 kn, .string ks, .int .u8 vk, .int .i64 vn, .string vs, .int .i64 fr, .int .i64 n, .int .u32 tw, .int .u8 ri, .int .u64 oh, .int .u64 ol] 104)))
  have HB0 := Lib.hid (below_alloc (Below.refl w.heap.size w) (.cells #[.int .u8 k, .int .u64 hh, .int .u64 hl, .int .u8 o, .int .u8 c, .int .u8 kk, .int .i64 kn, .string ks, .int .u8 vk, .int .i64 vn, .string vs, .int .i64 fr, .int .i64 n, .int .u32 tw, .int .u8 ri, .int .u64 oh, .int .u64 ol] 104))
  have hb := blk_drew (blk_new w (.cells #[.int .u8 k, .int .u64 hh, .int .u64 hl, .int .u8 o, .int .u8 c, .int .u8 kk, .int .i64 kn, .string ks, .int .u8 vk, .int .i64 vn, .string vs, .int .i64 fr, .int .i64 n, .int .u32 tw, .int .u8 ri, .int .u64 oh, .int .u64 ol] 104))
  have HB := Lib.hid hb
  clear h hN hb HOK
  go_enter Try.func122, Try.ntmps122
  go_wp2
  have p4 := blk_cell HB.out 4
  have p5 := blk_cell HB.out 5
  have p6 := blk_cell HB.out 6
  have p7 := blk_cell HB.out 7
  refine start_ (n := 11) (S := fun w' => w'.cell? ⟨w.heap.size, 4, none⟩ = some (.int .u8 c) ∧ w'.cell? ⟨w.heap.size, 5, none⟩ = some (.int .u8 kk) ∧ w'.cell? ⟨w.heap.size, 6, none⟩ = some (.int .i64 kn) ∧ w'.cell? ⟨w.heap.size, 7, none⟩ = some (.string ks)) (ds := []) #[false, false, false, false, false, false, false, false, false, false, false] (by kernel_rfl) rfl rfl ⟨p4, p5, p6, p7⟩ (fun hHeld => ?_)
  refine pure_ (i := 0) (N := some 5) (v := ?_) (a' := ?_) #[true, false, false, false, false, false, false, false, false, false, false] rfl rfl (by kernel_rfl) (fun _ _ _ h => h) (Or.inl ⟨by rfl, ?_⟩) ?_ ?_
  rotate_left
  · intro w'
    go_simp
    with_reducible rfl
  rotate_left
  · simp only [Act.put, List.setIfInBounds_toArray, List.set_cons_zero, List.set_cons_succ]
    rfl
  refine pure_ (i := 1) (N := some 6) (v := ?_) (a' := ?_) #[true, true, false, false, false, false, false, false, false, false, false] rfl rfl (by kernel_rfl) (fun _ _ _ h => h) (Or.inl ⟨by rfl, ?_⟩) ?_ ?_
  rotate_left
  · intro w'
    go_simp
    with_reducible rfl
  rotate_left
  · simp only [Act.put, List.setIfInBounds_toArray, List.set_cons_zero, List.set_cons_succ]
    rfl
  refine pure_ (i := 2) (N := some 7) (v := ?_) (a' := ?_) #[true, true, true, false, false, false, false, false, false, false, false] rfl rfl (by kernel_rfl) (fun _ _ _ h => h) (Or.inl ⟨by rfl, ?_⟩) ?_ ?_
  rotate_left
  · intro w'
    go_simp
    with_reducible rfl
  rotate_left
  · simp only [Act.put, List.setIfInBounds_toArray, List.set_cons_zero, List.set_cons_succ]
    rfl
  refine pure_ (i := 6) (N := some 11) (v := ?_) (a' := ?_) #[true, true, true, false, false, false, true, false, false, false, false] rfl rfl (by kernel_rfl) (fun _ _ _ h => h) (Or.inl ⟨by rfl, ?_⟩) ?_ ?_
  rotate_left
  · intro w'
    go_simp
    with_reducible rfl
  rotate_left
  · simp only [Act.put, List.setIfInBounds_toArray, List.set_cons_zero, List.set_cons_succ]
    rfl
  refine pure_ (i := 7) (N := some 12) (v := ?_) (a' := ?_) #[true, true, true, false, false, false, true, true, false, false, false] rfl rfl (by kernel_rfl) (fun _ _ _ h => h) (Or.inl ⟨by rfl, ?_⟩) ?_ ?_
  rotate_left
  · intro w'
    go_simp
    with_reducible rfl
  rotate_left
  · simp only [Act.put, List.setIfInBounds_toArray, List.set_cons_zero, List.set_cons_succ]
    rfl
  refine take_ (i := 3) (N := some 8) (v := ?_) (a' := ?_) #[true, true, true, true, false, false, true, true, false, false, false] rfl rfl (by kernel_rfl) (fun _ _ _ h => h) (Or.inl ⟨by rfl, ?_⟩) hHeld ?_ ?_
  rotate_left
  · rintro w' ⟨s0, s1, s2, s3⟩
    go_simp
    with_reducible rfl
  rotate_left
  · simp only [Act.put, List.setIfInBounds_toArray, List.set_cons_zero, List.set_cons_succ]
    rfl
  refine pure_ (i := 4) (N := some 9) (v := ?_) (a' := ?_) #[true, true, true, true, true, false, true, true, false, false, false] rfl rfl (by kernel_rfl) (fun _ _ _ h => h) (Or.inl ⟨by rfl, ?_⟩) ?_ ?_
  rotate_left
  · intro w'
    go_simp
    with_reducible rfl
  rotate_left
  · simp only [Act.put, List.setIfInBounds_toArray, List.set_cons_zero, List.set_cons_succ]
    rfl
  refine take_ (i := 8) (N := some 13) (v := ?_) (a' := ?_) #[true, true, true, true, true, false, true, true, true, false, false] rfl rfl (by kernel_rfl) (fun _ _ _ h => h) (Or.inl ⟨by rfl, ?_⟩) hHeld ?_ ?_
  rotate_left
  · rintro w' ⟨s0, s1, s2, s3⟩
    go_simp
    with_reducible rfl
  rotate_left
  · simp only [Act.put, List.setIfInBounds_toArray, List.set_cons_zero, List.set_cons_succ]
    rfl
  refine one_ (i := 5) (N := some 10) #[true, true, true, true, true, true, true, true, true, false, false] rfl rfl (by kernel_rfl) (by decide) (fun K hK => ?_)
  refine goes_ Try.func67 (by kernel_rfl) rfl #[v, .int .u64 (IntKind.u64.wrap c), .int .i64 1] (by rfl) rfl rfl (by simp only [List.map_toArray, List.map_cons, List.map_nil]; rfl) ?_
  with_reducible refine (put1 _ (xs) (IntKind.u64.wrap c) _ (HT.out.below HBB.out) (by have := HN.out; omega) (by rw [IntKind.wrap_u64]; omega)).mono ?_
  rintro e4 w4 ⟨v4, rfl, hM4⟩
  refine ⟨_, rfl, ?_⟩
  have hp4 := blk_below HB.out hM4.2
  have hB4 := below_step HBB.out hM4.2
  refine hK.out _ _ ⟨(blk_cell hp4 4), (blk_cell hp4 5), (blk_cell hp4 6), (blk_cell hp4 7)⟩ (fun hHeld => ?_)
  clear hK K
  refine norm_ (a' := ?_) ?_ ?_
  rotate_left
  · show Act.put _ (some 10) _ = _
    simp only [Act.put, List.setIfInBounds_toArray, List.set_cons_zero, List.set_cons_succ]
    rfl
  refine one_ (i := 9) (N := some 14) #[true, true, true, true, true, true, true, true, true, true, false] rfl rfl (by kernel_rfl) (by decide) (fun K hK => ?_)
  refine goes_ Try.func69 (by kernel_rfl) rfl #[v4, .agg #[.int .u8 kk, .int .i64 kn, .string ks]] (by rfl) rfl rfl (by simp only [List.map_toArray, List.map_cons, List.map_nil]; rfl) ?_
  with_reducible refine (value_calls _ (xs ++ leB (IntKind.u64.wrap c) 1) kk kn ks _ hM4.byt kk0 kk1 (by have := HN.out; have := HVK.out; have := HVV.out; simp only [List.length_append, leB_length]; omega) (by omega)).mono ?_
  rintro e5 w5 ⟨v5, rfl, hM5⟩
  refine ⟨_, rfl, ?_⟩
  have hp5 := blk_below hp4 hM5.2
  have hB5 := below_step hB4 hM5.2
  refine hK.out _ _ ⟨(blk_cell hp5 4), (blk_cell hp5 5), (blk_cell hp5 6), (blk_cell hp5 7)⟩ (fun hHeld => ?_)
  clear hK K
  refine norm_ (a' := ?_) ?_ ?_
  rotate_left
  · show Act.put _ (some 14) _ = _
    simp only [Act.put, List.setIfInBounds_toArray, List.set_cons_zero, List.set_cons_succ]
    rfl
  refine pure_ (i := 10) (N := some 0) (v := ?_) (a' := ?_) #[true, true, true, true, true, true, true, true, true, true, true] rfl rfl (by kernel_rfl) (fun _ _ _ h => h) (Or.inl ⟨by rfl, ?_⟩) ?_ ?_
  rotate_left
  · intro w'
    go_simp
    with_reducible rfl
  rotate_left
  · simp only [Act.put, List.setIfInBounds_toArray, List.set_cons_zero, List.set_cons_succ]
    rfl
  refine done_ (by kernel_rfl) ?_

  have HM5 := Lib.hid hM5
  have HB5 := Lib.hid hB5
  have HP5 := Lib.hid hp5
  clear hM4 hM5 hB4 hB5 hp4 hp5 p4 p5 p6 p7
  go_wp2
  have HP6 := Lib.hid (blk_drew HP5.out)
  have HB6 := Lib.hid (below_drew1 HB5.out)
  have p11 := blk_cell HP6.out 11
  have p12 := blk_cell HP6.out 12
  refine start_ (n := 12) (S := fun w' => w'.cell? ⟨w.heap.size, 11, none⟩ = some (.int .i64 fr) ∧ w'.cell? ⟨w.heap.size, 12, none⟩ = some (.int .i64 n)) (ds := []) #[false, false, false, false, false, false, false, false, false, false, false, false] (by kernel_rfl) rfl rfl ⟨p11, p12⟩ (fun hHeld => ?_)
  refine pure_ (i := 0) (N := some 15) (v := ?_) (a' := ?_) #[true, false, false, false, false, false, false, false, false, false, false, false] rfl rfl (by kernel_rfl) (fun _ _ _ h => h) (Or.inl ⟨by rfl, ?_⟩) ?_ ?_
  rotate_left
  · intro w'
    go_simp
    with_reducible rfl
  rotate_left
  · simp only [Act.put, List.setIfInBounds_toArray, List.set_cons_zero, List.set_cons_succ]
    rfl
  refine pure_ (i := 1) (N := some 16) (v := ?_) (a' := ?_) #[true, true, false, false, false, false, false, false, false, false, false, false] rfl rfl (by kernel_rfl) (fun _ _ _ h => h) (Or.inl ⟨by rfl, ?_⟩) ?_ ?_
  rotate_left
  · intro w'
    go_simp
    with_reducible rfl
  rotate_left
  · simp only [Act.put, List.setIfInBounds_toArray, List.set_cons_zero, List.set_cons_succ]
    rfl
  refine pure_ (i := 2) (N := some 17) (v := ?_) (a' := ?_) #[true, true, true, false, false, false, false, false, false, false, false, false] rfl rfl (by kernel_rfl) (fun _ _ _ h => h) (Or.inl ⟨by rfl, ?_⟩) ?_ ?_
  rotate_left
  · intro w'
    go_simp
    with_reducible rfl
  rotate_left
  · simp only [Act.put, List.setIfInBounds_toArray, List.set_cons_zero, List.set_cons_succ]
    rfl
  refine pure_ (i := 6) (N := some 21) (v := ?_) (a' := ?_) #[true, true, true, false, false, false, true, false, false, false, false, false] rfl rfl (by kernel_rfl) (fun _ _ _ h => h) (Or.inl ⟨by rfl, ?_⟩) ?_ ?_
  rotate_left
  · intro w'
    go_simp
    with_reducible rfl
  rotate_left
  · simp only [Act.put, List.setIfInBounds_toArray, List.set_cons_zero, List.set_cons_succ]
    rfl
  refine pure_ (i := 7) (N := some 22) (v := ?_) (a' := ?_) #[true, true, true, false, false, false, true, true, false, false, false, false] rfl rfl (by kernel_rfl) (fun _ _ _ h => h) (Or.inl ⟨by rfl, ?_⟩) ?_ ?_
  rotate_left
  · intro w'
    go_simp
    with_reducible rfl
  rotate_left
  · simp only [Act.put, List.setIfInBounds_toArray, List.set_cons_zero, List.set_cons_succ]
    rfl
  refine take_ (i := 3) (N := some 18) (v := ?_) (a' := ?_) #[true, true, true, true, false, false, true, true, false, false, false, false] rfl rfl (by kernel_rfl) (fun _ _ _ h => h) (Or.inl ⟨by rfl, ?_⟩) hHeld ?_ ?_
  rotate_left
  · rintro w' ⟨s0, s1⟩
    go_simp
    with_reducible rfl
  rotate_left
  · simp only [Act.put, List.setIfInBounds_toArray, List.set_cons_zero, List.set_cons_succ]
    rfl
  refine pure_ (i := 4) (N := some 19) (v := ?_) (a' := ?_) #[true, true, true, true, true, false, true, true, false, false, false, false] rfl rfl (by kernel_rfl) (fun _ _ _ h => h) (Or.inl ⟨by rfl, ?_⟩) ?_ ?_
  rotate_left
  · intro w'
    go_simp
    with_reducible rfl
  rotate_left
  · simp only [Act.put, List.setIfInBounds_toArray, List.set_cons_zero, List.set_cons_succ]
    rfl
  refine take_ (i := 8) (N := some 23) (v := ?_) (a' := ?_) #[true, true, true, true, true, false, true, true, true, false, false, false] rfl rfl (by kernel_rfl) (fun _ _ _ h => h) (Or.inl ⟨by rfl, ?_⟩) hHeld ?_ ?_
  rotate_left
  · rintro w' ⟨s0, s1⟩
    go_simp
    with_reducible rfl
  rotate_left
  · simp only [Act.put, List.setIfInBounds_toArray, List.set_cons_zero, List.set_cons_succ]
    rfl
  refine pure_ (i := 9) (N := some 24) (v := ?_) (a' := ?_) #[true, true, true, true, true, false, true, true, true, true, false, false] rfl rfl (by kernel_rfl) (fun _ _ _ h => h) (Or.inl ⟨by rfl, ?_⟩) ?_ ?_
  rotate_left
  · intro w'
    go_simp
    with_reducible rfl
  rotate_left
  · simp only [Act.put, List.setIfInBounds_toArray, List.set_cons_zero, List.set_cons_succ]
    rfl
  refine one_ (i := 5) (N := some 20) #[true, true, true, true, true, true, true, true, true, true, false, false] rfl rfl (by kernel_rfl) (by decide) (fun K hK => ?_)
  refine goes_ Try.func67 (by kernel_rfl) rfl #[v5, .int .u64 (IntKind.u64.wrap fr), .int .i64 4] (by rfl) rfl rfl (by simp only [List.map_toArray, List.map_cons, List.map_nil]; rfl) ?_
  with_reducible refine (put4 _ (xs ++ leB (IntKind.u64.wrap c) 1 ++ valB kk kn ks) (IntKind.u64.wrap fr) _ (HM5.out.byt.below (below_drew1 (Below.refl _ _))) (by have := HN.out; have := HVK.out; have := HVV.out; simp only [List.length_append, leB_length]; omega) (by rw [IntKind.wrap_u64]; omega)).mono ?_
  rintro e6 w6 ⟨v6, rfl, hM6⟩
  refine ⟨_, rfl, ?_⟩
  have hp6 := blk_below HP6.out hM6.2
  have hB6 := below_step HB6.out hM6.2
  refine hK.out _ _ ⟨(blk_cell hp6 11), (blk_cell hp6 12)⟩ (fun hHeld => ?_)
  clear hK K
  refine norm_ (a' := ?_) ?_ ?_
  rotate_left
  · show Act.put _ (some 20) _ = _
    simp only [Act.put, List.setIfInBounds_toArray, List.set_cons_zero, List.set_cons_succ]
    rfl
  refine one_ (i := 10) (N := some 25) #[true, true, true, true, true, true, true, true, true, true, true, false] rfl rfl (by kernel_rfl) (by decide) (fun K hK => ?_)
  refine goes_ Try.func67 (by kernel_rfl) rfl #[v6, .int .u64 (IntKind.u64.wrap n), .int .i64 2] (by rfl) rfl rfl (by simp only [List.map_toArray, List.map_cons, List.map_nil]; rfl) ?_
  with_reducible refine (put2 _ (xs ++ leB (IntKind.u64.wrap c) 1 ++ valB kk kn ks ++ leB (IntKind.u64.wrap fr) 4) (IntKind.u64.wrap n) _ hM6.byt (by have := HN.out; have := HVK.out; have := HVV.out; simp only [List.length_append, leB_length]; omega) (by rw [IntKind.wrap_u64]; omega)).mono ?_
  rintro e7 w7 ⟨v7, rfl, hM7⟩
  refine ⟨_, rfl, ?_⟩
  have hp7 := blk_below hp6 hM7.2
  have hB7 := below_step hB6 hM7.2
  refine hK.out _ _ ⟨(blk_cell hp7 11), (blk_cell hp7 12)⟩ (fun hHeld => ?_)
  clear hK K
  refine norm_ (a' := ?_) ?_ ?_
  rotate_left
  · show Act.put _ (some 25) _ = _
    simp only [Act.put, List.setIfInBounds_toArray, List.set_cons_zero, List.set_cons_succ]
    rfl
  refine pure_ (i := 11) (N := some 4) (v := ?_) (a' := ?_) #[true, true, true, true, true, true, true, true, true, true, true, true] rfl rfl (by kernel_rfl) (fun _ _ _ h => h) (Or.inl ⟨by rfl, ?_⟩) ?_ ?_
  rotate_left
  · intro w'
    go_simp
    with_reducible rfl
  rotate_left
  · simp only [Act.put, List.setIfInBounds_toArray, List.set_cons_zero, List.set_cons_succ]
    rfl
  refine done_ (by kernel_rfl) ?_

  go_wp2
  go_ret
  exact ⟨_, rfl, by rw [show xs ++ pB .looks _ = xs ++ leB (IntKind.u64.wrap c) 1 ++ valB kk kn ks ++ leB (IntKind.u64.wrap fr) 4 ++ leB (IntKind.u64.wrap n) 2 from by simp only [pB, IntKind.wrap_u64, et, er, ec, List.append_assoc]]; exact made_step hB6 hM7⟩
set_option maxHeartbeats 4000000 in
set_option maxRecDepth 100000 in
theorem put_changes (v : Value) (xs : List Int) (q : Q) (w : World) (h : Byt w v xs) (hN : xs.length ≤ 1000000) (ok : Ok q) :
    Calls Try.prog 124 #[v, .agg q.cells] w (PutPost w (xs ++ pB .changes q)) := by
  have HVK := Lib.hid (valB_len q.kk q.kn q.ks)
  have HVV := Lib.hid (valB_len q.vk q.vn q.vs)
  obtain ⟨k, hh, hl, o, c, kk, kn, ks, vk, vn, vs, fr, n, tw, ri, oh, ol⟩ := q
  have HOK := Lib.hid ok
  obtain ⟨k0, k1, hh0, hh1, hl0, hl1, o0, o1, c0, c1, kk0, kk1, kn0, kn1, ks0, vk0, vk1, vn0, vn1, vs0, fr0, fr1, n0, n1, tw0, tw1, ri0, ri1, oh0, oh1, ol0, ol1⟩ := ok
  simp only at k0 k1 hh0 hh1 hl0 hl1 o0 o1 c0 c1 kk0 kk1 kn0 kn1 ks0 vk0 vk1 vn0 vn1 vs0 fr0 fr1 n0 n1 tw0 tw1 ri0 ri1 oh0 oh1 ol0 ol1
  have HVK : Hid ((valB kk kn ks).length ≤ 9 + ks.size) := HVK
  have HVV : Hid ((valB vk vn vs).length ≤ 9 + vs.size) := HVV
  have HN := Lib.hid hN
  have HT := Lib.hid h
  have eo : o % 18446744073709551616 = o := by omega
  have ec : c % 18446744073709551616 = c := by omega
  have et : tw % 18446744073709551616 = tw := by omega
  have er : ri % 18446744073709551616 = ri := by omega
  have HBB := Lib.hid (below_drew1 (below_alloc (Below.refl w.heap.size w) (.cells #[.int .u8 k, .int .u64 hh, .int .u64 hl, .int .u8 o, .int .u8 c, .int .u8 kk, .int .i64 kn, .string ks, .int .u8 vk, .int .i64 vn, .string vs, .int .i64 fr, .int .i64 n, .int .u32 tw, .int .u8 ri, .int .u64 oh, .int .u64 ol] 104)))
  have HB0 := Lib.hid (below_alloc (Below.refl w.heap.size w) (.cells #[.int .u8 k, .int .u64 hh, .int .u64 hl, .int .u8 o, .int .u8 c, .int .u8 kk, .int .i64 kn, .string ks, .int .u8 vk, .int .i64 vn, .string vs, .int .i64 fr, .int .i64 n, .int .u32 tw, .int .u8 ri, .int .u64 oh, .int .u64 ol] 104))
  have hb := blk_drew (blk_new w (.cells #[.int .u8 k, .int .u64 hh, .int .u64 hl, .int .u8 o, .int .u8 c, .int .u8 kk, .int .i64 kn, .string ks, .int .u8 vk, .int .i64 vn, .string vs, .int .i64 fr, .int .i64 n, .int .u32 tw, .int .u8 ri, .int .u64 oh, .int .u64 ol] 104))
  have HB := Lib.hid hb
  clear h hN hb HOK
  go_enter Try.func124, Try.ntmps124
  go_wp2
  have p4 := blk_cell HB.out 4
  have p5 := blk_cell HB.out 5
  have p6 := blk_cell HB.out 6
  have p7 := blk_cell HB.out 7
  have p8 := blk_cell HB.out 8
  have p9 := blk_cell HB.out 9
  have p10 := blk_cell HB.out 10
  refine start_ (n := 15) (S := fun w' => w'.cell? ⟨w.heap.size, 4, none⟩ = some (.int .u8 c) ∧ w'.cell? ⟨w.heap.size, 5, none⟩ = some (.int .u8 kk) ∧ w'.cell? ⟨w.heap.size, 6, none⟩ = some (.int .i64 kn) ∧ w'.cell? ⟨w.heap.size, 7, none⟩ = some (.string ks) ∧ w'.cell? ⟨w.heap.size, 8, none⟩ = some (.int .u8 vk) ∧ w'.cell? ⟨w.heap.size, 9, none⟩ = some (.int .i64 vn) ∧ w'.cell? ⟨w.heap.size, 10, none⟩ = some (.string vs)) (ds := []) #[false, false, false, false, false, false, false, false, false, false, false, false, false, false, false] (by kernel_rfl) rfl rfl ⟨p4, p5, p6, p7, p8, p9, p10⟩ (fun hHeld => ?_)
  refine pure_ (i := 0) (N := some 5) (v := ?_) (a' := ?_) #[true, false, false, false, false, false, false, false, false, false, false, false, false, false, false] rfl rfl (by kernel_rfl) (fun _ _ _ h => h) (Or.inl ⟨by rfl, ?_⟩) ?_ ?_
  rotate_left
  · intro w'
    go_simp
    with_reducible rfl
  rotate_left
  · simp only [Act.put, List.setIfInBounds_toArray, List.set_cons_zero, List.set_cons_succ]
    rfl
  refine pure_ (i := 1) (N := some 6) (v := ?_) (a' := ?_) #[true, true, false, false, false, false, false, false, false, false, false, false, false, false, false] rfl rfl (by kernel_rfl) (fun _ _ _ h => h) (Or.inl ⟨by rfl, ?_⟩) ?_ ?_
  rotate_left
  · intro w'
    go_simp
    with_reducible rfl
  rotate_left
  · simp only [Act.put, List.setIfInBounds_toArray, List.set_cons_zero, List.set_cons_succ]
    rfl
  refine pure_ (i := 2) (N := some 7) (v := ?_) (a' := ?_) #[true, true, true, false, false, false, false, false, false, false, false, false, false, false, false] rfl rfl (by kernel_rfl) (fun _ _ _ h => h) (Or.inl ⟨by rfl, ?_⟩) ?_ ?_
  rotate_left
  · intro w'
    go_simp
    with_reducible rfl
  rotate_left
  · simp only [Act.put, List.setIfInBounds_toArray, List.set_cons_zero, List.set_cons_succ]
    rfl
  refine pure_ (i := 6) (N := some 11) (v := ?_) (a' := ?_) #[true, true, true, false, false, false, true, false, false, false, false, false, false, false, false] rfl rfl (by kernel_rfl) (fun _ _ _ h => h) (Or.inl ⟨by rfl, ?_⟩) ?_ ?_
  rotate_left
  · intro w'
    go_simp
    with_reducible rfl
  rotate_left
  · simp only [Act.put, List.setIfInBounds_toArray, List.set_cons_zero, List.set_cons_succ]
    rfl
  refine pure_ (i := 7) (N := some 12) (v := ?_) (a' := ?_) #[true, true, true, false, false, false, true, true, false, false, false, false, false, false, false] rfl rfl (by kernel_rfl) (fun _ _ _ h => h) (Or.inl ⟨by rfl, ?_⟩) ?_ ?_
  rotate_left
  · intro w'
    go_simp
    with_reducible rfl
  rotate_left
  · simp only [Act.put, List.setIfInBounds_toArray, List.set_cons_zero, List.set_cons_succ]
    rfl
  refine pure_ (i := 10) (N := some 15) (v := ?_) (a' := ?_) #[true, true, true, false, false, false, true, true, false, false, true, false, false, false, false] rfl rfl (by kernel_rfl) (fun _ _ _ h => h) (Or.inl ⟨by rfl, ?_⟩) ?_ ?_
  rotate_left
  · intro w'
    go_simp
    with_reducible rfl
  rotate_left
  · simp only [Act.put, List.setIfInBounds_toArray, List.set_cons_zero, List.set_cons_succ]
    rfl
  refine pure_ (i := 11) (N := some 16) (v := ?_) (a' := ?_) #[true, true, true, false, false, false, true, true, false, false, true, true, false, false, false] rfl rfl (by kernel_rfl) (fun _ _ _ h => h) (Or.inl ⟨by rfl, ?_⟩) ?_ ?_
  rotate_left
  · intro w'
    go_simp
    with_reducible rfl
  rotate_left
  · simp only [Act.put, List.setIfInBounds_toArray, List.set_cons_zero, List.set_cons_succ]
    rfl
  refine take_ (i := 3) (N := some 8) (v := ?_) (a' := ?_) #[true, true, true, true, false, false, true, true, false, false, true, true, false, false, false] rfl rfl (by kernel_rfl) (fun _ _ _ h => h) (Or.inl ⟨by rfl, ?_⟩) hHeld ?_ ?_
  rotate_left
  · rintro w' ⟨s0, s1, s2, s3, s4, s5, s6⟩
    go_simp
    with_reducible rfl
  rotate_left
  · simp only [Act.put, List.setIfInBounds_toArray, List.set_cons_zero, List.set_cons_succ]
    rfl
  refine pure_ (i := 4) (N := some 9) (v := ?_) (a' := ?_) #[true, true, true, true, true, false, true, true, false, false, true, true, false, false, false] rfl rfl (by kernel_rfl) (fun _ _ _ h => h) (Or.inl ⟨by rfl, ?_⟩) ?_ ?_
  rotate_left
  · intro w'
    go_simp
    with_reducible rfl
  rotate_left
  · simp only [Act.put, List.setIfInBounds_toArray, List.set_cons_zero, List.set_cons_succ]
    rfl
  refine take_ (i := 8) (N := some 13) (v := ?_) (a' := ?_) #[true, true, true, true, true, false, true, true, true, false, true, true, false, false, false] rfl rfl (by kernel_rfl) (fun _ _ _ h => h) (Or.inl ⟨by rfl, ?_⟩) hHeld ?_ ?_
  rotate_left
  · rintro w' ⟨s0, s1, s2, s3, s4, s5, s6⟩
    go_simp
    with_reducible rfl
  rotate_left
  · simp only [Act.put, List.setIfInBounds_toArray, List.set_cons_zero, List.set_cons_succ]
    rfl
  refine take_ (i := 12) (N := some 17) (v := ?_) (a' := ?_) #[true, true, true, true, true, false, true, true, true, false, true, true, true, false, false] rfl rfl (by kernel_rfl) (fun _ _ _ h => h) (Or.inl ⟨by rfl, ?_⟩) hHeld ?_ ?_
  rotate_left
  · rintro w' ⟨s0, s1, s2, s3, s4, s5, s6⟩
    go_simp
    with_reducible rfl
  rotate_left
  · simp only [Act.put, List.setIfInBounds_toArray, List.set_cons_zero, List.set_cons_succ]
    rfl
  refine one_ (i := 5) (N := some 10) #[true, true, true, true, true, true, true, true, true, false, true, true, true, false, false] rfl rfl (by kernel_rfl) (by decide) (fun K hK => ?_)
  refine goes_ Try.func67 (by kernel_rfl) rfl #[v, .int .u64 (IntKind.u64.wrap c), .int .i64 1] (by rfl) rfl rfl (by simp only [List.map_toArray, List.map_cons, List.map_nil]; rfl) ?_
  with_reducible refine (put1 _ (xs) (IntKind.u64.wrap c) _ (HT.out.below HBB.out) (by have := HN.out; omega) (by rw [IntKind.wrap_u64]; omega)).mono ?_
  rintro e4 w4 ⟨v4, rfl, hM4⟩
  refine ⟨_, rfl, ?_⟩
  have hp4 := blk_below HB.out hM4.2
  have hB4 := below_step HBB.out hM4.2
  refine hK.out _ _ ⟨(blk_cell hp4 4), (blk_cell hp4 5), (blk_cell hp4 6), (blk_cell hp4 7), (blk_cell hp4 8), (blk_cell hp4 9), (blk_cell hp4 10)⟩ (fun hHeld => ?_)
  clear hK K
  refine norm_ (a' := ?_) ?_ ?_
  rotate_left
  · show Act.put _ (some 10) _ = _
    simp only [Act.put, List.setIfInBounds_toArray, List.set_cons_zero, List.set_cons_succ]
    rfl
  refine one_ (i := 9) (N := some 14) #[true, true, true, true, true, true, true, true, true, true, true, true, true, false, false] rfl rfl (by kernel_rfl) (by decide) (fun K hK => ?_)
  refine goes_ Try.func69 (by kernel_rfl) rfl #[v4, .agg #[.int .u8 kk, .int .i64 kn, .string ks]] (by rfl) rfl rfl (by simp only [List.map_toArray, List.map_cons, List.map_nil]; rfl) ?_
  with_reducible refine (value_calls _ (xs ++ leB (IntKind.u64.wrap c) 1) kk kn ks _ hM4.byt kk0 kk1 (by have := HN.out; have := HVK.out; have := HVV.out; simp only [List.length_append, leB_length]; omega) (by omega)).mono ?_
  rintro e5 w5 ⟨v5, rfl, hM5⟩
  refine ⟨_, rfl, ?_⟩
  have hp5 := blk_below hp4 hM5.2
  have hB5 := below_step hB4 hM5.2
  refine hK.out _ _ ⟨(blk_cell hp5 4), (blk_cell hp5 5), (blk_cell hp5 6), (blk_cell hp5 7), (blk_cell hp5 8), (blk_cell hp5 9), (blk_cell hp5 10)⟩ (fun hHeld => ?_)
  clear hK K
  refine norm_ (a' := ?_) ?_ ?_
  rotate_left
  · show Act.put _ (some 14) _ = _
    simp only [Act.put, List.setIfInBounds_toArray, List.set_cons_zero, List.set_cons_succ]
    rfl
  refine one_ (i := 13) (N := some 18) #[true, true, true, true, true, true, true, true, true, true, true, true, true, true, false] rfl rfl (by kernel_rfl) (by decide) (fun K hK => ?_)
  refine goes_ Try.func69 (by kernel_rfl) rfl #[v5, .agg #[.int .u8 vk, .int .i64 vn, .string vs]] (by rfl) rfl rfl (by simp only [List.map_toArray, List.map_cons, List.map_nil]; rfl) ?_
  with_reducible refine (value_calls _ (xs ++ leB (IntKind.u64.wrap c) 1 ++ valB kk kn ks) vk vn vs _ hM5.byt vk0 vk1 (by have := HN.out; have := HVK.out; have := HVV.out; simp only [List.length_append, leB_length]; omega) (by omega)).mono ?_
  rintro e6 w6 ⟨v6, rfl, hM6⟩
  refine ⟨_, rfl, ?_⟩
  have hp6 := blk_below hp5 hM6.2
  have hB6 := below_step hB5 hM6.2
  refine hK.out _ _ ⟨(blk_cell hp6 4), (blk_cell hp6 5), (blk_cell hp6 6), (blk_cell hp6 7), (blk_cell hp6 8), (blk_cell hp6 9), (blk_cell hp6 10)⟩ (fun hHeld => ?_)
  clear hK K
  refine norm_ (a' := ?_) ?_ ?_
  rotate_left
  · show Act.put _ (some 18) _ = _
    simp only [Act.put, List.setIfInBounds_toArray, List.set_cons_zero, List.set_cons_succ]
    rfl
  refine pure_ (i := 14) (N := some 4) (v := ?_) (a' := ?_) #[true, true, true, true, true, true, true, true, true, true, true, true, true, true, true] rfl rfl (by kernel_rfl) (fun _ _ _ h => h) (Or.inl ⟨by rfl, ?_⟩) ?_ ?_
  rotate_left
  · intro w'
    go_simp
    with_reducible rfl
  rotate_left
  · simp only [Act.put, List.setIfInBounds_toArray, List.set_cons_zero, List.set_cons_succ]
    rfl
  refine done_ (by kernel_rfl) ?_

  go_wp2
  go_ret
  exact ⟨_, rfl, by rw [show xs ++ pB .changes _ = xs ++ leB (IntKind.u64.wrap c) 1 ++ valB kk kn ks ++ valB vk vn vs from by simp only [pB, IntKind.wrap_u64, et, er, ec, List.append_assoc]]; exact made_step hB5 hM6⟩
end Go.Proofs.Ytaoacibahdbdkaa.Req
