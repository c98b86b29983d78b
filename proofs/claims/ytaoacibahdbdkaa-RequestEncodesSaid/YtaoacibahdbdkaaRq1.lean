/- What the requests' proofs use of the replies'. -/
import Derived.Test.YtaoacibahdbdkaaQRequestParsesx2
import Derived.Test.YtaoacibahdbdkaaValPure
import Derived.Test.YtaoacibahdbdkaaMa
import Derived.Laws.Strings
namespace Go.Proofs.Ytaoacibahdbdkaa.Rep
set_option linter.unusedVariables false
open Go.RowKit Go Go.Proofs.Ytaoacibahdbdkaa.QRequestParses Go.Proofs.YtaoacibahdbdkaaW.PrintWords Go.Proofs.YtaoacibahdbdkaaW.PrintLast Go.Proofs.YtaoacibahdbdkaaW.PrintMore Go.Proofs.Ytaoacibahdbdkaa.Fra Go.Proofs.Ytaoacibahdbdkaa.Pk Go.Proofs.Ytaoacibahdbdkaa.Bts Go.Proofs.Ytaoacibahdbdkaa.Pr Go.Proofs.Ytaoacibahdbdkaa.ValPure
open Go.Proofs.Ytaoacibahdbdkaa.Rf (Rx)
def rightV (a0 a1 : Int) (a2 : ByteArray) : Bool := if a0 = 0 then a1 == 0 && a2.size == 0 else if a0 = 1 then (a1 == 0 || a1 == 1) && a2.size == 0 else if a0 = 2 then a2.size == 0 else if a0 = 3 then a1 == 0 && decide (a2.size ≤ 4096) else false
theorem empty_eq (s : ByteArray) : (s.toList == ([] : List UInt8)) = (s.size == 0) := by
  rw [ByteArray.toList_eq]
  have h : s.data.toList.length = s.size := by rw [Array.length_toList]; rfl
  cases hl : s.data.toList with
  | nil => rw [hl] at h; rw [← h]; rfl
  | cons x l => rw [hl] at h; rw [← h]; rfl
theorem right_f (a0 a1 : Int) (a2 : ByteArray) : value_Value_Right.f a0 a1 a2 = some (rightV a0 a1 a2) := by
  unfold value_Value_Right.f rightV
  have e : ((⟨#[]⟩ : ByteArray)).toList = ([] : List UInt8) := by rw [ByteArray.toList_eq]
  rw [empty_eq]
  split
  · rename_i h; simp [h]
  · split
    · rename_i h
      unfold value_Truth.f
      by_cases h1 : a1 = 1
      · simp only [h1, beq_self_eq_true, if_true, Option.bind_some, e, empty_eq]; simp [h]
      · have : (a1 == 1) = false := by simpa using h1
        simp only [this, Bool.false_eq_true, if_false, Option.bind_some, e, empty_eq]; simp [h]
    · split
      · rfl
      · split
        · by_cases h : a1 = 0
          · simp only [h, if_true]
            have : ((a2.size : Int) ≤ 4096) ↔ a2.size ≤ 4096 := by omega
            simp [this]
          · simp [h]
        · rfl

abbrev vat (l : List S54) (i : Nat) : S54 := l.getD i z54
def rightS (x : S54) : Bool := rightV x.f0 x.f1 x.f2
theorem drop_cons' (l : List S54) (i : Nat) (h : i < l.length) : l.drop i = vat l i :: l.drop (i + 1) := by
  rw [List.drop_eq_getElem_cons h]; simp [vat, List.getD, h]
theorem all_l0 (l : List S54) (h0 : l.length ≤ 100000) (d : Nat) : ∀ (k i : Nat), l.length - i = d → i ≤ l.length → d + 1 ≤ k → value_All.l0 k l (l.length : Int) i = some ((l.drop i).all rightS) := by
  induction d with
  | zero =>
    intro k i hd hi hk
    obtain ⟨k, rfl⟩ : ∃ m, k = m + 1 := ⟨k - 1, by omega⟩
    simp only [value_All.l0]
    rw [if_neg (by omega), List.drop_eq_nil_of_le (by omega)]; rfl
  | succ d ih =>
    intro k i hd hi hk
    obtain ⟨k, rfl⟩ : ∃ m, k = m + 1 := ⟨k - 1, by omega⟩
    have hw : wrap64 ((i : Int) + 1) = ((i + 1 : Nat) : Int) := by unfold wrap64; omega
    have e0 : rd_T54 l (i : Int) = vat l i := rfl
    simp only [value_All.l0]
    rw [if_pos (by omega), if_pos (by omega), if_pos (by omega), right_f, Option.bind_some, e0, drop_cons' l i (by omega), List.all_cons]
    by_cases h : rightS (vat l i) = true
    · have h' : rightV (vat l i).f0 (vat l i).f1 (vat l i).f2 = true := h
      rw [if_pos h', hw, ih k (i + 1) (by omega) (by omega) (by omega), h, Bool.true_and]
    · have h' : ¬ rightV (vat l i).f0 (vat l i).f1 (vat l i).f2 = true := h
      have hf : rightS (vat l i) = false := by simpa using h
      rw [if_neg h', hf, Bool.false_and]
theorem all_f (k : Nat) (l : List S54) (h0 : l.length ≤ 100000) (hk : l.length + 1 ≤ k) : value_All.f k l = some (l.all rightS) := by
  unfold value_All.f
  have := all_l0 l h0 l.length k 0 (by omega) (by omega) (by omega)
  simpa using this
theorem S54_ext {x y : S54} (h0 : x.f0 = y.f0) (h1 : x.f1 = y.f1) (h2 : x.f2 = y.f2) : x = y := by cases x; cases y; simp_all
instance : DecidableEq S54 := fun x y => if h : x.f0 = y.f0 ∧ x.f1 = y.f1 ∧ x.f2 = y.f2 then isTrue (S54_ext h.1 h.2.1 h.2.2) else isFalse (fun e => h (by rw [e]; exact ⟨rfl, rfl, rfl⟩))
/-- A slice of values that is read. -/
def RV (w : World) (v : Value) (l : List S54) : Prop := ∃ A c, v = .slice A l.length c ∧ l.length ≤ c ∧ Kd.C k54 w A l.length l
theorem RV.below {w w' : World} {v : Value} {l : List S54} (h : RV w v l) (hb : Below w.heap.size w w') : RV w' v l := let ⟨A, c, e, hc, h⟩ := h; ⟨A, c, e, hc, Kd.C_below h hb⟩
theorem blk_new1 (w : World) (o1 o2 : Obj) : ((w.alloc o1).alloc o2).heap[w.heap.size + 1]? = some o2 := by
  have h := blk_new (w.alloc o1) o2
  have e : (w.alloc o1).heap.size = w.heap.size + 1 := by simp
  rwa [e] at h
theorem ByteArray.toList_inj' {a b : ByteArray} (h : a.toList = b.toList) : a = b := by
  rw [ByteArray.toList_eq, ByteArray.toList_eq] at h
  exact (ValPure.toList_inj a b).1 h
theorem own_one (W : World) (x : Int) {base : Nat} (hb : base ≤ W.heap.size) : (W.alloc (.cells #[.int .u8 x] 5)).ownsRow base 5 1 (.slice (some ⟨W.heap.size, 0, none⟩) 1 1) 1 [.int .u8 x] :=
  ⟨rfl, .inr ⟨_, 1, _, rfl, hb, blk_new _ _, by omega, by unfold maxLen; omega, rfl, rfl⟩⟩
theorem rightS_small {x : S54} (h : rightS x = true) : 0 ≤ x.f0 ∧ x.f0 ≤ 3 ∧ x.f2.size ≤ 4096 := by
  unfold rightS rightV at h
  split at h
  · simp only [Bool.and_eq_true, beq_iff_eq, Bool.or_eq_true, decide_eq_true_eq] at h; omega
  · split at h
    · simp only [Bool.and_eq_true, beq_iff_eq, Bool.or_eq_true, decide_eq_true_eq] at h; omega
    · split at h
      · simp only [Bool.and_eq_true, beq_iff_eq, Bool.or_eq_true, decide_eq_true_eq] at h; omega
      · split at h
        · simp only [Bool.and_eq_true, beq_iff_eq, Bool.or_eq_true, decide_eq_true_eq] at h; omega
        · cases h
theorem put1 (v : Value) (xs : List Int) (n : Int) (w : World) (h : Byt w v xs) (hl : xs.length ≤ 140737488351300) (h0 : 0 ≤ n) :
    Calls Try.prog 67 #[v, .int .u64 n, .int .i64 1] w fun e w' => ∃ v', e = .returned v' ∧ Made w w' v' (xs ++ leB n 1) := put_pos v xs n 1 w h hl h0 (by omega) (by omega)
theorem put2 (v : Value) (xs : List Int) (n : Int) (w : World) (h : Byt w v xs) (hl : xs.length ≤ 140737488351300) (h0 : 0 ≤ n) :
    Calls Try.prog 67 #[v, .int .u64 n, .int .i64 2] w fun e w' => ∃ v', e = .returned v' ∧ Made w w' v' (xs ++ leB n 2) := put_pos v xs n 2 w h hl h0 (by omega) (by omega)
theorem put4 (v : Value) (xs : List Int) (n : Int) (w : World) (h : Byt w v xs) (hl : xs.length ≤ 140737488351300) (h0 : 0 ≤ n) :
    Calls Try.prog 67 #[v, .int .u64 n, .int .i64 4] w fun e w' => ∃ v', e = .returned v' ∧ Made w w' v' (xs ++ leB n 4) := put_pos v xs n 4 w h hl h0 (by omega) (by omega)
theorem put8 (v : Value) (xs : List Int) (n : Int) (w : World) (h : Byt w v xs) (hl : xs.length ≤ 140737488351300) (h0 : 0 ≤ n) :
    Calls Try.prog 67 #[v, .int .u64 n, .int .i64 8] w fun e w' => ∃ v', e = .returned v' ∧ Made w w' v' (xs ++ leB n 8) := put_pos v xs n 8 w h hl h0 (by omega) (by omega)
theorem own_below {w W : World} {base n size : Nat} {e : TypeId} {v : Value} {xs : List Value} (h : w.ownsRow base e size v n xs) (hb : Below w.heap.size w W) : W.ownsRow base e size v n xs :=
  h.kept (row := none) ⟨hb.os, hb.tape, hb.output, hb.size, fun i hi _ => hb.block i hi⟩ (by cases v.ownBlock <;> simp)
theorem made_step {w W W' : World} {v : Value} {xs : List Int} (hb : Below w.heap.size w W) (h : Made W W' v xs) : Made w W' v xs := ⟨own_weaken h.1 hb.size, below_step hb h.2⟩
theorem made_below {w W W' : World} {v : Value} {xs : List Int} (h : Made w W v xs) (hb : Below W.heap.size W W') : Made w W' v xs := ⟨own_below h.1 hb, below_step h.2 hb⟩
theorem takeP_bs1 {xs bs ys : List Int} {f f1 : Int} {n : Nat} (h : takeP xs f n = (bs, ys, f1)) (hb : Bs xs) : Bs bs ∧ Bs ys ∧ bs.length ≤ n ∧ ys.length ≤ xs.length := by
  have h1 := takeP_bs hb f n
  have h2 := takeP_len xs f n
  have h3 := takeP_left xs f n
  rw [h] at h1 h2 h3
  exact ⟨h1.1, h1.2, h2, h3⟩
theorem textP_bs (xs : List Int) (f most : Int) (hb : Bs xs) : Bs (textP xs f most).2.1 ∧ (textP xs f most).2.1.length ≤ xs.length := by
  unfold textP
  have h1 := takeP_bs hb f 2
  have h3 := takeP_left xs f 2
  generalize takeP xs f 2 = t at *
  have h4 := takeP_bs h1.2 (if t.2.2 = 0 ∧ most < numB t.1 then 12 else t.2.2) (numB t.1).toNat
  have h5 := takeP_left t.2.1 (if t.2.2 = 0 ∧ most < numB t.1 then 12 else t.2.2) (numB t.1).toNat
  exact ⟨h4.2, Nat.le_trans h5 h3⟩
theorem valueP_bs (xs : List Int) (f : Int) (hb : Bs xs) : Bs (valueP xs f).2.1 ∧ (valueP xs f).2.1.length ≤ xs.length := by
  have h1 := takeP_bs hb f 1
  have h3 := takeP_left xs f 1
  have e : (valueP xs f).2.1 = (valM xs f).2.2.2.1 := rfl
  rw [e]
  unfold valM
  generalize takeP xs f 1 = t at *
  dsimp only
  split
  · exact ⟨(takeP_bs h1.2 t.2.2 1).2, Nat.le_trans (takeP_left _ _ _) h3⟩
  · split
    · exact ⟨(takeP_bs h1.2 t.2.2 8).2, Nat.le_trans (takeP_left _ _ _) h3⟩
    · split
      · exact ⟨(textP_bs _ _ _ h1.2).1, Nat.le_trans (textP_bs _ _ _ h1.2).2 h3⟩
      · exact ⟨h1.2, h3⟩
theorem numB_small {bs : List Int} (hb : Bs bs) {n : Nat} (hn : bs.length ≤ n) (hn8 : n ≤ 8) : 0 ≤ numB bs ∧ numB bs < 256 ^ n := by
  obtain ⟨h1, h2⟩ := numB_nn bs hb
  have h := Nat.pow_le_pow_right (n := 256) (by decide) hn
  have h' : ((256 ^ bs.length : Nat) : Int) ≤ ((256 ^ n : Nat) : Int) := Int.ofNat_le.2 h
  refine ⟨h1, Int.lt_of_lt_of_le h2 ?_⟩
  simpa using h'
theorem RV.fr {w w' : World} {v : Value} {l : List S54} {S : Nat → Prop} (h : RV w v l) (hf : Fr S w w') (hs : ∀ k, v.ownBlock = some k → ¬ S k) : RV w' v l := by
  obtain ⟨A, c, rfl, hc, hC⟩ := h
  refine ⟨A, c, rfl, hc, ?_⟩
  obtain ⟨h1, h2, h3⟩ := hC
  refine ⟨h1, h2, fun hn => ?_⟩
  obtain ⟨ad, rfl, h4⟩ := h3 hn
  refine ⟨ad, rfl, fun j p hj => ?_⟩
  obtain ⟨cs, e1, e2, e3⟩ := h4 j p hj
  refine ⟨cs, e1, ?_, fun i u hi => ?_⟩
  · obtain rfl := k54_open e2
    exact k54_mk _ _
  · have hb : (ad.add (j * k54.sz + i)).block = ad.block := by unfold Addr.add; split <;> rfl
    refine hf.cell (e3 i u hi) ?_
    have hb' : (ad.add (j * k54.sz + i)).block = ad.block := hb
    rw [hb']
    exact hs ad.block rfl
theorem fr_below {S : Nat → Prop} {B : Nat} {w w1 w2 : World} (h : Below B w w1) (hf : Fr S w1 w2) (hs : ∀ k, S k → B ≤ k) (hB : B ≤ w.heap.size) : Below B w w2 :=
  Fr.below (S := fun k => B ≤ k) (Fr.then_ (Fr.of_below h (fun k hk => .inl hk)) hf (fun k hk => .inl (hs k hk))) (fun k hk => hk) hB
theorem handle_calls (B g : Nat) (xs : List Int) (f : Int) (w : World) (h : Rx w B g xs f) (hBw : B ≤ w.heap.size) (hl : xs.length ≤ 100000) (hb : Bs xs) (b2 r2 : List Int) (f2 : Int) (ht2 : takeP xs f 8 = (b2, r2, f2)) (b3 r3 : List Int) (f3 : Int) (ht3 : takeP r2 f2 8 = (b3, r3, f3)) :
    Calls Try.prog 86 #[.pointer (some ⟨g, 0, none⟩)] w fun en w' => en = .returned (.agg #[.int .u64 (numB b2), .int .u64 (numB b3)]) ∧ Rx w' B g r3 f3 ∧ Fr (· = g) w w' := by
  obtain ⟨p1, hb2, p3, p4⟩ := takeP_bs1 ht2 hb
  have HRX := Lib.hid h
  have HT2 := Lib.hid ht2
  have HT3 := Lib.hid ht3
  have hgw : w.heap.size ≠ g := by have := h.lt; omega
  have hvB : ∀ k, k < B → ¬ k = w.heap.size := by omega
  clear h ht2 ht3
  go_enter Try.func86, Try.ntmps86
  go_wp2_with (first
    | (go_at_call 85; go_loud (have _t := HR1.out; refine (Rf.number_k 8 B g r2 f2 8 _ rfl HR1.out (by omega) hb2).mono ?_; rw [HT3.out]; rintro en w2 ⟨rfl, hr2, hf2⟩; have hv := hf2.blk HV1.out hgw; have HV2 := Lib.hid hv; have c0 := blk_cell hv 0; have c1 := blk_cell hv 1; have y0 := blk_frozen hv 0; have y1 := blk_frozen hv 1; have HR2 := Lib.hid hr2; have HF2 := Lib.hid hf2; clear hr2 hf2 hv))
    | (go_at_call 85; go_loud (refine (Rf.number_k 8 B g xs f 8 _ rfl (HRX.out.below (below_alloc (Below.refl _ _) _)) (by omega) hb).mono ?_; rw [HT2.out]; rintro en w1 ⟨rfl, hr1, hf1⟩; have HV1 := Lib.hid (hf1.blk (blk_new w _) hgw); have HR1 := Lib.hid hr1; have HF1 := Lib.hid hf1; clear hr1 hf1)))
  refine bodyPost_ret (results_cell_row rfl _ _ w.heap.size 84 #[.int .u64 (numB b2), .int .u64 (numB b3)] (0, 0) _ rfl (blk_put (blk_put HV2.out 0 _ rfl) 1 _ rfl) Try.underlying84 rfl (by kernel_rfl)) rfl ?_
  exact ⟨rfl, (HR2.out.put (p := ⟨w.heap.size, 0, none⟩) hvB _).put (p := ⟨w.heap.size, 1, none⟩) hvB _, ((((Fr.alloc (S := (· = g)) _).trans HF1.out).trans HF2.out).put (p := ⟨w.heap.size, 0, none⟩) (.inr (Nat.le_refl _)) _).put (p := ⟨w.heap.size, 1, none⟩) (.inr (Nat.le_refl _)) _⟩
theorem rightV_eq (k n : Int) (s : ByteArray) : Pr.rightV k n s = Rep.rightV k n s := by
  unfold Pr.rightV
  rw [Rf.right_f]
  rfl
theorem refright (x : S54) : QPackedPuts.easementref01_Right.f x.f0 x.f1 x.f2 = some (rightS x) := by
  rw [Rf.refr, rightV_eq]; rfl
theorem takeP_ok {xs bs ys : List Int} {f : Int} {n : Nat} (h : takeP xs f n = (bs, ys, 0)) : f = 0 ∧ xs = bs ++ ys ∧ bs.length = n := by
  unfold takeP at h
  split at h
  · rename_i h0
    split at h
    · simp at h
    · rename_i h1
      simp only [Prod.mk.injEq] at h
      obtain ⟨rfl, rfl, _⟩ := h
      exact ⟨h0, by simp, by simp; omega⟩
  · rename_i h0
    simp only [Prod.mk.injEq] at h
    exact absurd h.2.2 h0
theorem leB_numB : ∀ (bs : List Int), Bs bs → leB (numB bs) bs.length = bs
  | [], _ => rfl
  | b :: bs, h => by
    have h1 := h b (List.mem_cons_self ..)
    have ih := leB_numB bs (fun y hy => h y (List.mem_cons_of_mem _ hy))
    show leB (b + 256 * numB bs) (bs.length + 1) = b :: bs
    rw [leB_cons, show (b + 256 * numB bs) % 256 = b by omega, show (b + 256 * numB bs) / 256 = numB bs by omega, ih]
theorem bytes_str : ∀ (bs : List Int), Bs bs → bytesOf (strOfNums bs) = bs := by
  intro bs h
  unfold bytesOf strOfNums
  show (bs.map fun n => UInt8.ofNat n.toNat).toArray.toList.map (fun b => (b.toNat : Int)) = bs
  rw [List.toList_toArray, List.map_map]
  have : ∀ l : List Int, Bs l → l.map ((fun b : UInt8 => (b.toNat : Int)) ∘ fun n : Int => UInt8.ofNat n.toNat) = l := by
    intro l hl
    induction l with
    | nil => rfl
    | cons x l ih =>
      have hx := hl x (List.mem_cons_self ..)
      rw [List.map_cons, ih (fun y hy => hl y (List.mem_cons_of_mem _ hy))]
      congr 1
      simp only [Function.comp, UInt8.toNat_ofNat']
      omega
  exact this bs h
theorem bs_left {bs ys : List Int} (h : Bs (bs ++ ys)) : Bs bs := fun x hx => h x (List.mem_append_left _ hx)
theorem bs_right {bs ys : List Int} (h : Bs (bs ++ ys)) : Bs ys := fun x hx => h x (List.mem_append_right _ hx)
theorem textP_ok {xs bs ys : List Int} {f most : Int} (hb : Bs xs) (h : textP xs f most = (bs, ys, 0)) : f = 0 ∧ xs = leB bs.length 2 ++ bs ++ ys ∧ Bs bs := by
  unfold textP at h
  obtain ⟨b2, r2, f2, ht⟩ : ∃ b2 r2 f2, takeP xs f 2 = (b2, r2, f2) := ⟨_, _, _, rfl⟩
  rw [ht] at h
  dsimp only at h
  obtain ⟨h0, rfl, hl⟩ := takeP_ok h
  have hf2 : f2 = 0 := by
    split at h0
    · cases h0
    · exact h0
  subst hf2
  obtain ⟨rfl, rfl, hl2⟩ := takeP_ok ht
  have hB2 := bs_left hb
  have hBb := bs_left (bs_right hb)
  refine ⟨rfl, ?_, hBb⟩
  have hn := numB_nn b2 hB2
  have e : ((bs.length : Nat) : Int) = numB b2 := by omega
  rw [e, ← hl2, leB_numB b2 hB2, List.append_assoc]
theorem one_byte {b : List Int} (hl : b.length = 1) : ∃ x, b = [x] ∧ numB b = x := by
  match b, hl with
  | [x], _ => exact ⟨x, rfl, by simp [numB]⟩
theorem valueP_ok {xs ys : List Int} {f k n : Int} {s : ByteArray} (hb : Bs xs) (h : valueP xs f = ((k, n, s), ys, 0)) : f = 0 ∧ xs = valB k n s ++ ys ∧ Pr.rightV k n s = true := by
  rw [valueP_eq] at h
  obtain ⟨⟨k', n', s', z, fz⟩, hm⟩ : ∃ m, valM xs f = m := ⟨_, rfl⟩
  rw [hm] at h
  unfold endV at h
  dsimp only at h
  have hF : (if fz = 0 ∧ Pr.rightV k' n' s' = false then (10 : Int) else fz) = 0 := by
    simp only [Prod.mk.injEq] at h
    exact h.2.2
  have hfz : fz = 0 ∧ Pr.rightV k' n' s' = true := by
    by_cases c : fz = 0 ∧ Pr.rightV k' n' s' = false
    · rw [if_pos c] at hF
      cases hF
    · rw [if_neg c] at hF
      refine ⟨hF, ?_⟩
      cases hr : Pr.rightV k' n' s'
      · exact absurd ⟨hF, hr⟩ c
      · rfl
  obtain ⟨rfl, hr⟩ := hfz
  have hn : ¬ ((0 : Int) = 0 ∧ Pr.rightV k' n' s' = false) := by rw [hr]; simp
  rw [if_neg hn, if_pos rfl] at h
  simp only [Prod.mk.injEq] at h
  obtain ⟨⟨rfl, rfl, rfl⟩, rfl, _⟩ := h
  unfold valM at hm
  obtain ⟨b1, r1, f1, ht⟩ : ∃ b1 r1 f1, takeP xs f 1 = (b1, r1, f1) := ⟨_, _, _, rfl⟩
  rw [ht] at hm
  dsimp only at hm
  split at hm
  · rename_i k1
    simp only [Prod.mk.injEq] at hm
    obtain ⟨rfl, rfl, rfl, hz⟩ := hm
    obtain ⟨b2, r2, f2, ht2⟩ : ∃ b2 r2 f2, takeP r1 f1 1 = (b2, r2, f2) := ⟨_, _, _, rfl⟩
    rw [ht2] at hz hr ⊢
    simp only [Prod.mk.injEq] at hz
    obtain ⟨rfl, rfl⟩ := hz
    obtain ⟨rfl, rfl, hl2⟩ := takeP_ok ht2
    obtain ⟨rfl, rfl, hl1⟩ := takeP_ok ht
    obtain ⟨x, rfl, hx⟩ := one_byte hl1
    obtain ⟨y, rfl, hy⟩ := one_byte hl2
    have hyb := hb y (by simp)
    refine ⟨rfl, ?_, hr⟩
    rw [k1, valB_1]
    rw [hx] at k1
    dsimp only
    rw [hy, k1]
    have e : wrap64 y % 18446744073709551616 = y := by rw [IntWalk.wrap64_in y (by omega)]; omega
    rw [e, leB_one, show y % 256 = y by omega]
    rfl
  · split at hm
    · rename_i k1
      simp only [Prod.mk.injEq] at hm
      obtain ⟨rfl, rfl, rfl, hz⟩ := hm
      obtain ⟨b2, r2, f2, ht2⟩ : ∃ b2 r2 f2, takeP r1 f1 8 = (b2, r2, f2) := ⟨_, _, _, rfl⟩
      rw [ht2] at hz hr ⊢
      simp only [Prod.mk.injEq] at hz
      obtain ⟨rfl, rfl⟩ := hz
      obtain ⟨rfl, rfl, hl2⟩ := takeP_ok ht2
      obtain ⟨rfl, rfl, hl1⟩ := takeP_ok ht
      obtain ⟨x, rfl, hx⟩ := one_byte hl1
      have hB2 : Bs b2 := bs_left (bs_right hb)
      have hn := numB_nn b2 hB2
      rw [hl2] at hn
      refine ⟨rfl, ?_, hr⟩
      rw [k1, valB_2]
      rw [hx] at k1
      dsimp only
      have e : wrap64 (numB b2) % 18446744073709551616 = numB b2 := by
        have h2 : numB b2 < 18446744073709551616 := hn.2
        unfold wrap64
        omega
      rw [e, k1]
      have := leB_numB b2 hB2
      rw [hl2] at this
      rw [this]
      rfl
    · split at hm
      · rename_i k1
        simp only [Prod.mk.injEq] at hm
        obtain ⟨rfl, rfl, rfl, hz⟩ := hm
        obtain ⟨b2, r2, f2, ht2⟩ : ∃ b2 r2 f2, textP r1 f1 4096 = (b2, r2, f2) := ⟨_, _, _, rfl⟩
        rw [ht2] at hz hr ⊢
        simp only [Prod.mk.injEq] at hz
        obtain ⟨rfl, rfl⟩ := hz
        have hb1 := takeP_bs1 ht hb
        obtain ⟨rfl, rfl, hB2⟩ := textP_ok hb1.2.1 ht2
        obtain ⟨rfl, rfl, hl1⟩ := takeP_ok ht
        obtain ⟨x, rfl, hx⟩ := one_byte hl1
        refine ⟨rfl, ?_, hr⟩
        rw [k1, valB_3]
        rw [hx] at k1
        dsimp only
        rw [bytes_str b2 hB2, k1, strOfNums_size]
        simp
      · rename_i k1 k2 k3
        simp only [Prod.mk.injEq] at hm
        obtain ⟨rfl, rfl, rfl, hz⟩ := hm
        obtain ⟨rfl, rfl⟩ := hz
        obtain ⟨rfl, rfl, hl1⟩ := takeP_ok ht
        obtain ⟨x, rfl, hx⟩ := one_byte hl1
        have hx0 : x = 0 := by
          rw [rightV_eq] at hr
          unfold rightV at hr
          by_cases c : numB [x] = 0
          · rw [← hx]; exact c
          · rw [if_neg c, if_neg k1, if_neg k2, if_neg k3] at hr
            cases hr
        subst hx0
        rw [hx] at hr ⊢
        refine ⟨rfl, ?_, hr⟩
        rw [valB_0 _ _ _ (by decide) (by decide) (by decide)]
        rfl
theorem endP_zero {xs : List Int} {f : Int} (h : endP xs f = 0) : xs = [] ∧ f = 0 := by
  unfold endP at h
  split at h
  · rename_i h0
    split at h
    · exact ⟨‹_›, h0⟩
    · cases h
  · rename_i h0
    exact absurd h h0
end Go.Proofs.Ytaoacibahdbdkaa.Rep
