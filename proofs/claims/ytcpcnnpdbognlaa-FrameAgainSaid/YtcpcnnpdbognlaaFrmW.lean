/- frame: the law FrameFeeds, walked. -/
import Derived.Test.YtcpcnnpdbognlaaFrmH
namespace Go.Proofs.Ytcpcnnpdbognlaa.Frm
open Go.RowKit Go Go.Proofs.YtcpcnnpdbognlaaW.PrintWords Go.Proofs.YtcpcnnpdbognlaaW.PrintMore Go.Proofs.YtcpcnnpdbognlaaW.PrintLast Go.Proofs.Ytcpcnnpdbognlaa.Bts Go.Proofs.Ytcpcnnpdbognlaa.Fra
theorem fr_bound : ∀ (k : Nat) (xs : List Int), xs.length ≤ k → (fr xs).1.length ≤ xs.length ∧ (fr xs).2.1.length ≤ xs.length ∧ ∀ x ∈ (fr xs).2.1, x ∈ xs
  | k, xs, hk => by
    by_cases h2 : xs.length < 2
    · rw [fr_short xs h2]; exact ⟨Nat.zero_le _, Nat.le_refl _, fun _ h => h⟩
    · by_cases h9 : 9000 < len2 xs
      · rw [fr_long xs (by omega) h9]; exact ⟨Nat.zero_le _, Nat.zero_le _, fun x h => by cases h⟩
      · by_cases hw : xs.length < 2 + len2 xs
        · rw [fr_wait xs (by omega) (by omega) hw]; exact ⟨Nat.zero_le _, Nat.le_refl _, fun _ h => h⟩
        · rw [fr_step xs (by omega) (by omega)]
          match k, hk with
          | 0, hk => omega
          | k + 1, hk =>
            have ih := fr_bound k (xs.drop (2 + len2 xs)) (by rw [List.length_drop]; omega)
            have hl : (xs.drop (2 + len2 xs)).length = xs.length - (2 + len2 xs) := List.length_drop
            refine ⟨?_, ?_, fun x h => List.mem_of_mem_drop (ih.2.2 x h)⟩
            · simp only [List.length_cons]; omega
            · show (fr (xs.drop (2 + len2 xs))).2.1.length ≤ xs.length; omega
/-- A Feed of a reader that is held, failed or not. -/
theorem feed_held {F : Nat → Prop} {g : Nat} {X ys : List Int} {ps : List Int} {W w1 : World} {v' v6 pv : Value} (h : Held F g (fr X).1 (fr X).2.1 (if (fr X).2.2 then 12 else 0) ps W w1 v' v6 pv) (hX : X.length ≤ 30000) (A2 : Option Addr) (n2 c2 : Nat) (hy : ys.length = n2) (hC : (Kd.int .u8).C w1 A2 n2 ys) (hc2 : n2 ≤ c2) (hl : n2 ≤ 30000) (hbX : Bs X) (hby : Bs ys) :
    Calls Try.prog 27 #[.pointer (some ⟨g, 0, none⟩), .slice A2 n2 c2] w1 fun e w2 => ∃ v'' vo fs f', e = .returned (.tuple #[vo, .int .i64 f']) ∧ f' = (if (fr (X ++ ys)).2.2 then 12 else 0) ∧
      Held (fun k => F k ∨ w1.heap.size ≤ k) g (fr X).1 (fr (X ++ ys)).2.1 f' ps W w2 v'' v6 pv ∧ kF.R 36 w2 W.heap.size (fun k => w1.heap.size ≤ k ∧ k < w2.heap.size ∧ some k ≠ v''.ownBlock) vo fs ∧ (fr X).1 ++ fs = (fr (X ++ ys)).1 ∧ fs.length ≤ 60000 ∧ Fr F w1 w2 := by
  subst hy
  have ha := fr_app X.length X ys (Nat.le_refl _)
  have hfb := fr_bound _ X (Nat.le_refl _)
  have hrest : (fr X).2.1.length ≤ X.length ∧ Bs (fr X).2.1 := ⟨hfb.2.1, fun x hx => hbX x (hfb.2.2 x hx)⟩
  cases hlg : (fr X).2.2
  · rw [hlg] at h ha
    refine (feed_calls g v' (fr X).2.1 ys A2 c2 w1 h.fd hC hc2 (by omega) ?_ ((fr X).2.1 ++ ys) rfl).mono ?_
    · intro x hx
      exact (List.mem_append.1 hx).elim (hrest.2 x) (hby x)
    · intro e w2 hp
      obtain ⟨v'', vo, f', he, hf, hH, hR, hFr⟩ := h.feed hp
      refine ⟨v'', vo, _, f', he, by rw [ha]; exact hf, by rw [ha]; exact hH, hR, by rw [ha]; rfl, ?_, hFr⟩
      have h3 := (fr_bound _ ((fr X).2.1 ++ ys) (Nat.le_refl _)).1
      rw [List.length_append] at h3
      omega
  · rw [hlg] at h ha
    refine (feed_failed g v' _ _ w1 h.fd).mono ?_
    rintro e w2 ⟨rfl, hB⟩
    have e1 : fr (X ++ ys) = fr X := ha
    refine ⟨v', _, [], 12, rfl, by rw [e1, hlg]; rfl, ?_, Kd.R_nil _ _ _ _ _, by rw [e1, List.append_nil], by simp, Fr.of_new hB⟩
    rw [e1]
    exact (h.grow hB).mono (fun k hk _ => .inl hk) (fun k hk => hk.elim (h.hF k) (fun e => Nat.le_trans h.below.size e))
theorem sl_mid (w : World) (a : Option Addr) (m c p n : Nat) (h : (p : Int) + (n : Int) ≤ (c : Int)) :
    (Instr.slice 36 (.slice a m c) (some (.int .i64 (p : Int))) (some (.int .i64 ((p : Int) + (n : Int)))) none).run Try.prog w = .ok (.slice (subA a p c) n (c - p)) w := by
  rw [run_slice_lh w 36 a m c unByte .i64 .i64 (p : Int) ((p : Int) + (n : Int)) (by omega) (by omega) h, szByte]
  have e : ((p : Int) + (n : Int)).toNat = p + n := by omega
  have e2 : (p : Int).toNat = p := by omega
  have e3 : p + n - p = n := by omega
  simp only [Result.andThen, sliced, subA, e, e2, e3, Nat.mul_one]
theorem sl_head (w : World) (a : Option Addr) (m c p n : Nat) (h : (p : Int) + (n : Int) ≤ (c : Int)) :
    (Instr.slice 36 (.slice a m c) none (some (.int .i64 ((p : Int) + (n : Int)))) none).run Try.prog w = .ok (.slice (subA a 0 c) (p + n) c) w := by
  rw [run_slice_h w 36 a m c unByte .i64 ((p : Int) + (n : Int)) (by omega) h, szByte]
  have e : ((p : Int) + (n : Int)).toNat = p + n := by omega
  simp only [Result.andThen, sliced, subA, e, Nat.mul_one, Nat.sub_zero]
def minI (x y : Int) : Int := if y < x then y else x
theorem minE (w : World) (ts : Array TypeId) (t : TypeId) (x y : Int) : (Builtin.min_ ts t #[.int .i64 x, .int .i64 y]).run Try.prog w = .ok (.int .i64 (minI x y)) w := run_min_int2 (P := Try.prog) (w := w) ts t .i64 .i64 x y
attribute [local go_sem high] sl_mid sl_head minE
theorem info16 : (Try.prog.info? 42).map (fun i => (i.zero, i.size, i.bytes)) = some (some (.int .u16 0), 1, 2) := by kernel_rfl
/-- A new row of no elements. -/
theorem R_empty {κ : IntKind} {t : TypeId} (w : World) (q b : Nat) (hq : q = w.heap.size) (hb : b ≤ q) : (Kd.int κ).R t (w.alloc (.cells #[] t)) b (fun k => q ≤ k) (.slice (some ⟨q, 0, none⟩) 0 0) [] := by
  subst hq
  exact ⟨fun k hk => by cases hk; exact Nat.le_refl _, [], ⟨rfl, .inr ⟨w.heap.size, 0, #[], rfl, hb, heap_alloc_new w _, Nat.le_refl _, by unfold maxLen; omega, rfl, rfl⟩⟩, Reps.none _ _⟩
theorem two_C (w : World) (q : Nat) (hq : q = w.heap.size) : (Kd.int .u16).C (w.alloc (.cells #[.int .u16 65535, .int .u16 0] 42)) (some ⟨q, 0, none⟩) 2 [65535, 0] := by
  subst hq
  refine ⟨rfl, by omega, fun _ => ⟨_, rfl, fun j p hj => ⟨[.int .u16 p], rfl, rfl, fun i u hi => ?_⟩⟩⟩
  have hi0 : i = 0 := by
    have := (List.getElem?_eq_some_iff.1 hi).1
    simpa using this
  subst hi0
  cases hi
  rw [add_plain, blk_cell (blk_new w _)]
  have hj5 : j < 2 := (List.getElem?_eq_some_iff.1 hj).1
  match j, hj5 with
  | 0, _ => cases hj; rfl
  | 1, _ => cases hj; rfl
theorem alloc_sz (w : World) (o : Obj) : (w.alloc o).heap.size = w.heap.size + 1 := by simp
def FeedsRel (x0 ps : List Int) (W : World) (g : Nat) (pv v6 v7 i : Value) (wr : World) : Prop :=
  ∃ (j a : Nat) (v' : Value), j ≤ ps.length ∧ i = .int .i64 j ∧ a ≤ x0.length ∧ v7 = .int .i64 a ∧
    Held (fun k => W.heap.size ≤ k) g (fr (x0.take a)).1 (fr (x0.take a)).2.1 (if (fr (x0.take a)).2.2 then 12 else 0) ps W wr v' v6 pv
set_option maxHeartbeats 600000 in
set_option maxRecDepth 100000 in
theorem feeds_main (A0 : Option Addr) (c0 : Nat) (x0 : List Int) (A1 : Option Addr) (c1 : Nat) (x1 : List Int) (W : World) (l0 : x0.length ≤ c0) (C0 : (Kd.int .u8).C W A0 x0.length x0) (hb0 : Bs x0) (h0 : x0.length ≤ 30000) (C1 : (Kd.int .u16).C W A1 x1.length x1) (h1 : x1.length ≤ 100) (hb1 : ∀ x ∈ x1, 0 ≤ x ∧ x ≤ 65535) :
    Calls Try.prog 5 #[.slice A0 x0.length c0, .slice A1 x1.length c1] W fun e W' => e = .returned (.bool true) ∧ Below W.heap.size W W' := by
  have HC0 := Lib.hid C0
  have HC1 := Lib.hid C1
  have HB0 := Lib.hid hb0
  have HB1 := Lib.hid hb1
  have t0 : ¬ (30000 : Int) < (x0.length : Int) := by omega
  have t1 : ¬ (100 : Int) < (x1.length : Int) := by omega
  clear C0 C1 hb0 hb1
  go_enter Try.func5, Try.ntmps5
  go_wp2_with (first
    | (at_builtin; go_loud (refine Kd.R_append_rows (Kd.int .u16) (Rr := (Kd.int .u16).K _) (w0 := W) W.heap.size rfl (.tmp 33) (.tmp 34) 37 42 (.int .u16 0) 2 rfl Try.underlying37 info16 rfl (by decide) (by decide) _ x1 [65535, 0] _ 2 2 (fun k => w1.heap.size + 1 ≤ k) (fun k => False) rfl rfl (Kd.R_below HR2.out (below_alloc (Below.refl _ _) _)) (two_C _ _ rfl) (fun _ _ h => h) (fun _ h => h.elim) (fun k hk => by have h3 := Nat.le_trans (Nat.le_of_eq (alloc_sz w2 _).symm) hk; omega) (below_alloc HB2.out _) (by have := HB2.out.size; simp; omega) (by omega) ?_; intro v3 w3 hR3 hB3 hg3 _; have hsz3 : w2.heap.size + 1 ≤ w3.heap.size := Nat.le_trans (Nat.le_of_eq (alloc_sz w2 _).symm) hg3.size; obtain ⟨ps, hpe⟩ : ∃ ps, x1 ++ [65535, 0] = ps := ⟨_, rfl⟩; rw [hpe] at hR3; have hpl : ps.length ≤ 102 := (by rw [← hpe, List.length_append]; show x1.length + 2 ≤ 102; omega); obtain ⟨A3, c3, rfl, hl3, hc3⟩ := Kd.R_reads hR3; have HPE := Lib.hid hpe; have HR3 := Lib.hid hR3; clear hpe hc3; have HB3 := Lib.hid hB3; have HG3 := Lib.hid hg3; clear hR3 hB3 hg3))
    | (at_builtin; go_loud (refine Kd.R_append_rows (Kd.int .u16) (Rr := (Kd.int .u16).K _) (w0 := W) W.heap.size rfl (.tmp 31) (.tmp 32) 37 42 (.int .u16 0) 2 rfl Try.underlying37 info16 rfl (by decide) (by decide) _ [] x1 A1 x1.length c1 (fun k => w1.heap.size + 1 ≤ k) (fun k => False) rfl rfl (R_empty (w1.alloc (.cells #[.slice none 0 0, .int .i64 0] 40)) (w1.heap.size + 1) W.heap.size (by simp) (by have := HBL.out.size; omega)) (Kd.C_below HC1.out (below_alloc (below_alloc HBL.out _) _)) (fun _ _ h => h) (fun _ h => h.elim) (fun k hk => by simp at hk; omega) (below_alloc (below_alloc HBL.out _) _) (by have := HBL.out.size; simp; omega) (by simp; omega) ?_; intro v2 w2 hR2 hB2 hg2 _; have HR2 := Lib.hid hR2; have HB2 := Lib.hid hB2; have hsz2 : w1.heap.size + 1 + 1 ≤ w2.heap.size := Nat.le_trans (Nat.le_of_eq (by simp)) hg2.size; have HG2 := Lib.hid hg2; clear hR2 hB2 hg2))
    | (go_at_call 26; go_loud (refine (lives_calls _).mono ?_; rintro e w1 ⟨rfl, hB1⟩; have HBL := Lib.hid hB1; clear hB1)))
  have hgl : w1.heap.size < w3.heap.size := by omega
  have HH : Hid (Held (fun k => W.heap.size ≤ k) w1.heap.size (fr (x0.take 0)).1 (fr (x0.take 0)).2.1 (if (fr (x0.take 0)).2.2 then 12 else 0) ps W w3 (.slice none 0 0) (.slice none 0 0) (.slice A3 ps.length c3)) := by
    have b1 : ((w1.alloc (.cells #[.slice none 0 0, .int .i64 0] 40)).alloc (.cells #[] 42)).heap[w1.heap.size]? = _ := blk_alloc (blk_new w1 _) _
    have b2 := (HG2.out.block _ (blk_lt b1) (fun e => by injection e with e; simp at e)).trans b1
    have b3 := (HG3.out.block _ (blk_lt (blk_alloc b2 _)) (fun e => by have := HR2.out.1 _ e.symm; omega)).trans (blk_alloc b2 _)
    exact Lib.hid ⟨⟨b3, ⟨rfl, .inl ⟨rfl, rfl⟩⟩, (fun k hk => by cases hk)⟩, HBL.out.size, (fun k hk => by cases hk), Kd.R_nil _ _ _ _ _, Kd.R_mono HR3.out (fun k hk => ⟨by have := HBL.out.size; omega, by omega, (fun e => by cases e)⟩), HB3.out, fun _ h => h⟩
  have HPS := Lib.hid (show ∀ x ∈ ps, 0 ≤ x ∧ x ≤ 65535 by
    intro x hx
    rw [← HPE.out] at hx
    rcases List.mem_append.1 hx with h | h
    · exact HB1.out x h
    · simp at h; omega)
  clear HG2 HG3 HR2 HB2 HR3 HB3 HPE HB1 HC1 hsz2 hsz3
  generalize w1.heap.size = g at *
  go_loopw [6, 7, 37] (fun v6 v7 i wr => FeedsRel x0 ps W g (.slice A3 ps.length c3) v6 v7 i wr) (fun _ _ i _ => ps.length - (intOf i).toNat)
  case atStart => exact ⟨0, 0, _, by omega, rfl, by omega, rfl, HH.out⟩
  case round =>
    clear HH
    obtain ⟨j, a, v', hj, rfl, ha, rfl, hH⟩ := hrel
    have HH := Lib.hid hH
    clear hH
    by_cases hlt : j < ps.length
    · obtain ⟨x, hx⟩ : ∃ x, rd ps (j : Int) = x := ⟨_, rfl⟩
      obtain ⟨_, _, e, _, hCp⟩ := Kd.R_reads HH.out.ps
      cases e
      obtain ⟨ad, rfl, p0⟩ := Kd.at_int hCp (j : Int) (by omega) (by omega)
      rw [hx, Int.toNat_natCast] at p0
      have hxb : 0 ≤ x ∧ x ≤ 65535 := by
        have h := HPS.out ps[j] (List.getElem_mem hlt)
        have e : x = ps[j] := by rw [← hx]; simp [rd, List.getD, hlt]
        rw [e]; exact h
      obtain ⟨hx0, hx1⟩ := hxb
      obtain ⟨k, hk, hka⟩ : ∃ k : Nat, minI x ((x0.length : Int) - (a : Int)) = (k : Int) ∧ a + k ≤ x0.length := by
        unfold minI
        split
        · exact ⟨x0.length - a, by omega, by omega⟩
        · exact ⟨x.toNat, by omega, by omega⟩
      have hkc : (a : Int) + (k : Int) ≤ (c0 : Int) := by omega
      clear hCp hx
      have HT := Lib.hid HH.out.tight
      have hyl : ((x0.drop a).take k).length = k := by simp only [List.length_drop, List.length_take]; omega
      have HCY := Lib.hid (C_cut (Kd.C_below HC0.out HH.out.below) rfl hka l0 (by omega))
      have hXl : (x0.take a).length ≤ 30000 := by rw [List.length_take]; omega
      have hbX : Bs (x0.take a) := fun y hy => HB0.out y (List.mem_of_mem_take hy)
      have hbY : Bs ((x0.drop a).take k) := fun y hy => HB0.out y (List.mem_of_mem_drop (List.mem_of_mem_take hy))
      have HE := Lib.hid (show x0.take a ++ (x0.drop a).take k = x0.take (a + k) by rw [List.take_add])
      have HBX := Lib.hid hbX
      have HBY := Lib.hid hbY
      have HYL := Lib.hid hyl
      clear hbX hbY hyl HH
      have hk3 : k ≤ 30000 := by omega
      obtain ⟨D, hD⟩ : ∃ D, fr (x0.take (a + k)) = D := ⟨_, rfl⟩
      obtain ⟨L, R, b⟩ := D
      have HD := Lib.hid hD
      clear hD
      obtain ⟨wo, rfl⟩ : ∃ wo : World, wo = wr := ⟨_, rfl⟩
      cases b
      all_goals (
        go_wp2_with (first
          | (go_at_call 27; go_loud (refine (feed_held (X := x0.take a) (ys := (x0.drop a).take k) (HT.out.grow HBO.out) hXl A5 k c5 HYL.out HC5.out hk5 hk3 HBX.out HBY.out).mono ?_; rintro e w2 ⟨v'', vo, fs, f', rfl, hf', hH2, hR2, hfs, hfl, hF2⟩; rw [HE.out, HD.out] at hf' hH2 hfs; obtain rfl := hf'; obtain ⟨A6, c6, rfl, hc6, _⟩ := Kd.R_reads hR2; have HH2 := Lib.hid hH2; have HR2 := Lib.hid hR2; have HFS := Lib.hid hfs; have HF2 := Lib.hid hF2; clear hH2 hR2 hfs hF2))
          | (at_builtin; go_loud (refine Kd.R_append_rows (Kd.int .u8) (Rr := (Kd.int .u8).K _) (w0 := wo) wo.heap.size rfl (.tmp 48) (.tmp 54) 36 5 (.int .u8 0) 1 rfl Try.underlying36 infoByte rfl (by decide) (by decide) _ [] ((x0.drop a).take k) (subA A0 a c0) k (c0 - a) (fun k => wo.heap.size ≤ k) (fun k => False) rfl rfl (R_empty wo _ _ rfl (Nat.le_refl _)) (Kd.C_below HCY.out (below_alloc (Below.refl _ _) _)) (fun _ _ h => h) (fun _ h => h.elim) (fun q hq => by have := Nat.le_trans (Nat.le_of_eq (alloc_sz wo _).symm) hq; omega) (below_alloc (Below.refl _ _) _) (by simp) (by simp; omega) ?_; intro v5 w1 hR5 hB5 _ _; rw [List.nil_append] at hR5; have HR5 := Lib.hid hR5; obtain ⟨A5, c5, e5, hk5, hC5⟩ := Kd.R_reads hR5; rw [HYL.out] at e5 hk5 hC5; subst e5; have HC5 := Lib.hid hC5; have HBO := Lib.hid hB5; clear hR5 hB5 hC5)))
        have HO5 := Lib.hid (Cl.own_of_R HR5.out)
        have HQ := Lib.hid (show ∀ q, (Value.slice A5 k c5).ownBlock = some q → wo.heap.size ≤ q ∧ q < w1.heap.size from fun q hq => ⟨own_base HO5.out q hq, own_lt HO5.out q hq⟩)
        have HO6 := Lib.hid (own_move HO5.out (fun q hq => HF2.out.block q (HQ.out q hq).2 (fun h => by have := h.2; have := (HQ.out q hq).1; omega)))
        rw [HYL.out] at HO6
        clear HO5 HR5
        go_loopw [63] (fun i wi => ∃ m : Nat, m ≤ k ∧ i = .int .i64 m ∧ Fr (fun q => some q = (Value.slice A5 k c5).ownBlock) w2 wi ∧ ∃ ys', wi.ownsRow wo.heap.size 5 1 (.slice A5 k c5) k (nums .u8 ys')) (fun i _ => k - (intOf i).toNat)
        case atStart => exact ⟨0, by omega, rfl, Fr.refl _ _, _, HO6.out⟩
        case round =>
          obtain ⟨m, hm, rfl, hFi, ys', hOi⟩ := hrel
          have HFi := Lib.hid hFi
          have HOi := Lib.hid hOi
          clear hFi hOi
          by_cases hmk : m < k
          · obtain ⟨bd, y, rfl, y0, y1, hst⟩ := own_xor HOi.out hmk
            have HST := Lib.hid hst
            clear hst
            go_wp2
            go_roundw
            case rel =>
              obtain ⟨ys2, h1, h2⟩ := HST.out _
              exact ⟨m + 1, by omega, by simp, HFi.out.trans h2, ys2, h1⟩
            case measure => simp [intOf]; omega
          · have HH3 := Lib.hid (HH2.out.move (w2 := wr) (HH2.out.below.trans (HFi.out.below (fun q hq => Nat.le_trans HT.out.below.size (HQ.out q hq.symm).1) HH2.out.below.size)) (fun q hq hlt => HFi.out.block q hlt (fun e => by have h := HQ.out q e.symm; have h' := hq.imp (fun h => h.2) id; omega)))
            have HR3 := Lib.hid (Kd.R_step HR2.out (fun q hq hlt => HFi.out.block q hlt (fun e => by have h := (HQ.out q e.symm).2; have := hq.1; omega)))
            obtain ⟨_, _, e6, _, hRR⟩ := OwnRow.reads HR3.out.2
            cases e6
            have HRR := Lib.hid hRR
            clear hRR
            have hgl2 : g < wo.heap.size := HT.out.fg.2
            have hbl := (fr_bound _ (x0.take (a + k)) (Nat.le_refl _)).1
            have hbd := (fr_bound _ (x0.take a) (Nat.le_refl _)).1
            have htl : (x0.take (a + k)).length = a + k := by rw [List.length_take]; omega
            rw [HD.out] at hbl
            have hLl : L.length ≤ 30000 := by have h : L.length ≤ (x0.take (a + k)).length := hbl; omega
            have hdl : (fr (x0.take a)).1.length ≤ 30000 := by omega
            have hs3 : w1.heap.size ≤ w2.heap.size ∧ w2.heap.size ≤ wr.heap.size ∧ wo.heap.size ≤ w1.heap.size := ⟨HF2.out.size, HFi.out.size, HBO.out.size⟩
            have hbX' : Bs (x0.take (a + k)) := fun y hy => HB0.out y (List.mem_of_mem_take hy)
            have HBX' := Lib.hid hbX'
            have HTL := Lib.hid htl
            clear hbl hbd htl hbX'
            go_wp2_with (first
              | (go_at_call 30; go_loud (refine (left_calls g _ _ _ _ HH6.out.fd).mono ?_; rintro e w7 ⟨rfl, rfl⟩))
              | (go_at_call 29; go_loud (refine (same_calls A8 A9 c8 c9 L _ HC8.out HC9.out (by omega)).mono ?_; rintro e w6 ⟨rfl, hB6⟩; have HH6 := Lib.hid (HH5.out.grow hB6); clear hB6))
              | (go_at_call 28; go_loud (refine (all_C (subA A0 0 c0) c0 (a + k) (x0.take (a + k)) _ (C_cut (p := 0) (Kd.C_below HC0.out HH4.out.below) rfl (by omega) l0 (by omega)) HTL.out (by omega) (by have := HTL.out; omega) HBX'.out).mono ?_; rintro e w5 ⟨vo, he, hR9, hB9⟩; rw [HD.out] at he hR9; obtain ⟨A9, c9, e9, _, hC9⟩ := Kd.R_reads hR9; subst e9; subst he; have HC9 := Lib.hid (kB_C hC9 hB9); have HH5 := Lib.hid (HH4.out.grow hB9); have HC8 := Lib.hid (Kd.R_reads' HH5.out.got).2.2; clear hR9 hB9 hC9))
              | (at_builtin; go_loud (refine Kd.R_append_rows kF (w0 := W) W.heap.size rfl (.tmp 73) (.tmp 74) 41 36 (.slice none 0 0) 24 rfl Try.underlying41 infoRow rfl Nat.zero_lt_one (by decide) _ (fr (x0.take a)).1 fs A6 fs.length c6 (fun q => (((W.heap.size ≤ q ∧ q < wo.heap.size) ∨ w1.heap.size ≤ q) ∨ wr.heap.size ≤ q) ∧ q ≠ g ∧ some q ≠ v''.ownBlock ∧ some q ≠ (Value.slice (some ad) ps.length c3).ownBlock) (fun q => w1.heap.size ≤ q ∧ q < w2.heap.size ∧ some q ≠ v''.ownBlock) rfl rfl (Kd.R_mono HH3.out.got (fun q hq => ⟨.inl hq.1, hq.2⟩)) HRR.out (fun _ _ hq => kF.M_mono (fun q hq => hq.1) hq) (fun q hq => ⟨⟨.inl (.inr hq.1), by have := hq.1; omega, hq.2.2, fun e => by have h := (HT.out.ps.1 q e.symm).1.2; have := hq.1; omega⟩, fun e => by have h := (HT.out.got.1 q e.symm).1.2; have := hq.1; omega⟩) (fun q hq => ⟨.inr hq, by omega, fun e => by have h := own_lt HH3.out.fd.2.1 q e.symm; omega, fun e => by have h := (HT.out.ps.1 q e.symm).1.2; omega⟩) HH3.out.below HH3.out.below.size (by omega) ?_; intro v8 w4 hR8 hB8 hg8 _; have hH4 := HH3.out.more hR8 hB8 hg8; rw [HFS.out] at hH4; obtain ⟨A8, c8, e8, _, _⟩ := Kd.R_reads hH4.got; subst e8; have HH4 := Lib.hid hH4; clear hR8 hB8 hg8 hH4)))
            go_roundw
            case rel =>
              refine ⟨j + 1, a + k, v'', by omega, by simp, by omega, by simp, ?_⟩
              rw [HD.out]
              exact HH6.out.mono (fun q hq _ => HH6.out.hF q hq) (fun _ h => h)
            case measure => simp [intOf]; omega)
    · go_wp2
      go_ret
      exact ⟨rfl, HH.out.below⟩
end Go.Proofs.Ytcpcnnpdbognlaa.Frm
