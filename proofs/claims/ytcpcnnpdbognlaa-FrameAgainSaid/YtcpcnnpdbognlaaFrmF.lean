/- frame: a reader's Feed, as a contract. -/
import Derived.Test.YtcpcnnpdbognlaaFrm
namespace Go.Proofs.Ytcpcnnpdbognlaa.Frm
open Go.RowKit Go Go.Proofs.YtcpcnnpdbognlaaW.PrintWords Go.Proofs.YtcpcnnpdbognlaaW.PrintMore Go.Proofs.YtcpcnnpdbognlaaW.PrintLast Go.Proofs.Ytcpcnnpdbognlaa.Bts Go.Proofs.Ytcpcnnpdbognlaa.Fra
/-- How far a Feed has come: p bytes are behind, m are ahead, these frames are out. -/
structure FeedAt (g : Nat) (zs : List Int) (W1 : World) (p m : Nat) (Ac : Option Addr) (cc : Nat) (done : List (List Int)) (v6 : Value) (wr : World) : Prop where
  hp : p ≤ zs.length
  hm : zs.length - p = m
  gr : wr.heap[g]? = some (.cells #[.slice Ac m cc, .int .i64 0] 40 (0, 0))
  s : SlR wr 1 (.slice Ac m cc) m (nums .u8 (zs.drop p))
  hg : ∀ k, (Value.slice Ac m cc).ownBlock = some k → k < W1.heap.size ∧ ¬ k = g
  r : kF.R 36 wr W1.heap.size (fun _ => True) v6 done
  f : Fr (· = g) W1 wr
  e : fr zs = (done ++ (fr (zs.drop p)).1, (fr (zs.drop p)).2)
  l : done.length ≤ p
theorem FeedAt.drew {g : Nat} {zs : List Int} {W1 : World} {p m : Nat} {Ac : Option Addr} {cc : Nat} {done : List (List Int)} {v6 : Value} {wr : World} (h : FeedAt g zs W1 p m Ac cc done v6 wr) (n : Nat) : FeedAt g zs W1 p m Ac cc done v6 (wr.drewN n) := by
  have hb : Below wr.heap.size wr (wr.drewN n) := pw_below_drewN (Below.refl _ _) n
  exact ⟨h.hp, h.hm, blk_below h.gr hb, h.s.below hb, h.hg, Kd.R_below h.r hb, h.f.more hb, h.e, h.l⟩
def FeedRel (g : Nat) (zs : List Int) (W1 : World) (q : Nat) (v6 : Value) (wr : World) : Prop :=
  ∃ p Ac cc done, FeedAt g zs W1 p q Ac cc done v6 wr
/-- What a Feed leaves. -/
def FeedPost (g : Nat) (v : Value) (zs : List Int) (w : World) (e : Ending) (w' : World) : Prop :=
  ∃ v' vo f, e = .returned (.tuple #[vo, .int .i64 f]) ∧ f = (if (fr zs).2.2 then 12 else 0) ∧ Fd w' g v' (fr zs).2.1 f ∧ (∀ k, v'.ownBlock = some k → w.heap.size ≤ k) ∧
    kF.R 36 w' w.heap.size (fun k => some k ≠ v'.ownBlock) vo (fr zs).1 ∧ Fr (fun k => k = g ∨ some k = v.ownBlock) w w'
/-- The rest is cloned, and laid back. -/
theorem feed_done {g : Nat} {v v' v6 vc : Value} {zs rest : List Int} {out : List (List Int)} {b : Bool} {f : Int} {w W1 wr wc : World} (hg : g < w.heap.size) (h1 : Fr (fun k => k = g ∨ some k = v.ownBlock) w W1) (hF : Fr (· = g) W1 wr)
    (hgr : wr.heap[g]? = some (.cells #[vc, .int .i64 f] 40 (0, 0))) (hR : kF.R 36 wr W1.heap.size (fun _ => True) v6 out) (hc : (Kd.int .u8).R 5 wc wr.heap.size (fun _ => True) v' rest) (hB : Below wr.heap.size wr wc)
    (ho : fr zs = (out, rest, b)) (hf : f = if b then 12 else 0) : FeedPost g v zs w (.returned (.tuple #[v6, .int .i64 f])) (wc.setCell ⟨g, 0, none⟩ v') := by
  have s1 := h1.size
  have s2 := hF.size
  have s3 := hB.size
  have ho2 := Cl.own_of_R hc
  have hv' : ∀ k, v'.ownBlock = some k → wr.heap.size ≤ k := fun k hk => own_base ho2 k hk
  have hgc := blk_below hgr hB
  have hvg : ∀ k, v'.ownBlock = some k → ¬ k = g := fun k hk => by have := hv' k hk; omega
  refine ⟨v', v6, f, rfl, by rw [ho]; exact hf, ⟨(blk_set hgc 0 v').trans rfl, ?_, hvg⟩, fun k hk => by have := hv' k hk; omega, ?_, ?_⟩
  · rw [ho]
    exact own_weaken (own_move ho2 (fun k hk => Below.heap_setCell wc _ v' k (fun e => hvg k hk e))) (Nat.zero_le _)
  · rw [ho]
    have r1 := Kd.R_below (Kd.R_bound hR) hB
    have r2 := Kd.R_far r1 (p := ⟨g, 0, none⟩) (fun k hk e => by have h := hk.2.1; have e : k = g := e; omega) v'
    exact Kd.R_lower (Kd.R_mono r2 (fun k hk e => by have := hv' k e.symm; have := hk.2.2.1; omega)) (by omega)
  · exact ((h1.then_ hF (fun k hk => .inl (.inl hk))).more hB).put (.inl (.inl rfl)) v'
theorem FeedPost.drew {g : Nat} {v : Value} {zs : List Int} {w w' : World} {e : Ending} (h : FeedPost g v zs w e w') (n : Nat) : FeedPost g v zs w e (w'.drewN n) := by
  obtain ⟨v', vo, f, h1, h2, h3, h4, h5, h6⟩ := h
  have hb : Below w'.heap.size w' (w'.drewN n) := pw_below_drewN (Below.refl _ _) n
  exact ⟨v', vo, f, h1, h2, h3.below hb, h4, Kd.R_below h5 hb, h6.more hb⟩
def subA (a : Option Addr) (l c : Nat) : Option Addr := if c = l then a else a.map (·.add l)
theorem unByte : Try.prog.underlying 36 = some (.slice (Try.prog.elem 36)) := by kernel_rfl
theorem szByte (w : World) : (sizeOf (Try.prog.elem 36)).run Try.prog w = .ok 1 w := by kernel_rfl
theorem sl_frame (w : World) (a : Option Addr) (m c n : Nat) (h : 2 + (n : Int) ≤ (c : Int)) :
    (Instr.slice 36 (.slice a m c) (some (.int .i64 2)) (some (.int .i64 (2 + (n : Int)))) none).run Try.prog w = .ok (.slice (subA a 2 c) n (c - 2)) w := by
  rw [run_slice_lh w 36 a m c unByte .i64 .i64 2 (2 + (n : Int)) (by omega) (by omega) h, szByte]
  have e : (2 + (n : Int)).toNat = 2 + n := by omega
  have e2 : (2 : Int).toNat = 2 := rfl
  have e3 : 2 + n - 2 = n := by omega
  simp only [Result.andThen, sliced, subA, e, e2, e3, Nat.mul_one]
theorem sl_rest (w : World) (a : Option Addr) (m c n : Nat) (h : 2 + (n : Int) ≤ (m : Int)) :
    (Instr.slice 36 (.slice a m c) (some (.int .i64 (2 + (n : Int)))) none none).run Try.prog w = .ok (.slice (subA a (2 + n) c) (m - (2 + n)) (c - (2 + n))) w := by
  rw [run_slice_l w 36 a m c unByte .i64 (2 + (n : Int)) (by omega) h, szByte]
  have e : (2 + (n : Int)).toNat = 2 + n := by omega
  simp only [Result.andThen, sliced, subA, e, Nat.mul_one]
attribute [local go_sem high] sl_frame sl_rest
theorem sl_sub {w : World} {a : Option Addr} {m c l : Nat} {ys : List Int} (h : SlR w 1 (.slice a m c) m (nums .u8 ys)) (hl : l ≤ m) : SlR w 1 (.slice (subA a l c) (m - l) (c - l)) (m - l) (nums .u8 (ys.drop l)) := by
  have h1 := h.drop_ l hl
  rw [Nat.mul_one, ← nums_drop] at h1
  exact h1
theorem sl_cut {w : World} {a : Option Addr} {m c n : Nat} {ys : List Int} (h : SlR w 1 (.slice a m c) m (nums .u8 ys)) (hl : n ≤ m) : SlR w 1 (.slice a n c) n (nums .u8 (ys.take n)) := by
  have h1 := h.take_ n hl
  rw [Nat.mul_one, ← nums_take] at h1
  exact h1
theorem subA_own {a : Option Addr} {l c n m k p q : Nat} (h : (Value.slice (subA a l c) n m).ownBlock = some k) : (Value.slice a q p).ownBlock = some k := by
  unfold subA at h
  split at h
  · cases a with
    | none => cases h
    | some ad => exact h
  · cases a with
    | none => cases h
    | some ad =>
      have hb : (ad.add l).block = ad.block := by unfold Addr.add; split <;> rfl
      cases h
      rw [hb]; rfl
/-- An element row is laid behind the others. -/
theorem row_M {w2 : World} {v : Value} {B1 B : Nat} {ys : List Int} (h : (Kd.int .u8).R 5 w2 B (fun _ => True) v ys) (hb : B1 ≤ B) : kF.M w2 B1 (fun k => B ≤ k) ys [v] :=
  ⟨v, rfl, Kd.R_lower (Kd.R_mono (Kd.R_bound h) (fun _ hk => hk.2.1)) hb⟩
theorem row_own {w : World} {b B : Nat} {v6 : Value} {ok : Nat → Prop} {done : List (List Int)} (h : kF.R 36 w b ok v6 done) (hB : w.heap.size ≤ B) (k : Nat) (hk : B ≤ k) : some k ≠ v6.ownBlock := by
  obtain ⟨_, _, ho, _⟩ := h
  intro e
  have := own_lt ho k e.symm
  omega
theorem FeedAt.next {g : Nat} {zs : List Int} {W1 : World} {p m n : Nat} {Ac : Option Addr} {cc : Nat} {done : List (List Int)} {v6 v6' : Value} {wd w4 : World} (h : FeedAt g zs W1 p m Ac cc done v6 wd) (hB : Below W1.heap.size wd w4) (hgW : g < W1.heap.size)
    (hn : len2 (zs.drop p) = n) (hl : n ≤ 9000) (hw : 2 + n ≤ m) (hR : kF.R 36 w4 W1.heap.size (fun _ => True) v6' (done ++ [((zs.drop p).drop 2).take n])) :
    FeedAt g zs W1 (p + (2 + n)) (m - (2 + n)) (subA Ac (2 + n) cc) (cc - (2 + n)) (done ++ [((zs.drop p).drop 2).take n]) v6' (w4.setCell ⟨g, 0, none⟩ (.slice (subA Ac (2 + n) cc) (m - (2 + n)) (cc - (2 + n)))) := by
  have hm := h.hm
  have hp := h.hp
  have hl' := h.l
  have hF4 : Fr (fun k => W1.heap.size ≤ k) wd w4 := Fr.of_below hB (fun k hk => .inl hk)
  have s4 : SlR w4 1 (.slice Ac m cc) m (nums .u8 (zs.drop p)) := hF4.slr h.s (fun k hk => by have := (h.hg k hk).1; omega)
  have hg' : ∀ k, (Value.slice (subA Ac (2 + n) cc) (m - (2 + n)) (cc - (2 + n))).ownBlock = some k → k < W1.heap.size ∧ ¬ k = g := fun k hk => h.hg k (subA_own hk)
  have s5 := sl_sub s4 hw
  rw [List.drop_drop] at s5
  refine ⟨by omega, by omega, (blk_set ((hB.block g hgW).trans h.gr) 0 _).trans rfl, ?_, hg', ?_, ?_, ?_, ?_⟩
  · exact SlR.kept s5 (Fr.set g 0 _).kept (fun k hk => (hg' k hk).2)
  · exact Kd.R_mono (Kd.R_far (Kd.R_bound hR) (fun k hk e => by have h := hk.2.1; have e : k = g := e; omega) _) (fun _ _ => trivial)
  · exact (h.f.then_ hF4 (fun k hk => .inr hk)).put (.inl rfl) _
  · rw [h.e, fr_step (zs.drop p) (by rw [hn]; exact hl) (by rw [hn, List.length_drop]; omega), hn, List.drop_drop]
    simp
  · simp; omega
theorem clone_sl (ys : List Int) (A : Option Addr) (c n : Nat) (w : World) (h : SlR w 1 (.slice A n c) n (nums .u8 ys)) (hn : ys.length = n) (hl : n ≤ 140737488355328) :
    Calls Try.prog 65 #[.slice A n c] w fun e w' => ∃ A3 c3, e = .returned (.slice A3 n c3) ∧ (Kd.int .u8).R 5 w' w.heap.size (fun _ => True) (.slice A3 n c3) ys ∧ Below w.heap.size w w' := by
  subst hn
  obtain ⟨A', c', e, hc, hnn, hC⟩ := h.C (by omega)
  cases e
  refine (Cl.clone_bytes A c ys w hC hl fun hA => ?_).mono ?_
  · have h0 := hnn hA
    subst h0
    exact ⟨List.eq_nil_of_length_eq_zero (by omega), rfl⟩
  · rintro e w' ⟨v, rfl, hR, hB⟩
    obtain ⟨A3, c3, rfl⟩ := own_slice (Cl.own_of_R hR)
    exact ⟨A3, c3, rfl, hR, hB⟩
set_option maxHeartbeats 4000000 in
set_option maxRecDepth 100000 in
theorem feed_calls (g : Nat) (v : Value) (xs ys : List Int) (A2 : Option Addr) (c2 : Nat) (w : World) (h : Fd w g v xs 0) (hC : (Kd.int .u8).C w A2 ys.length ys) (hc2 : ys.length ≤ c2) (hl : xs.length + ys.length ≤ 1099511627776) (hbs : Bs (xs ++ ys)) (zs : List Int) (hzs : xs ++ ys = zs) :
    Calls Try.prog 27 #[.pointer (some ⟨g, 0, none⟩), .slice A2 ys.length c2] w (FeedPost g v zs w) := by
  obtain ⟨hg, hown, hvg⟩ := h
  obtain ⟨A, c, rfl⟩ := own_slice hown
  have hgl := blk_lt hg
  have k0 : w.cell? ⟨g, 0, none⟩ = some (.slice A xs.length c) := blk_cell hg 0
  have k1 : w.cell? ⟨g, 1, none⟩ = some (.int .i64 0) := blk_cell hg 1
  have HG := Lib.hid hg
  have HO := Lib.hid hown
  have HVG := Lib.hid hvg
  have HC := Lib.hid (readsInt_of.2 (Kd.reads_of_C (enc := Value.int .u8) (d := (0 : Int)) (h1 := fun _ => rfl) hC))
  have HBS := Lib.hid hbs
  have HZS := Lib.hid hzs
  clear hg hown hvg hC hbs hzs
  go_enter Try.func27, Try.ntmps27
  go_wp2_with (first
    | (at_builtin; go_loud (refine print_append_row (w0 := w) 0 rfl (.tmp 23) (.tmp 24) 36 5 .u8 1 rfl Try.underlying36 infoByte (by decide) _ xs ys A2 ys.length c2 rfl rfl HO.out HC.out (Below.refl _ _) (by omega) (by omega) ?_; intro v1 w1 hown1 _ hgr hat; have hg1 : w1.heap[g]? = _ := (hgr.block g hgl (fun e => HVG.out g e.symm rfl)).trans HG.out; have f0 := blk_frozen hg1 0; have kk0 := blk_cell hg1 0; rw [HZS.out] at hown1; obtain ⟨A1, c1, rfl⟩ := own_slice hown1; have HG1 := Lib.hid hg1; have HO1 := Lib.hid hown1; have HGR := Lib.hid hgr; have HAT := Lib.hid hat; clear hg1 hown1 hgr hat)))
  have HGW := Lib.hid ((blk_set HG1.out 0 (.slice A1 zs.length c1)).trans rfl : (w1.setCell ⟨g, 0, none⟩ (.slice A1 zs.length c1)).heap[g]? = some (.cells #[.slice A1 zs.length c1, .int .i64 0] 40 (0, 0)))
  have hne1 : ∀ k, (Value.slice A1 zs.length c1).ownBlock = some k → k < (w1.setCell ⟨g, 0, none⟩ (.slice A1 zs.length c1)).heap.size ∧ ¬ k = g := by
    intro k hk
    refine ⟨by have := own_lt HO1.out k hk; simpa [World.setCell] using this, fun e => ?_⟩
    subst e
    rcases HAT.out with h | ⟨b, h, hb⟩
    · rw [hk] at h; exact HVG.out _ h.symm rfl
    · rw [hk] at h; cases h; omega
  have HNE := Lib.hid hne1
  have HSW := Lib.hid (SlR.kept (SlR.of_own HO1.out) (Fr.set g 0 (.slice A1 zs.length c1)).kept (fun k hk => (hne1 k hk).2))
  have HFW := Lib.hid (show Fr (fun k => k = g ∨ some k = (Value.slice A xs.length c).ownBlock) w (w1.setCell ⟨g, 0, none⟩ (.slice A1 zs.length c1)) from
    (show Fr (fun k => k = g ∨ some k = (Value.slice A xs.length c).ownBlock) w w1 from ⟨HGR.out.os, HGR.out.tape, HGR.out.output, HGR.out.size, fun k hk hn => HGR.out.block k hk (fun e => hn (.inr e))⟩).trans (Fr.setCell (.inl (.inl rfl)) _))
  have hzl : zs.length ≤ 1099511627776 := by rw [← HZS.out, List.length_append]; exact hl
  have hbz : Bs zs := by rw [← HZS.out]; exact HBS.out
  have HBZ := Lib.hid hbz
  clear hne1 hbz HG1 HO1 HGR HAT f0 kk0 k0 k1 HC HO
  generalize w1.setCell ⟨g, 0, none⟩ (.slice A1 zs.length c1) = W1 at *
  have hgW : g < W1.heap.size := blk_lt HGW.out
  go_loopg [6] zs.length (fun q v6 wr => FeedRel g zs W1 q v6 wr)
  case atStart =>
    exact ⟨0, A1, c1, [], ⟨by omega, by omega, HGW.out, HSW.out, HNE.out, Kd.R_nil _ _ _ _ _, Fr.refl _ _, rfl, by simp⟩⟩
  case round =>
    obtain ⟨p, Ac, cc, done, hA⟩ := hrel
    obtain ⟨m, hm⟩ : ∃ m, zs.length - p = m := ⟨_, rfl⟩
    have e := hA.hm
    rw [hm] at e
    subst e
    clear hm
    have HA := Lib.hid hA
    have hml : m ≤ 1099511627776 := by have h1 := hA.hm; omega
    clear hA
    have r0 := blk_cell HA.out.gr 0; have r1 := blk_cell HA.out.gr 1; have fr0 := blk_frozen HA.out.gr 0; have fr1 := blk_frozen HA.out.gr 1
    by_cases h2 : m < 2
    · have g1 : ¬ (2 : Int) ≤ (m : Int) := by omega
      go_wp2_with (go_at_call 65; go_loud (refine (clone_sl (zs.drop p) _ _ _ _ HA.out.s (by have hm := HA.out.hm; simp only [List.length_drop, List.length_take, List.length_nil] <;> omega) (by omega)).mono ?_; rintro e w2 ⟨A3, c3, rfl, hR2, hB2⟩; have hg2 := blk_below HA.out.gr hB2; have k20 := blk_cell hg2 0; have k21 := blk_cell hg2 1; have f20 := blk_frozen hg2 0; have f21 := blk_frozen hg2 1; have HR2 := Lib.hid hR2; have HB2 := Lib.hid hB2; clear hR2 hB2 hg2))
      go_loud (go_quiet (fail); go_wp2; go_ret2; exact (feed_done (b := false) hgl HFW.out HA.out.f HA.out.gr HA.out.r HR2.out HB2.out (by rw [HA.out.e, fr_short _ (by have hm := HA.out.hm; rw [List.length_drop]; omega)]; simp) (by simp)).drew _)
    · have g1 : (2 : Int) ≤ (m : Int) := by omega
      obtain ⟨x0, hx0⟩ : ∃ x, (zs.drop p).getD 0 0 = x := ⟨_, rfl⟩
      obtain ⟨x1, hx1⟩ : ∃ x, (zs.drop p).getD 1 0 = x := ⟨_, rfl⟩
      have hbp : ∀ i, 0 ≤ (zs.drop p).getD i 0 ∧ (zs.drop p).getD i 0 ≤ 255 := fun i => by
        rcases Nat.lt_or_ge i (zs.drop p).length with hi | hi
        · have h := HBZ.out _ (List.mem_of_mem_drop (List.getElem_mem hi))
          rw [List.getD_eq_getElem?_getD, List.getElem?_eq_getElem hi]; exact h
        · simp [List.getD, List.getElem?_eq_none hi]
      have hdl : (zs.drop p).length = m := by rw [List.length_drop]; exact HA.out.hm
      obtain ⟨ad, _, he, _, ha0⟩ := HA.out.s.at_ 0 (by omega)
      cases he
      obtain ⟨_, _, he, _, ha1⟩ := HA.out.s.at_ 1 (by omega)
      cases he
      have m0 : wr.cell? ad = some (.int .u8 x0) := by rw [← hx0, ← ha0 _ (nums_get .u8 (zs.drop p) 0 (by omega)), Addr.add_zero']
      have m1 : wr.cell? ⟨ad.block, ad.off + 1, none⟩ = some (.int .u8 x1) := by have h := ha1 _ (nums_get .u8 (zs.drop p) 1 (by omega)); rw [hx1] at h; have e := add_field ad 0 1 (by omega); rw [Addr.add_zero'] at e; rw [Nat.zero_add] at e; rw [e] at h; exact h
      have b0 := hbp 0
      have b1 := hbp 1
      rw [hx0] at b0
      rw [hx1] at b1
      have e3 := or_len x0 x1 b0.1 b0.2 b1.1 b1.2
      obtain ⟨n, hn⟩ : ∃ n, len2 (zs.drop p) = n := ⟨_, rfl⟩
      have hnx : x0 + 256 * x1 = (n : Int) := by unfold len2 at hn; rw [hx0, hx1] at hn; omega
      rw [hnx] at e3
      have hn2 : n ≤ 65535 := by omega
      have hm0 : 0 < m := by omega
      have hm1 : 1 < m := by omega
      obtain ⟨b00, b01⟩ := b0
      obtain ⟨b10, b11⟩ := b1
      have HN := Lib.hid hn
      have HNX := Lib.hid hnx
      clear ha0 ha1 hbp hn hnx hx0 hx1
      go_wp2
      go_quiet (fail)
      generalize hwd : World.drewN wr _ = wd
      have hA' : FeedAt g zs W1 p m (some ad) cc done _ wd := hwd ▸ HA.out.drew _
      clear HA r0 r1 fr0 fr1 m0 m1 hwd
      have HA := Lib.hid hA'
      clear hA'
      have r0 := blk_cell HA.out.gr 0; have r1 := blk_cell HA.out.gr 1; have fr0 := blk_frozen HA.out.gr 0; have fr1 := blk_frozen HA.out.gr 1
      by_cases h9 : 9000 < n
      · have h9i : (9000 : Int) < (n : Int) := by omega
        have HG3 := Lib.hid (((blk_set (((blk_set HA.out.gr 0 (.slice none 0 0)).trans rfl : (wd.setCell ⟨g, 0, none⟩ (.slice none 0 0)).heap[g]? = some (.cells #[.slice none 0 0, .int .i64 0] 40 (0, 0)))) 1 (.int .i64 12)).trans rfl : ((wd.setCell ⟨g, 0, none⟩ (.slice none 0 0)).setCell ⟨g, 1, none⟩ (.int .i64 12)).heap[g]? = some (.cells #[.slice none 0 0, .int .i64 12] 40 (0, 0))))
        go_wp2_with (go_at_call 65; go_loud (refine (clone_sl [] _ _ _ _ (SlR.nil _ _) (by have hm := HA.out.hm; simp only [List.length_drop, List.length_take, List.length_nil] <;> omega) (by omega)).mono ?_; rintro e w2 ⟨A3, c3, rfl, hR2, hB2⟩; have hg2 := blk_below HG3.out hB2; have k20 := blk_cell hg2 0; have k21 := blk_cell hg2 1; have f20 := blk_frozen hg2 0; have f21 := blk_frozen hg2 1; have HR2 := Lib.hid hR2; have HB2 := Lib.hid hB2; clear hR2 hB2 hg2))
        go_loud (go_quiet (fail); go_wp2; go_ret2; exact (feed_done (b := true) hgl HFW.out ((HA.out.f.put (.inl rfl) _).put (.inl rfl) _) HG3.out (Kd.R_mono (Kd.R_far (Kd.R_far (Kd.R_bound HA.out.r) (fun k hk e => by have h := hk.2.1; have e : k = g := e; omega) _) (fun k hk e => by have h := hk.2.1; have e : k = g := e; omega) _) (fun _ _ => trivial)) HR2.out HB2.out (by rw [HA.out.e, fr_long _ (by have hm := HA.out.hm; rw [List.length_drop]; omega) (by rw [HN.out]; omega)]; simp) (by simp)).drew _)
      · have h9i : (n : Int) ≤ 9000 := by omega
        by_cases hw : m < 2 + n
        · have hwi : (m : Int) < 2 + (n : Int) := by omega
          go_wp2_with (go_at_call 65; go_loud (refine (clone_sl (zs.drop p) _ _ _ _ HA.out.s (by have hm := HA.out.hm; simp only [List.length_drop, List.length_take, List.length_nil] <;> omega) (by omega)).mono ?_; rintro e w2 ⟨A3, c3, rfl, hR2, hB2⟩; have hg2 := blk_below HA.out.gr hB2; have k20 := blk_cell hg2 0; have k21 := blk_cell hg2 1; have f20 := blk_frozen hg2 0; have f21 := blk_frozen hg2 1; have HR2 := Lib.hid hR2; have HB2 := Lib.hid hB2; clear hR2 hB2 hg2))
          go_loud (go_quiet (fail); go_wp2; go_ret2; exact (feed_done (b := false) hgl HFW.out HA.out.f HA.out.gr HA.out.r HR2.out HB2.out (by rw [HA.out.e, fr_wait _ (by have hm := HA.out.hm; rw [List.length_drop]; omega) (by rw [HN.out]; omega) (by have hm := HA.out.hm; rw [HN.out, List.length_drop]; omega)]; simp) (by simp)).drew _)
        · have hwi : 2 + (n : Int) ≤ (m : Int) := by omega
          have hwc : 2 + (n : Int) ≤ (cc : Int) := by omega
          have hgl3 : g < wd.heap.size := blk_lt HA.out.gr
          go_wp2_with (first
            | (at_builtin; go_loud (refine Kd.R_append kF (w0 := wd) W1.heap.size rfl (.tmp 66) (.tmp 75) 41 36 (.slice none 0 0) 24 rfl Try.underlying41 infoRow rfl (by decide) (by decide) _ done (((zs.drop p).drop 2).take n) [.slice A3 n c3] (fun _ => True) (fun k => wd.heap.size ≤ k) rfl rfl (row_M HR2.out HA.out.f.size) (fun k hk => ⟨trivial, row_own HA.out.r (Nat.le_refl _) k hk⟩) (fun _ _ => trivial) (Kd.R_below HA.out.r HB2.out) (HB2.out.mono HA.out.f.size) (Nat.le_trans HA.out.f.size HB2.out.size) (by have h1 := HA.out.l; have h2 := HA.out.hp; omega) ?_; intro v6' w4 hR4 hB4 _ _; have hg4 := (hB4.block g hgW).trans HA.out.gr; have q0 := blk_cell hg4 0; have q1 := blk_cell hg4 1; have qf0 := blk_frozen hg4 0; have HR4 := Lib.hid hR4; have HB4 := Lib.hid hB4; have HG4 := Lib.hid hg4; clear hR4 hB4 hg4))
            | (go_at_call 65; go_loud (refine (clone_sl (((zs.drop p).drop 2).take n) _ _ _ _ (sl_cut (sl_sub HA.out.s (by omega)) (by omega)) (by have hm := HA.out.hm; simp only [List.length_drop, List.length_take, List.length_nil] <;> omega) (by omega)).mono ?_; rintro e w2 ⟨A3, c3, rfl, hR2, hB2⟩; have hg2 := blk_below HA.out.gr hB2; have k20 := blk_cell hg2 0; have k21 := blk_cell hg2 1; have f20 := blk_frozen hg2 0; have f21 := blk_frozen hg2 1; have HR2 := Lib.hid hR2; have HB2 := Lib.hid hB2; clear hR2 hB2 hg2)))
          go_roundg (m - (2 + n))
          case rel => exact ⟨_, _, _, _, HA.out.next HB4.out hgW HN.out (by omega) (by omega) HR4.out⟩
          case measure => omega
end Go.Proofs.Ytcpcnnpdbognlaa.Frm
