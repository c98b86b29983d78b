/- Texts of this claim, laid together: ArnK, ArnR. -/
import Derived.Test.YtnipbfhfaefieaaUd
import Derived.Test.YtnipbfhfaefieaaUb
import Derived.Deep.LoopGhost
/-! arena: Drop, walked. -/
namespace Go.Proofs.Ytnipbfhfaefieaa.Arn
open Go.RowKit Go Go.Proofs.YtnipbfhfaefieaaW.PrintWords Go.Proofs.YtnipbfhfaefieaaW.PrintMore Go.Proofs.YtnipbfhfaefieaaW.PrintLast Go.Proofs.Ytnipbfhfaefieaa.Bts Go.Proofs.Ytnipbfhfaefieaa.Fra Go.Proofs.Ytnipbfhfaefieaa.ArnP
/-- How many holds live cells have on others. -/
def ksum (cl : List Cell) : Nat := (cl.map fun c => if 0 < c.r then (kidsOf c.kids).length else 0).sum
theorem ksum_set {cl : List Cell} {i : Nat} {c : Cell} (h : cl[i]? = some c) (c' : Cell) : ksum (cl.set i c') + (if 0 < c.r then (kidsOf c.kids).length else 0) = ksum cl + (if 0 < c'.r then (kidsOf c'.kids).length else 0) := by
  induction cl generalizing i with
  | nil => simp at h
  | cons x l ih =>
    unfold ksum at ih ⊢
    cases i with
    | zero =>
      obtain rfl : x = c := by simpa using h
      rw [List.set_cons_zero, List.map_cons, List.map_cons, List.sum_cons, List.sum_cons]
      omega
    | succ i =>
      have h' : l[i]? = some c := by simpa using h
      have := ih h'
      rw [List.set_cons_succ, List.map_cons, List.map_cons, List.sum_cons, List.sum_cons]
      omega
/-- What others a cell holds, as numbers. -/
abbrev nz (l : List Int) : List Int := l.filter fun y => decide (y ≠ 0)
theorem nz_map (l : List Int) : (nz l).map Int.toNat = kidsOf l := rfl
theorem nz_snoc (l : List Int) (j : Nat) (x : Int) (hj : j < l.length) (hx : rd l (j : Int) = x) : nz (l.take (j + 1)) = nz (l.take j) ++ (if x = 0 then [] else [x]) := by
  have e : l[j] = x := by rw [← hx]; simp [rd, List.getD, hj]
  rw [List.take_succ_eq_append_getElem hj, nz, List.filter_append, e]
  congr 1
  by_cases h : x = 0
  · simp [h]
  · simp [h]
/-- Nobody's slot is laid, at once. -/
def storeNob (p : Addr) : Sem Unit := storeCells p [.int .u32 0, .int .u32 0, .int .u32 0, .slice none 0 0, .slice none 0 0, .int .i64 0] 0
theorem run_storeNob {w : World} {g o : Nat} {x0 x1 x2 x3 x4 x5 : Value} (t0 : w.cell? ⟨g, o, none⟩ = some x0) (t1 : w.cell? ⟨g, o + 1, none⟩ = some x1) (t2 : w.cell? ⟨g, o + 2, none⟩ = some x2) (t3 : w.cell? ⟨g, o + 3, none⟩ = some x3) (t4 : w.cell? ⟨g, o + 4, none⟩ = some x4) (t5 : w.cell? ⟨g, o + 5, none⟩ = some x5)
    (u0 : w.frozen? ⟨g, o, none⟩ = false) (u1 : w.frozen? ⟨g, o + 1, none⟩ = false) (u2 : w.frozen? ⟨g, o + 2, none⟩ = false) (u3 : w.frozen? ⟨g, o + 3, none⟩ = false) (u4 : w.frozen? ⟨g, o + 4, none⟩ = false) (u5 : w.frozen? ⟨g, o + 5, none⟩ = false) :
    (storeNob ⟨g, o, none⟩).run Try.prog w = .ok () ((((((w.setCell ⟨g, o, none⟩ (.int .u32 0)).setCell ⟨g, o + 1, none⟩ (.int .u32 0)).setCell ⟨g, o + 2, none⟩ (.int .u32 0)).setCell ⟨g, o + 3, none⟩ (.slice none 0 0)).setCell ⟨g, o + 4, none⟩ (.slice none 0 0)).setCell ⟨g, o + 5, none⟩ (.int .i64 0)) := by
  unfold storeNob
  go_simp
theorem all_nob (p : Addr) : storeCells p [.int .u32 0, .int .u32 0, .int .u32 0, .slice none 0 0, .slice none 0 0, .int .i64 0] 0 = storeNob p := rfl
attribute [local go_sem high] all_nob
structure DI (w wr : World) (V : Nat → Prop) (base a gs cs : Nat) (vf0 : Value) (ext : Nat → Nat) (sl0 : List Slot) (cl0 : List Cell) (most : Int) (q : Nat) (v vf : Value) (sl : List Slot) (cl : List Cell) (fr todo : List Int) (live : Int) : Prop where
  raw : RawA wr base a gs cs vf sl fr live most
  len : sl.length = cl.length
  link : ∀ (i : Nat) (s : Slot) (c : Cell), sl[i]? = some s → cl[i]? = some c → s.r = c.r ∧ (ext i = 0 ∨ i = 0 → CellIn wr V s c)
  ks : ∀ (i : Nat) (s' : Slot), sl[i]? = some s' → 0 < s'.r → ∃ s, sl0[i]? = some s ∧ s' = {s with r := s'.r}
  wf : WF cl fr live ext (todo.map Int.toNat)
  left : Left cl0 cl
  own : wr.ownsRow w.heap.size 3 1 v todo.length (nums .i64 todo)
  fresh : ∀ j, vf.ownBlock = some j → (vf0.ownBlock = some j ∨ w.heap.size ≤ j) ∧ v.ownBlock ≠ some j
  frm : Fr (fun j => j = a ∨ j = gs ∨ vf0.ownBlock = some j) w wr
  cnt : (fr.length : Int) + live + 1 = cl.length
  num : todo.length + ksum cl = q
  bnd : q ≤ 1 + ksum cl0
section
variable {base a gs cs : Nat} {vf : Value} {sl : List Slot} {fr : List Int} {live most : Int} {V : Nat → Prop}
set_option maxHeartbeats 4000000 in
set_option maxRecDepth 100000 in
theorem drop_walk (i : Nat) (cl : List Cell) (ext : Nat → Nat) (w : World) (h : RawA w base a gs cs vf sl fr live most) (hs : sl.length ≤ 100000000) (hlen : sl.length = cl.length)
    (hlink : ∀ (i : Nat) (s : Slot) (c : Cell), sl[i]? = some s → cl[i]? = some c → s.r = c.r ∧ (ext i = 0 ∨ i = 0 → CellIn w V s c)) (hV : ∀ j, V j → j < w.heap.size ∧ j ≠ a ∧ j ≠ gs ∧ vf.ownBlock ≠ some j)
    (hwf : WF cl fr live ext [i]) (hcnt : (fr.length : Int) + live + 1 = cl.length) (hks : ksum cl ≤ 1000000000000) (hrb : ∀ (i : Nat) (c : Cell), cl[i]? = some c → 0 < c.r → c.r ≤ 1000000000000000 ∧ c.kids.length ≤ 1000000) :
    Calls Try.prog 23 #[.pointer (some ⟨a, 0, none⟩), .int .i64 i] w fun e w' => e = .returned (.int .i64 0) ∧ ∃ vf' sl' cl' fr' live', RawA w' base a gs cs vf' sl' fr' live' most ∧ (∀ j, vf'.ownBlock = some j → vf.ownBlock = some j ∨ w.heap.size ≤ j) ∧ sl'.length = cl'.length ∧
      (∀ (i : Nat) (s : Slot) (c : Cell), sl'[i]? = some s → cl'[i]? = some c → s.r = c.r ∧ (ext i = 0 ∨ i = 0 → CellIn w' V s c)) ∧ (∀ (i : Nat) (s' : Slot), sl'[i]? = some s' → 0 < s'.r → ∃ s, sl[i]? = some s ∧ s' = {s with r := s'.r}) ∧ WF cl' fr' live' ext [] ∧ Left cl cl' ∧ (fr'.length : Int) + live' + 1 = cl'.length ∧ Fr (fun j => j = a ∨ j = gs ∨ vf.ownBlock = some j) w w' := by
  obtain ⟨c, hc, hcr, hi0⟩ := hwf.live_of
  obtain ⟨s, hsl⟩ : ∃ s, sl[i]? = some s := ⟨sl[i]'(by rw [hlen]; exact (List.getElem?_eq_some_iff.1 hc).1), List.getElem?_eq_getElem _⟩
  have hci := hlink i s c hsl hc
  have HI := Lib.hid (is_raw (i : Int) w h (by omega))
  rw [isB_at hsl hi0 (by rw [hci.1]; exact hcr)] at HI
  have HR := Lib.hid h
  have HL := Lib.hid hlink
  have HWF := Lib.hid hwf
  have HCN := Lib.hid hcnt
  have HVV := Lib.hid hV
  have ha : a < w.heap.size := blk_lt h.obj
  have hg : gs < w.heap.size := own_lt h.row gs rfl
  clear h hlink hwf hcnt hci hV hsl hc
  go_enter Try.func23, Try.ntmps23
  go_wp2_with (first
    | (go_at_call 68; go_loud (refine HI.out.mono ?_; rintro e w1 ⟨rfl, hB⟩; have HB := Lib.hid hB; clear hB)))
  go_loopg [5] (1 + ksum cl) (fun q v wr => ∃ vf' sl' cl' fr' todo live', DI w wr V base a gs cs vf ext sl cl most q v vf' sl' cl' fr' todo live')
  case atStart =>
    have hb := below_alloc HB.out (.cells #[.int .i64 (i : Int)] 3)
    have hr := Raw.below HR.out hb
    have hsz := HB.out.size
    refine ⟨vf, sl, cl, fr, [(i : Int)], live, hr, hlen, fun j s c h1 h2 => ⟨(HL.out j s c h1 h2).1, fun he => ((HL.out j s c h1 h2).2 he).fr (Fr.of_new (S := fun _ => False) hb) (fun _ _ => id)⟩, fun j s h1 _ => ⟨s, h1, rfl⟩, HWF.out, Left.refl _, World.ownsRow_lit w1 #[.int .i64 (i : Int)] 1 hsz (by decide) rfl, fun j hj => ⟨.inl hj, fun e => ?_⟩, Fr.of_new hb, HCN.out, by simp, Nat.le_refl _⟩
    have h1 := own_lt HR.out.free j hj
    have e2 : w1.heap.size = j := Option.some.inj e
    omega
  case round =>
    obtain ⟨vf', sl', cl', fr', todo, live', D⟩ := hrel
    obtain ⟨A5, c5, rfl⟩ := own_slice D.own
    have D := Lib.hid D
    rcases List.eq_nil_or_concat todo with rfl | ⟨rest, k, rfl⟩
    · go_wp2
      go_ret
      have D := D.out
      exact ⟨rfl, vf', sl', cl', fr', live', D.raw, fun j hj => (D.fresh j hj).1, D.len, D.link, D.ks, D.wf, D.left, D.cnt, D.frm⟩
    · rw [List.concat_eq_append] at D
      have hl5 : (rest.concat k).length = rest.length + 1 := by simp
      rw [hl5]
      have hown := D.out.own
      rw [show (rest ++ [k]).length = rest.length + 1 by simp, show nums .i64 (rest ++ [k]) = nums .i64 rest ++ [.int .i64 k] by simp [nums]] at hown
      obtain ⟨tg, tc, hv5, htc, htm⟩ := own_some hown (by omega)
      injection hv5 with hv5 _ hc5
      subst hv5 hc5
      have hk0 := (D.out.wf.tn k.toNat (by simp)).1
      obtain ⟨kn, rfl⟩ : ∃ kn : Nat, k = kn := ⟨k.toNat, by omega⟩
      obtain ⟨m, hm⟩ : ∃ m, rest.length = m := ⟨_, rfl⟩
      rw [hm] at hown htc ⊢
      have hwf1 : WF cl' fr' live' ext (kn :: rest.map Int.toNat) := D.out.wf.perm (fun x => by
        rw [List.map_append, List.count_append, List.count_cons]
        simp [List.count_cons, Nat.add_comm])
      obtain ⟨c, hc, hcr, hk1⟩ := hwf1.live_of
      have hkl : kn < sl'.length := by rw [D.out.len]; exact (List.getElem?_eq_some_iff.1 hc).1
      obtain ⟨s, hsl⟩ : ∃ s, sl'[kn]? = some s := ⟨sl'[kn], List.getElem?_eq_getElem hkl⟩
      have hci := D.out.link kn s c hsl hc
      obtain ⟨so, sa, sb, sv, sk, sr⟩ := s
      have hrr2 : c.r ≤ 1000000000000000 ∧ c.kids.length ≤ 1000000 := by
        obtain ⟨c0, h0, h2, h1⟩ := D.out.left.at_ kn c hc hcr
        have h3 := hrb kn c0 h0 (by omega)
        rw [h2]
        exact ⟨Int.le_trans h1 h3.1, h3.2⟩
      have hrr := hrr2.1
      have HKB := Lib.hid hrr2.2
      clear hrr2
      obtain ⟨t0, t1, t2, t3, t4, t5, u0, u1, u2, u3, u4, u5⟩ := six D.out.raw kn _ hsl
      have p0 := blk_cell D.out.raw.obj 0
      have q0 : wr.cell? ⟨tg, m, none⟩ = some (.int .i64 kn) := by
        have hxl : (nums .i64 rest).length = m := by rw [nums_length, hm]
        rw [hown.cellAt m (by omega), List.getElem?_append_right (by omega), hxl, Nat.sub_self]
        rfl
      have hkl' : (kn : Int) < (sl'.length : Int) := by omega
      have hcl : cl'.length = cl.length := D.out.left.len
      have hsl1 : (sl'.length : Int) ≤ 100000000 := by have := D.out.len; omega
      have hci6 : sr = c.r := hci.1
      have e1 : wrap64 (sr - 1) = sr - 1 := by unfold wrap64; omega
      have hmc : m ≤ c5 := by omega
      have hmm : m ≤ 1000000000001 := by have h1 := D.out.num; have h2 := D.out.bnd; rw [List.length_append, hm, List.length_singleton] at h1; omega
      have HC := Lib.hid hc
      have HCI := Lib.hid hci
      have HSL := Lib.hid hsl
      have HOWN := Lib.hid hown
      have HM := Lib.hid hm
      have HWF1 := Lib.hid hwf1
      have HLEN := Lib.hid hcl
      have HRB := Lib.hid hrb
      have HC6 := Lib.hid hci6
      have HRR := Lib.hid hrr
      have HKS := Lib.hid hks
      clear hrr hks hci6
      clear hc hci hsl hown hm hwf1 hcl hl5 htc htm hrb
      by_cases hr1 : 1 < sr
      · have hr2 : 0 < sr - 1 := by omega
        go_wp2
        have D := D.out
        have hr6 := HC6.out
        have hc1 : c.kids = c.kids := rfl
        have hF : Fr (fun j => j = gs) wr (wr.setCell ⟨gs, kn * 6 + 5, none⟩ (.int .i64 (sr - 1))) := Fr.set gs _ _
        go_roundg (gk - 1)
        case measure => have h1 := D.num; rw [List.length_append, List.length_singleton] at h1; omega
        case rel =>
          have hq := D.num
          rw [List.length_append, List.length_singleton, HM.out] at hq
          have hks := ksum_set HC.out {c with r := c.r - 1}
          rw [if_pos hcr, if_pos (show 0 < c.r - 1 by omega)] at hks
          replace hks := Nat.add_right_cancel hks
          refine ⟨vf', sl'.set kn ⟨so, sa, sb, sv, sk, sr - 1⟩, cl'.set kn {c with r := c.r - 1}, fr', rest, live', D.raw.put kn 5 (.int .i64 (sr - 1)) _ _ HSL.out (by decide) rfl, by rw [List.length_set, List.length_set]; exact D.len, ?_, ?_, HWF1.out.less HC.out (by omega), D.left.less HC.out hcr (by omega), ?_, fun j hj => ⟨(D.fresh j hj).1, (D.fresh j hj).2⟩, D.frm.then_ hF (fun j hj => .inl (.inr (.inl hj))), by rw [List.length_set]; exact D.cnt, by rw [HM.out]; omega, by have := D.bnd; omega⟩
          · intro i2 s2 c2' h1 h2
            have hVg : ∀ j, V j → ¬ j = gs := fun j hj => (HVV.out j hj).2.2.1
            by_cases e : i2 = kn
            · subst e
              rw [List.getElem?_set_self hkl] at h1
              rw [List.getElem?_set_self (by rw [← D.len]; exact hkl)] at h2
              cases h1
              cases h2
              refine ⟨show sr - 1 = c.r - 1 by omega, fun he => ?_⟩
              have := ((HCI.out).2 he).fr hF hVg
              exact ⟨this.ow, this.a, this.b, show sr - 1 = c.r - 1 by omega, this.v, this.k⟩
            · rw [List.getElem?_set_ne (fun h => e h.symm)] at h1 h2
              exact ⟨(D.link i2 s2 c2' h1 h2).1, fun he => ((D.link i2 s2 c2' h1 h2).2 he).fr hF hVg⟩
          · intro i2 s2 h1 h2
            by_cases e : i2 = kn
            · subst e
              rw [List.getElem?_set_self hkl] at h1
              cases h1
              obtain ⟨s0, g1, g2⟩ := D.ks i2 _ HSL.out (show 0 < sr by omega)
              refine ⟨s0, g1, ?_⟩
              injection g2 with g3 g4 g5 g6 g7
              subst g3 g4 g5 g6 g7
              rfl
            · rw [List.getElem?_set_ne (fun h => e h.symm)] at h1
              exact D.ks i2 s2 h1 h2
          · rw [HM.out]
            exact own_fr (ownsRow_pop (by rw [nums_length, HM.out]; omega) HOWN.out) hF (fun j hj e => by have := own_base HOWN.out j hj; omega)
      · have hr2 : sr = 1 := by have := HC6.out; omega
        subst hr2
        have hek : ext kn = 0 := by
          have h1 := HWF1.out.acc kn (by rw [← D.out.len]; exact hkl) hk1
          rw [gOf_refs HC.out, List.count_cons_self] at h1
          have := HC6.out
          omega
        obtain ⟨A2, c2, hsk, hkc2, hkn2, hC2, hbk2⟩ := (HCI.out.2 (.inl hek)).k
        replace hsk : sk = .slice A2 c.kids.length c2 := hsk
        subst hsk
        have HC2 := Lib.hid hC2
        have HBK2 := Lib.hid hbk2
        clear hkc2 hkn2 hC2 hbk2 hek
        go_wp2
        have D' := D.out
        have hF0 : Fr (fun j => j = gs) wr (wr.setCell ⟨gs, kn * 6 + 5, none⟩ (.int .i64 0)) := Fr.set gs _ _
        have hVg : ∀ j, V j → ¬ j = gs := fun j hj => (HVV.out j hj).2.2.1
        have htg : w.heap.size ≤ tg := own_base HOWN.out tg rfl
        have hr10 := D'.raw.put kn 5 (.int .i64 0) _ ⟨so, sa, sb, sv, .slice A2 c.kids.length c2, 0⟩ HSL.out (by decide) rfl
        have hC10 := C_fr kInt_K HC2.out hF0 (fun ad e => hVg _ (HBK2.out ad e).1)
        have ho10 := own_fr (ownsRow_pop (by rw [nums_length, HM.out]; omega) HOWN.out) hF0 (fun j hj e => by have := own_base HOWN.out j hj; omega)
        have hF10 := D'.frm.then_ hF0 (fun j hj => .inl (.inr (.inl hj)))
        have htgl : tg < wr.heap.size := own_lt HOWN.out tg rfl
        have hlink10 : ∀ (i2 : Nat) (s2 : Slot) (c3 : Cell), i2 ≠ kn → sl'[i2]? = some s2 → cl'[i2]? = some c3 → s2.r = c3.r ∧ (ext i2 = 0 ∨ i2 = 0 → CellIn (wr.setCell ⟨gs, kn * 6 + 5, none⟩ (.int .i64 0)) V s2 c3) := fun i2 s2 c3 _ h1 h2 => ⟨(D'.link i2 s2 c3 h1 h2).1, fun he => ((D'.link i2 s2 c3 h1 h2).2 he).fr hF0 hVg⟩
        obtain ⟨W10, hW10⟩ : ∃ W10, wr.setCell ⟨gs, kn * 6 + 5, none⟩ (.int .i64 0) = W10 := ⟨_, rfl⟩
        rw [hW10] at hr10 hC10 ho10 hF10 hlink10 ⊢
        have hz10 : W10.heap.size = wr.heap.size := by rw [← hW10]; simp
        have hkx := ksum_set HC.out nobC
        rw [if_pos hcr, if_neg (show ¬ 0 < nobC.r from Int.lt_irrefl 0)] at hkx
        have hnm := D'.num
        rw [List.length_append, List.length_singleton, HM.out] at hnm
        have hbd := D'.bnd
        have hks2 := HKS.out
        have HNX := Lib.hid (show m + (kidsOf c.kids).length ≤ 1000000000001 by omega)
        have HKX := Lib.hid hkx
        have HNM := Lib.hid hnm
        have HBD := Lib.hid hbd
        have HR10 := Lib.hid hr10
        have HC10 := Lib.hid hC10
        have HO10 := Lib.hid ho10
        have HF10 := Lib.hid hF10
        have HL10 := Lib.hid hlink10
        have hkcl : c.kids.length ≤ 1000000 := HKB.out
        clear hF0 hr10 hC10 ho10 hF10 hlink10 hkx hnm hbd hks2 t0 t1 t2 t3 t4 t5 u0 u1 u2 u3 u4 u5 p0 q0 e1 hW10 D'
        go_loopw [5, 59] (fun v x wq => ∃ j n : Nat, x = .int .i64 j ∧ j ≤ c.kids.length ∧ n = (rest ++ nz (c.kids.take j)).length ∧ wq.ownsRow w.heap.size 3 1 v n (nums .i64 (rest ++ nz (c.kids.take j))) ∧ (v.ownBlock = some tg ∨ ∃ b, v.ownBlock = some b ∧ W10.heap.size ≤ b) ∧ Fr (fun b => b = tg) W10 wq) (fun _ x _ => c.kids.length - (intOf x).toNat)
        case atStart =>
          have e0 : rest ++ nz (c.kids.take 0) = rest := by rw [List.take_zero]; exact List.append_nil _
          refine ⟨0, m, rfl, Nat.zero_le _, by rw [e0, HM.out], ?_, .inl rfl, Fr.refl _ _⟩
          rw [e0]
          exact HO10.out
        case round =>
          obtain ⟨j, n, rfl, hj, hn, hown, hvb, hF⟩ := hrel
          have hnb : n ≤ 1000000000001 := by
            have h1 := HNX.out
            have h2 : (nz (c.kids.take j)).length ≤ (kidsOf c.kids).length := by
              rw [← nz_map, List.length_map]
              exact (List.Sublist.filter _ (List.take_sublist j c.kids)).length_le
            rw [hn, List.length_append, HM.out]
            omega
          have HNN := Lib.hid hn
          clear hn
          obtain ⟨A7, c7, rfl⟩ := own_slice hown
          have HOW := Lib.hid hown
          have HVB := Lib.hid hvb
          have HFR := Lib.hid hF
          have hzq := hF.size
          clear hown hvb hF
          by_cases hjl : j < c.kids.length
          · obtain ⟨x, hx⟩ : ∃ x, rd c.kids (j : Int) = x := ⟨_, rfl⟩
            obtain ⟨ad, had, hcc⟩ := Kd.at_int (C_fr kInt_K HC10.out HFR.out (fun ad e => by have := (HVV.out _ (HBK2.out ad e).1).1; omega)) (j : Int) (by omega) (by omega)
            subst had
            rw [hx, Int.toNat_natCast] at hcc
            have HX := Lib.hid (nz_snoc c.kids j x hjl hx)
            have hjl' : (j : Int) < (c.kids.length : Int) := by omega
            clear hx
            by_cases hx0 : x = 0
            · subst hx0
              rw [if_pos rfl, List.append_nil] at HX
              go_wp2
              go_roundw
              case rel => exact ⟨j + 1, n, by simp, by omega, by rw [HX.out]; exact HNN.out, by rw [HX.out]; exact HOW.out, HVB.out, HFR.out⟩
              case measure => simp [intOf]; omega
            · rw [if_neg hx0] at HX
              have hx0' : (x == 0) = false := by simpa using hx0
              go_wp2_with (at_builtin; go_loud (refine print_append_cells (w0 := wr) (W := wr) w.heap.size rfl (.tmp 65) (.tmp 67) 27 3 (.int .i64 0) 1 8 rfl Try.underlying27 infoInt rfl (by decide) (by decide) (.slice A7 n c7) n (nums .i64 (rest ++ nz (c.kids.take j))) [.int .i64 x] rfl rfl rfl (fun u hu => by rw [List.mem_singleton.1 hu]; rfl) HOW.out (Below.refl _ _) (by omega) (by omega) ?_; intro v6 w6 ho6 hB6 hg6 hat6; have HO6 := Lib.hid ho6; have HG6 := Lib.hid hg6; have HAT6 := Lib.hid hat6; obtain ⟨A8, c8, rfl⟩ := own_slice ho6; clear ho6 hg6 hat6 hB6))
              go_roundw
              case rel =>
                refine ⟨j + 1, n + 1, by simp, by omega, by rw [HX.out, ← List.append_assoc, List.length_append, ← HNN.out]; rfl, ?_, ?_, ?_⟩
                · rw [HX.out, ← List.append_assoc]
                  have := HO6.out
                  rwa [show nums .i64 (rest ++ nz (c.kids.take j)) ++ [Value.int .i64 x] = nums .i64 (rest ++ nz (c.kids.take j) ++ [x]) by simp [nums]] at this
                · rcases HAT6.out with e | ⟨b, e, hb⟩
                  · rw [e]; exact HVB.out
                  · exact .inr ⟨b, e, by omega⟩
                · refine HFR.out.then_ (fr_grownBy HG6.out) (fun k hk => ?_)
                  rcases HVB.out with e | ⟨b, e, hb⟩
                  · rw [e] at hk; cases hk; exact .inl rfl
                  · rw [e] at hk; cases hk; exact .inr hb
              case measure => simp [intOf]; omega
          · have hjl' : ¬ (j : Int) < (c.kids.length : Int) := by omega
            obtain rfl : j = c.kids.length := by omega
            obtain ⟨vA, vC, hvf⟩ := own_slice HR10.out.free
            subst hvf
            have hraw := HR10.out.kept HFR.out (show ¬ a = tg by omega) (show ¬ gs = tg by omega) (fun k hk e => (D.out.fresh k hk).2 (by rw [e]; rfl))
            have hls : (sl'.set kn ⟨so, sa, sb, sv, .slice A2 c.kids.length c2, 0⟩)[kn]? = some ⟨so, sa, sb, sv, .slice A2 c.kids.length c2, 0⟩ := List.getElem?_set_self hkl
            obtain ⟨t0, t1, t2, t3, t4, t5, u0, u1, u2, u3, u4, u5⟩ := six hraw kn _ hls
            have p0 := blk_cell hraw.obj 0
            rw [List.length_set] at p0
            have hr11 := hraw.lay kn _ nob hls
            rw [List.set_set] at hr11
            have hF11 := fr6 wr gs (kn * 6) (.int .u32 0) (.int .u32 0) (.int .u32 0) (.slice none 0 0) (.slice none 0 0) (.int .i64 0)
            have hst := run_storeNob t0 t1 t2 t3 t4 t5 u0 u1 u2 u3 u4 u5
            obtain ⟨W11, hW11⟩ : ∃ W11, ((((((wr.setCell ⟨gs, kn * 6, none⟩ (.int .u32 0)).setCell ⟨gs, kn * 6 + 1, none⟩ (.int .u32 0)).setCell ⟨gs, kn * 6 + 2, none⟩ (.int .u32 0)).setCell ⟨gs, kn * 6 + 3, none⟩ (.slice none 0 0)).setCell ⟨gs, kn * 6 + 4, none⟩ (.slice none 0 0)).setCell ⟨gs, kn * 6 + 5, none⟩ (.int .i64 0)) = W11 := ⟨_, rfl⟩
            replace hr11 : RawA W11 base a gs cs (.slice vA fr'.length vC) (sl'.set kn nob) fr' live' most := by rw [← hW11]; exact hr11
            rw [hW11] at hF11 hst
            have HR11 := Lib.hid hr11
            have HF11 := Lib.hid hF11
            clear hW11 hraw hls hr11 hF11 t0 t1 t2 t3 t4 t5 u0 u1 u2 u3 u4 u5
            have ps1 := blk_cell HR11.out.obj 1
            have hbs := HR11.out.bs
            have hbg : base ≤ W11.heap.size := by have := own_lt HR11.out.row gs rfl; omega
            have hfrl : fr'.length ≤ 100000000 := by
              have h1 := D.out.cnt
              have h2 := D.out.wf.lv
              have h3 := D.out.len
              have h4 := HLEN.out
              omega
            go_wp2_with (first
              | (go_at_call 66; go_loud (refine (add_calls _ live' (-1) _ rfl l2 l3).mono ?_; rintro e w7 ⟨rfl, rfl⟩))
              | (at_builtin; go_loud (refine print_append_cells (w0 := W11) (W := W11) base rfl (.tmp 81) (.tmp 83) 27 3 (.int .i64 0) 1 8 rfl Try.underlying27 infoInt rfl (by decide) (by decide) (.slice vA fr'.length vC) fr'.length (nums .i64 fr') [.int .i64 (kn : Int)] rfl rfl rfl (fun u hu => by rw [List.mem_singleton.1 hu]; rfl) HR11.out.free (Below.refl _ _) hbg (by omega) ?_; intro v6 w6 ho6 hB6 hg6 hat6; obtain ⟨A8, c8, rfl⟩ := own_slice ho6; have hob6 := (fr_grownBy hg6).blk HR11.out.obj (fun e => (HR11.out.fa _ e).1 rfl); have k1 := blk_cell hob6 1; have k2 := blk_frozen hob6 1; have hr13 := HR11.out.frees (vf' := .slice A8 (fr'.length + 1) c8) (fr' := fr' ++ [(kn : Int)]) (fr_grownBy hg6) (by rw [List.length_append]; simpa [nums] using ho6) (fun k hk => hat6.elim (fun e => .inl (e ▸ hk)) (fun ⟨b, e, hb⟩ => .inr (by rw [e] at hk; cases hk; exact hb))); have l2 := blk_cell hr13.obj 2; have l3 := blk_frozen hr13.obj 2; have HR13 := Lib.hid hr13; have HG6 := Lib.hid hg6; have HAT6 := Lib.hid hat6; clear ho6 hB6 hg6 hat6 hob6 hr13)))
            have Dd := D.out
            have hj0 : nz (c.kids.take c.kids.length) = nz c.kids := by rw [List.take_length]
            have hn := HNN.out
            rw [hj0, List.length_append, HM.out] at hn
            have hnk : (nz c.kids).length = (kidsOf c.kids).length := by rw [← nz_map, List.length_map]
            have hcn := Dd.cnt
            have hlv := Dd.wf.lv
            have hle := Dd.len
            have e1 : wrap64 (live' + -1) = live' - 1 := by unfold wrap64; omega
            rw [e1]
            have hft : ∀ j, (Value.slice vA fr'.length vC).ownBlock = some j → (vf.ownBlock = some j ∨ w.heap.size ≤ j) ∧ j ≠ tg ∧ j < W10.heap.size := fun j hj => ⟨(Dd.fresh j hj).1, fun e => (Dd.fresh j hj).2 (by rw [e]; rfl), by rw [hz10]; exact own_lt Dd.raw.free j hj⟩
            have hFa : Fr (fun j => j = tg ∨ j = gs ∨ (Value.slice vA fr'.length vC).ownBlock = some j ∨ j = a) W10 ((w6.setCell ⟨a, 1, none⟩ (.slice A8 (fr'.length + 1) c8)).setCell ⟨a, 2, none⟩ (.int .i64 (live' - 1))) :=
              ((((HFR.out.mono (S' := fun j => j = tg ∨ j = gs ∨ (Value.slice vA fr'.length vC).ownBlock = some j ∨ j = a) (fun j hj => .inl (.inl hj))).then_ HF11.out (fun j hj => .inl (.inr (.inl hj)))).then_ (fr_grownBy HG6.out) (fun j hj => .inl (.inr (.inr (.inl hj))))).then_ (Fr.set a 1 _) (fun j hj => .inl (.inr (.inr (.inr hj))))).then_ (Fr.set a 2 _) (fun j hj => .inl (.inr (.inr (.inr hj))))
            have hVS : ∀ j, V j → ¬ (j = tg ∨ j = gs ∨ (Value.slice vA fr'.length vC).ownBlock = some j ∨ j = a) := fun j hj e => by
              obtain ⟨v1, v2, v3, v4⟩ := HVV.out j hj
              rcases e with e | e | e | e
              · omega
              · exact v3 e
              · rcases (hft j e).1 with e | e
                · exact v4 e
                · omega
              · exact v2 e
            have hFb : Fr (fun j => j = gs ∨ (Value.slice vA fr'.length vC).ownBlock = some j ∨ j = a) wr ((w6.setCell ⟨a, 1, none⟩ (.slice A8 (fr'.length + 1) c8)).setCell ⟨a, 2, none⟩ (.int .i64 (live' - 1))) :=
              (((HF11.out.mono (S' := fun j => j = gs ∨ (Value.slice vA fr'.length vC).ownBlock = some j ∨ j = a) (fun j hj => .inl (.inl hj))).then_ (fr_grownBy HG6.out) (fun j hj => .inl (.inr (.inl hj)))).then_ (Fr.set a 1 _) (fun j hj => .inl (.inr (.inr hj)))).then_ (Fr.set a 2 _) (fun j hj => .inl (.inr (.inr hj)))
            have hvl : ∀ j, (Value.slice A7 n c7).ownBlock = some j → w.heap.size ≤ j ∧ j < wr.heap.size ∧ (j = tg ∨ W10.heap.size ≤ j) := fun j hj => ⟨own_base HOW.out j hj, own_lt HOW.out j hj, by
              rcases HVB.out with e | ⟨b, e, hb⟩
              · rw [e] at hj; exact .inl (Option.some.inj hj).symm
              · rw [e] at hj; cases hj; exact .inr hb⟩
            have hown := own_fr HOW.out hFb (fun j hj e => by
              obtain ⟨h1, h2, h3⟩ := hvl j hj
              rcases e with e | e | e
              · omega
              · obtain ⟨_, h5, h6⟩ := hft j e
                omega
              · omega)
            rw [hj0] at hown
            have hwf2 := HWF1.out.last HC.out (by have := HC6.out; omega)
            have hkx := HKX.out
            have hnm := HNM.out
            have hbd := HBD.out
            have hw11 := HF11.out.size
            go_roundg (gk - 1)
            case measure => omega
            case rel =>
              refine ⟨.slice A8 (fr'.length + 1) c8, sl'.set kn nob, cl'.set kn nobC, fr' ++ [(kn : Int)], rest ++ nz c.kids, live' - 1, HR13.out.live _, by rw [List.length_set, List.length_set]; exact hle, ?_, ?_, by rw [List.map_append]; exact hwf2, Dd.left.last HC.out, ?_, ?_, ?_, by rw [List.length_append, List.length_set, List.length_singleton]; omega, by rw [List.length_append, HM.out]; omega, by omega⟩
              · intro i2 s2 c3 h1 h2
                by_cases e : i2 = kn
                · subst e
                  rw [List.getElem?_set_self hkl] at h1
                  rw [List.getElem?_set_self (by rw [← hle]; exact hkl)] at h2
                  cases h1
                  cases h2
                  refine ⟨rfl, fun _ => ?_⟩
                  exact ⟨rfl, rfl, rfl, rfl, ⟨none, 0, rfl, Nat.le_refl _, fun _ => rfl, ⟨rfl, by simp [nobC], fun h => absurd h (by simp [nobC])⟩, fun ad h => by cases h⟩, ⟨none, 0, rfl, Nat.le_refl _, fun _ => rfl, ⟨rfl, by simp [nobC], fun h => absurd h (by simp [nobC])⟩, fun ad h => by cases h⟩⟩
                · rw [List.getElem?_set_ne (fun h => e h.symm)] at h1 h2
                  exact ⟨(HL10.out i2 s2 c3 e h1 h2).1, fun he => ((HL10.out i2 s2 c3 e h1 h2).2 he).fr hFa hVS⟩
              · intro i2 s2 h1 h2
                by_cases e : i2 = kn
                · subst e
                  rw [List.getElem?_set_self hkl] at h1
                  cases h1
                  exact absurd h2 (Int.lt_irrefl 0)
                · rw [List.getElem?_set_ne (fun h => e h.symm)] at h1
                  exact Dd.ks i2 s2 h1 h2
              · rw [List.length_append, HM.out, ← hn]
                exact hown
              · intro j hj
                rcases HAT6.out with e | ⟨b, e, hb⟩
                · rw [e] at hj
                  obtain ⟨g1, g2, g3⟩ := hft j hj
                  refine ⟨g1, fun e2 => ?_⟩
                  obtain ⟨h1, h2, h3⟩ := hvl j e2
                  omega
                · rw [e] at hj
                  cases hj
                  have := HFR.out.size
                  have := HF10.out.size
                  refine ⟨.inr (by omega), fun e2 => ?_⟩
                  obtain ⟨h1, h2, h3⟩ := hvl _ e2
                  omega
              · refine HF10.out.then_ hFa (fun j hj => ?_)
                rcases hj with e | e | e | e
                · exact .inr (by omega)
                · exact .inl (.inr (.inl e))
                · exact (hft j e).1.imp (fun h => .inr (.inr h)) id
                · exact .inl (.inl e)
end
end Go.Proofs.Ytnipbfhfaefieaa.Arn
/-! arena: the same holds told by names and by numbers (for the law ArenaActs). -/
namespace Go.Proofs.Ytnipbfhfaefieaa.Arn
open Go.RowKit Go Go.Proofs.Ytnipbfhfaefieaa.ArnP
theorem sm_zero {f : Nat → Nat} : ∀ n, (∀ y, y < n → f y = 0) → sm f n = 0
  | 0, _ => rfl
  | n + 1, h => by simp only [sm]; rw [sm_zero n (fun y hy => h y (by omega)), h n (by omega)]
end Go.Proofs.Ytnipbfhfaefieaa.Arn
