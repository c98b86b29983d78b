/- draws: a row of draws behind a pointer, and its calls, as contracts. -/
import Derived.Test.YtcpcnnpdbognlaaCloneU
import Derived.Test.YtcpcnnpdbognlaaFrame
import Derived.Deep.QuietTactic
import Derived.BigQuiet
import Derived.ArgAppend
import Derived.Lib.AppendZeros
import Derived.Outline
namespace Go.Proofs.Ytcpcnnpdbognlaa.Drw
open Go.RowKit Go Go.Proofs.YtcpcnnpdbognlaaW.PrintWords Go.Proofs.YtcpcnnpdbognlaaW.PrintMore Go.Proofs.Ytcpcnnpdbognlaa.Bts Go.Proofs.Ytcpcnnpdbognlaa.Fra

/-- A row of draws at block g, so many of them drawn; it lies in blocks of F. -/
def Dr (w : World) (F : Nat → Prop) (g : Nat) (us : List Int) (n : Nat) : Prop :=
  ∃ A c, w.heap[g]? = some (.cells #[.slice A us.length c, .int .i64 n] 111 (0,0)) ∧ SlR w 1 (.slice A us.length c) us.length (nums .u64 us) ∧ F g ∧ (∀ ad, A = some ad → ad.block ≠ g ∧ F ad.block) ∧ n ≤ us.length ∧ us.length ≤ 1000000
section
variable {w w' : World} {F F' S : Nat → Prop} {g n : Nat} {us : List Int}
theorem Dr.fr (h : Dr w F g us n) (hf : Fr S w w') (hs : ∀ k, F k → ¬ S k) : Dr w' F g us n := by
  obtain ⟨A, c, h1, h2, h3, h4, h5⟩ := h
  refine ⟨A, c, hf.blk h1 (hs _ h3), SlR.kept h2 hf.kept ?_, h3, h4, h5⟩
  intro k hk
  cases A with
  | none => cases hk
  | some ad => cases hk; exact hs _ (h4 ad rfl).2
theorem Dr.below (h : Dr w F g us n) (hf : Below w.heap.size w w') : Dr w' F g us n := h.fr (S := fun _ => False) (Fr.of_new hf) (fun _ _ h => h)
theorem Dr.mono (h : Dr w F g us n) (hF : ∀ k, F k → F' k) : Dr w F' g us n := by
  obtain ⟨A, c, h1, h2, h3, h4, h5⟩ := h
  exact ⟨A, c, h1, h2, hF _ h3, fun ad ha => ⟨(h4 ad ha).1, hF _ (h4 ad ha).2⟩, h5⟩
theorem Dr.lt (h : Dr w F g us n) : g < w.heap.size := by obtain ⟨A, c, h1, _⟩ := h; exact blk_lt h1
theorem Dr.le (h : Dr w F g us n) : n ≤ us.length ∧ us.length ≤ 1000000 := by obtain ⟨A, c, _, _, _, _, h5⟩ := h; exact h5
end
theorem _root_.Go.Proofs.Ytcpcnnpdbognlaa.Fra.Fr.drewN {S : Nat → Prop} {w w' : World} (h : Fr S w w') (m : Nat) : Fr S w (w'.drewN m) := ⟨h.os, h.tape, h.output, h.size, h.block⟩
theorem Dr.drewN {w : World} {F : Nat → Prop} {g n : Nat} {us : List Int} (h : Dr w F g us n) (m : Nat) : Dr (w.drewN m) F g us n := h.fr (S := fun _ => False) (Fr.drewN (Fr.refl _ w) m) (fun _ _ h => h)
theorem Dr.put {w : World} {F : Nat → Prop} {g n : Nat} {us : List Int} (h : Dr w F g us n) (m : Nat) (hm : m ≤ us.length) : Dr (w.setCell ⟨g, 1, none⟩ (.int .i64 m)) F g us m := by
  obtain ⟨A, c, h1, h2, h3, h4, h5, h6⟩ := h
  refine ⟨A, c, (blk_set h1 1 _).trans rfl, SlR.kept h2 (Fr.set g 1 _).kept ?_, h3, h4, hm, h6⟩
  intro k hk e
  subst e
  cases A with
  | none => cases hk
  | some ad => cases hk; exact (h4 ad rfl).1 rfl
set_option maxHeartbeats 1000000 in
theorem left_calls (F : Nat → Prop) (g n : Nat) (us : List Int) (w : World) (h : Dr w F g us n) :
    Calls Try.prog 38 #[.pointer (some ⟨g, 0, none⟩)] w fun e w' => e = .returned (.int .i64 ((us.length - n : Nat) : Int)) ∧ ∃ q, w' = w.drewN q := by
  obtain ⟨A, c, hg, hb, hF, hA, hn, hu⟩ := h
  have hc0 : w.cell? ⟨g, 0, none⟩ = some (.slice A us.length c) := blk_cell hg 0
  have hc1 : w.cell? ⟨g, 1, none⟩ = some (.int .i64 n) := blk_cell hg 1
  have he : ((us.length - n : Nat) : Int) = (us.length : Int) - n := by omega
  have h0 : 0 ≤ (us.length : Int) - n := by omega
  have h1 : (us.length : Int) - n ≤ 1000000 := by omega
  rw [he]
  clear hg hb hF hA he
  go_enter Try.func38, Try.ntmps38
  go_wp2
  go_quiet (fail)
  go_wp2
  go_ret
  exact ⟨rfl, _, rfl⟩
set_option maxHeartbeats 1000000 in
theorem used_calls (F : Nat → Prop) (g n : Nat) (us : List Int) (w : World) (h : Dr w F g us n) :
    Calls Try.prog 39 #[.pointer (some ⟨g, 0, none⟩)] w fun e w' => e = .returned (.int .i64 n) ∧ w = w' := by
  obtain ⟨A, c, hg, hb, hF, hA, hn, hu⟩ := h
  have hc1 : w.cell? ⟨g, 1, none⟩ = some (.int .i64 n) := blk_cell hg 1
  clear hg hb hF hA
  go_enter Try.func39, Try.ntmps39
  go_wp2
  go_ret
  exact ⟨rfl, rfl⟩
theorem left_nil (w : World) : Calls Try.prog 38 #[.pointer none] w fun e w' => e = .returned (.int .i64 0) ∧ w = w' := by
  go_enter Try.func38, Try.ntmps38
  go_wp2
  go_ret
  exact ⟨rfl, rfl⟩
theorem used_nil (w : World) : Calls Try.prog 39 #[.pointer none] w fun e w' => e = .returned (.int .i64 0) ∧ w = w' := by
  go_enter Try.func39, Try.ntmps39
  go_wp2
  go_ret
  exact ⟨rfl, rfl⟩
theorem next_nil (w : World) : Calls Try.prog 33 #[.pointer none] w fun e w' => e = .returned (.tuple #[.int .u64 0, .int .i64 13]) ∧ w = w' := by
  go_enter Try.func33, Try.ntmps33
  go_wp2_with (go_at_call 38; refine (left_nil _).mono ?_; rintro e w1 ⟨rfl, rfl⟩)
  go_ret2
  exact ⟨rfl, rfl⟩
theorem more_nil (v : Value) (w : World) : Calls Try.prog 37 #[.pointer none, v] w fun e w' => e = .returned (.tuple #[]) ∧ w = w' := by
  go_enter Try.func37, Try.ntmps37
  go_wp2
  go_end0
  exact ⟨rfl, rfl⟩
/-- The next one. -/
theorem next_none (F : Nat → Prop) (g : Nat) (us : List Int) (w : World) (h : Dr w F g us us.length) :
    Calls Try.prog 33 #[.pointer (some ⟨g, 0, none⟩)] w fun e w' => e = .returned (.tuple #[.int .u64 0, .int .i64 13]) ∧ ∃ q, w' = w.drewN q := by
  have hl := left_calls F g us.length us w h
  rw [Nat.sub_self] at hl
  go_enter Try.func33, Try.ntmps33
  go_wp2_with (go_at_call 38; refine hl.mono ?_; rintro e w1 ⟨rfl, q, rfl⟩)
  go_ret2
  exact ⟨rfl, q, rfl⟩
set_option maxHeartbeats 2000000 in
theorem next_some (F : Nat → Prop) (g n : Nat) (us : List Int) (x : Int) (w : World) (h : Dr w F g us n) (hn : n < us.length) (hx : us.getD n 0 = x) :
    Calls Try.prog 33 #[.pointer (some ⟨g, 0, none⟩)] w fun e w' => e = .returned (.tuple #[.int .u64 x, .int .i64 0]) ∧ Dr w' F g us (n + 1) ∧ Fr (· = g) w w' := by
  have H := h
  have hl := left_calls F g n us w h
  obtain ⟨A, c, hg, hb, hF, hA, _, hu⟩ := h
  obtain ⟨ad, c', e0, hnc, hat⟩ := hb.at_ n hn
  cases e0
  have hne := (hA ad rfl).1
  have hx1 : w.cell? (ad.add n) = some (.int .u64 x) := by rw [← hx]; exact hat _ (nums_get .u64 us n hn)
  have hc0 : w.cell? ⟨g, 0, none⟩ = some (.slice (some ad) us.length c) := blk_cell hg 0
  have hc1 : w.cell? ⟨g, 1, none⟩ = some (.int .i64 n) := blk_cell hg 1
  have hf1 : w.frozen? ⟨g, 1, none⟩ = false := blk_frozen hg 1
  have hx2 : ∀ q, ((w.drewN q).setCell ⟨g, 1, none⟩ (.int .i64 (n + 1))).cell? (ad.add n) = some (.int .u64 x) := by
    intro q
    have hb : (ad.add n).block = ad.block := by unfold Addr.add; split <;> rfl
    exact (Fr.set (w := w.drewN q) g 1 _).cell (show (w.drewN q).cell? (ad.add n) = _ from hx1) (by rw [hb]; exact hne)
  have hs : IntKind.i64.wrap ((n : Int) + 1 - 1) = n := by rw [IntKind.wrap_i64]; omega
  have hn0 : (0 : Int) ≤ (n : Int) := by omega
  have hn1 : (n : Int) < (us.length : Int) := by omega
  have hn2 : ((n : Int)).toNat = n := by omega
  have hpos : ¬ (((us.length - n : Nat) : Int) < 1) := by omega
  have HL := Lib.hid hl
  clear hl hg hb hF hA hat
  go_enter Try.func33, Try.ntmps33
  go_wp2_with (go_at_call 38; refine HL.out.mono ?_; rintro e w1 ⟨rfl, q, rfl⟩)
  go_quiet (fail)
  go_wp2
  go_ret2
  have h1 := ((H.drewN q).put (n + 1) hn)
  have e : ((n + 1 : Nat) : Int) = (n : Int) + 1 := by omega
  rw [e] at h1
  exact ⟨rfl, h1.drewN _, Fr.drewN (((Fr.refl (· = g) w).drewN q).trans (Fr.set g 1 _)) _⟩
/-- The next handle that is not taken: how many are drawn, and it. -/
def hand (T : Int → Int → Bool) : List Int → Nat × Option (Int × Int)
  | a :: b :: l => if (a == 0 && b == 0) || T a b then ((hand T l).1 + 2, (hand T l).2) else (2, some (a, b))
  | _ => (0, none)
theorem clip_words (A : Option Addr) (n c : Nat) (w : World) (h : n ≤ c) (_hm : (n : Int) ≤ 9223372036854775807) :
    Calls Try.prog 68 #[.slice A n c] w fun e w' => e = .returned (.slice A n n) ∧ w = w' := by
  have hc : (n : Int) ≤ (c : Int) := by omega
  go_enter Try.func68, Try.ntmps68
  go_wp2
  go_ret
  exact ⟨rfl, rfl⟩
set_option maxHeartbeats 2000000 in
theorem new_calls (v : Value) (us : List Int) (w : World) (h : SlR w 1 v us.length (nums .u64 us)) (hl : us.length ≤ 1000000) :
    Calls Try.prog 32 #[v] w fun e w' => ∃ g, e = .returned (.pointer (some ⟨g, 0, none⟩)) ∧ Dr w' (fun k => w.heap.size ≤ k ∧ k < w'.heap.size) g us 0 ∧ Below w.heap.size w w' := by
  obtain ⟨A, c, rfl, hc, hn, hC⟩ := h.C (by omega)
  have hN : A = none → us = [] ∧ c = 0 := by
    intro hA
    have := hn hA
    exact ⟨List.length_eq_zero_iff.1 (by omega), this⟩
  have HC := Lib.hid hC
  have HN := Lib.hid hN
  clear hn hC hN h
  go_enter Try.func32, Try.ntmps32
  go_wp2_with (go_at_call 67; go_loud (refine (ClU.clone_words A c us _ HC.out (by omega) HN.out).mono ?_; rintro e w1 ⟨v1, rfl, hR, hB⟩; have hown := ClU.own_of_R hR; obtain ⟨A1, c1, rfl⟩ := own_slice hown))
  go_ret
  refine ⟨_, rfl, ⟨A1, c1, blk_new _ _, (SlR.of_own hown).below (below_alloc (Below.refl _ _) _), ?_, ?_, by omega, hl⟩, below_alloc hB _⟩
  · exact ⟨hB.size, by simp⟩
  · intro ad hA1
    have h1 := own_base hown _ (by rw [hA1]; rfl)
    have h2 : ad.block < w1.heap.size := by
      obtain ⟨_, h2⟩ := hown
      rcases h2 with ⟨e, _⟩ | ⟨g, cap, cur, e, hg, hh, _⟩
      · rw [hA1] at e; cases e
      · rw [hA1] at e; cases e; exact blk_lt hh
    refine ⟨by omega, h1, ?_⟩
    simp; omega
theorem infoWord : (Try.prog.info? 55).map (fun i => (i.zero, i.size, i.bytes)) = some (some (.int .u64 0), 1, 8) := by kernel_rfl
theorem append_none (A A2 : Option Addr) (n c2 : Nat) (W : World) : (Builtin.append_ #[51, 51] 51 #[.slice A n n, .slice A2 0 c2]).run Try.prog W = .ok (.slice A n n) W := by
  obtain ⟨i0, hi, hz0, hz1, hz2⟩ := info_parts infoWord
  cases A <;> cases A2 <;> simp [Builtin.append_, run_underlying Try.underlying51, sizeOf, typeInfo, hi, Builtin.lenOf, Builtin.firstCells, storeCells, loadCells, loadCellsFrom]
set_option maxHeartbeats 2000000 in
theorem more_none (F : Nat → Prop) (g n : Nat) (us : List Int) (A2 : Option Addr) (c2 : Nat) (w : World) (h : Dr w F g us n) :
    Calls Try.prog 37 #[.pointer (some ⟨g, 0, none⟩), .slice A2 0 c2] w fun e w' => e = .returned (.tuple #[]) ∧ Dr w' F g us n ∧ Fr (· = g) w w' := by
  have H := h
  obtain ⟨A, c, hg, hb, hF, hA, hn, hu⟩ := h
  have hc0 : w.cell? ⟨g, 0, none⟩ = some (.slice A us.length c) := blk_cell hg 0
  have hf0 : w.frozen? ⟨g, 0, none⟩ = false := blk_frozen hg 0
  have hcc : us.length ≤ c := by obtain ⟨_, _, _, e, h, _⟩ := hb; cases e; exact h
  have hap := append_none A A2 us.length c2
  have HG := Lib.hid hg
  have HB := Lib.hid hb
  have HA := Lib.hid hA
  clear hg hb hA
  go_enter Try.func37, Try.ntmps37
  go_wp2_with (first
    | (go_at_call 68; refine (clip_words _ _ _ _ hcc (by omega)).mono ?_; rintro e w1 ⟨rfl, rfl⟩)
    | (at_builtin; go_loud (refine Lib.wpList_append_run _ rfl (.tmp 11) (.tmp 12) _ _ rfl _ _ rfl rfl _ _ (hap _) ?_)))
  go_end0
  refine ⟨rfl, ⟨A, us.length, (blk_set HG.out 0 _).trans rfl, ?_, hF, HA.out, hn, hu⟩, Fr.set g 0 _⟩
  have hk : SlR (w.setCell ⟨g, 0, none⟩ (.slice A us.length us.length)) 1 (.slice A us.length c) us.length (nums .u64 us) := by
    refine HB.out.kept (Fr.set g 0 _).kept ?_
    intro k hk e
    subst e
    cases A with
    | none => cases hk
    | some ad => cases hk; exact (HA.out ad rfl).1 rfl
  obtain ⟨h3, A', c', e, h4, h5, h6⟩ := hk
  cases e
  exact ⟨h3, A, us.length, rfl, Nat.le_refl _, fun hA => by have := h5 hA; omega, h6⟩
theorem one_nums (k : IntKind) (xs : List Int) : ∀ u ∈ nums k xs, u.oneCell' = true := by
  intro u hu
  unfold nums at hu
  obtain ⟨x, _, rfl⟩ := List.mem_map.1 hu
  rfl
set_option maxHeartbeats 2000000 in
set_option maxRecDepth 100000 in
theorem more_some (F : Nat → Prop) (g n : Nat) (us ys : List Int) (v : Value) (w : World) (h : Dr w F g us n) (hy : SlR w 1 v ys.length (nums .u64 ys)) (hl : us.length + ys.length ≤ 1000000) (hy0 : 0 < ys.length) :
    Calls Try.prog 37 #[.pointer (some ⟨g, 0, none⟩), v] w fun e w' => e = .returned (.tuple #[]) ∧ Dr w' (fun k => F k ∨ w.heap.size ≤ k ∧ k < w'.heap.size) g (us ++ ys) n ∧ Fr (· = g) w w' := by
  have H := h
  obtain ⟨ad2, c2, rfl, hc2, _⟩ := hy.at_ 0 hy0
  obtain ⟨A, c, hg, hb, hF, hA, hn, hu⟩ := h
  obtain ⟨hyl, A', c', e2, _, _, hycell⟩ := hy
  cases e2
  have hc0 : w.cell? ⟨g, 0, none⟩ = some (.slice A us.length c) := blk_cell hg 0
  have hf0 : w.frozen? ⟨g, 0, none⟩ = false := blk_frozen hg 0
  obtain ⟨hbl, A', c', e2, hcc, hnil, hcell⟩ := hb
  cases e2
  obtain ⟨i0, hi, hz0, hz1, hz2⟩ := info_parts infoWord
  have HA := Lib.hid hA
  have HG := Lib.hid hg
  have HL := Lib.hid (show (nums .u64 ys).length = ys.length * 1 by rw [nums_length, Nat.mul_one])
  have hb1 : us.length + ys.length ≤ maxLen := by unfold maxLen; omega
  have HB1 := Lib.hid hb1
  clear hb1
  have hb2 : (us.length + ys.length) * 8 ≤ 140737488355328 := by omega
  have hb3 : us.length < us.length + ys.length := by omega
  have HC := Lib.hid hcell
  have HY := Lib.hid (hycell ad2 rfl)
  have HN := Lib.hid hnil
  have hgl := blk_lt hg
  have HBL := Lib.hid hbl
  have HI2 := Lib.hid hz2
  clear hg hA hcell hycell hnil hbl hyl hz2
  go_enter Try.func37, Try.ntmps37
  go_wp2_with (first
    | (go_at_call 68; refine (clip_words _ _ _ _ hcc (by omega)).mono ?_; rintro e w1 ⟨rfl, rfl⟩)
    | (at_builtin; go_loud (refine wpList_append_grows _ rfl (.tmp 11) (.tmp 12) 51 rfl 55 i0 (.int .u64 0) 1 8 Try.underlying51 hi hz0 hz1 HI2.out rfl (by decide) A us.length us.length (nums .u64 us) rfl (fun hA => by have := HN.out hA; omega) HBL.out (fun b hb j u hu => HC.out b hb j u hu) ad2 ys.length c2 (nums .u64 ys) rfl HL.out (fun j u hu => HY.out j u hu) (one_nums _ _) hb3 HB1.out hb2 ?_; intro v' w2 hown hgr; have hF2 : Fr (fun _ => False) w w2 := ⟨hgr.os, hgr.tape, hgr.output, hgr.size, fun k hk _ => hgr.block k hk (by simp)⟩; have hg2 := hF2.blk HG.out (fun h => h); have hf2 := blk_frozen hg2 0; have hc2' := blk_cell hg2 0; obtain ⟨A3, c3, rfl⟩ := own_slice hown; have HO := Lib.hid hown; have HF2 := Lib.hid hF2; have HG2 := Lib.hid hg2; clear hown hF2 hg2 hgr)))
  go_end0
  have hsz : ∀ (u : Value), (w2.setCell ⟨g, 0, none⟩ u).heap.size = w2.heap.size := fun u => by simp [World.setCell]
  have hwl : w.heap.size ≤ w2.heap.size := HF2.out.size
  have hlt : ∀ ad, A3 = some ad → w.heap.size ≤ ad.block ∧ ad.block < w2.heap.size := by
    intro ad hA3
    refine ⟨own_base HO.out _ (by rw [hA3]; rfl), ?_⟩
    obtain ⟨_, h2⟩ := HO.out
    rcases h2 with ⟨e, _⟩ | ⟨g', cap, cur, e, hg, hh, _⟩
    · rw [hA3] at e; cases e
    · rw [hA3] at e; cases e; exact blk_lt hh
  have hFr : Fr (· = g) w (w2.setCell ⟨g, 0, none⟩ (.slice A3 (us.length + ys.length) c3)) := (HF2.out.mono (fun _ h => h.elim)).trans (Fr.set g 0 _)
  refine ⟨rfl, ⟨A3, c3, ?_, ?_, .inl hF, ?_, ?_, ?_⟩, hFr⟩
  · rw [List.length_append]; exact (blk_set HG2.out 0 _).trans rfl
  · rw [List.length_append, nums_append]
    refine SlR.kept (SlR.of_own HO.out) (Fr.set g 0 _).kept ?_
    intro k hk e
    subst e
    cases A3 with
    | none => cases hk
    | some ad => cases hk; have := (hlt ad rfl).1; omega
  · intro ad hA3
    have := hlt ad hA3
    refine ⟨by omega, .inr ⟨this.1, ?_⟩⟩
    rw [hsz]; exact this.2
  · rw [List.length_append]; omega
  · rw [List.length_append]; omega
end Go.Proofs.Ytcpcnnpdbognlaa.Drw
