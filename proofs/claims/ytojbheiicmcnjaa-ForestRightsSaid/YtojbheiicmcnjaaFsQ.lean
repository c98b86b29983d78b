/- ForestRights: what it calls. -/
import Derived.Test.YtojbheiicmcnjaaFsP
namespace Go.Proofs.Ytojbheiicmcnjaa.Fst
open Go.RowKit Go Go.Proofs.YtojbheiicmcnjaaW.PrintWords Go.Proofs.YtojbheiicmcnjaaW.PrintMore Go.Proofs.YtojbheiicmcnjaaW.PrintLast Go.Proofs.Ytojbheiicmcnjaa.Bts Go.Proofs.Ytojbheiicmcnjaa.Fra Go.Maps
section
variable {L : List E} {next : Int} {g b n : Nat}
theorem FS.up {w : World} (h : FS w g b n L next) {n' : Nat} (hn : n ≤ n') : FS w g b n' L next := ⟨h.obj, let ⟨D, hm, hr⟩ := h.map; ⟨D, hm.mono hn, hr⟩, h.n0⟩
def DPost (L : List E) (g b n : Nat) (next hy ny too want : Int) (p : E) (w : World) (e : Ending) (w' : World) : Prop := ∃ c L' next', e = .returned (.int .i64 c) ∧ FS w' g b (n + 1 + 1) L' next' ∧ Fl g b w w' ∧ ((L' = L ∧ next' = next) ∨ (L' = L ++ [⟨0, ny, p.obj, want, too, 0, hy, next⟩] ∧ next' = next + 1 ∧ att p.rt want = (want, 0)))
theorem att_cases (s t : Int) : (att s t = (t, 0) ∧ rightU t = true) ∨ ∃ r c, att s t = (r, c) ∧ (c != 0) = true := by
  unfold att
  split
  · rename_i h1
    split
    · exact .inl ⟨rfl, h1.2⟩
    · exact .inr ⟨0, 6, rfl, by decide⟩
  · exact .inr ⟨0, 1, rfl, by decide⟩
theorem del_any (hy who ny too want : Int) (w : World) (h : FS w g b n L next) (hhy : U64 hy) (hny : U64 ny) (p : E) (hf : fnd L 0 hy who = (p, 0)) (hz : ¬ ny = 0) (ht : find L 0 ny = none) (hnx : next ≤ 1000000) (hn : n ≤ 1000000) :
    Calls Try.prog 12 #[.pointer (some ⟨g, 0, none⟩), H2 0 hy, .int .u32 who, H2 0 ny, .int .u32 too, .int .u8 want] w (DPost L g b n next hy ny too want p w) := by
  rcases att_cases p.rt want with ⟨h1, h2⟩ | ⟨r, c, h1, h2⟩
  · refine (del_ok hy who ny too want w h hhy hny p hf h1 hz ht h2 hnx hn).mono ?_
    rintro e w' ⟨rfl, hF, hf2⟩
    exact ⟨_, _, _, rfl, hF, hf2, .inr ⟨rfl, rfl, h1⟩⟩
  · refine (del_att hy who ny too want w h hhy hny p r c hf h1 h2).mono ?_
    rintro e w' ⟨rfl, hb⟩
    exact ⟨_, _, _, rfl, (h.below hb).up (by omega), Fr.of_new hb, .inl ⟨rfl, rfl⟩⟩
theorem find_self {w : World} (h : FS w g b n L next) {e : E} (he : e ∈ L) : find L e.hi e.lo = some e := by
  cases hf : find L e.hi e.lo with
  | none => exact absurd ⟨rfl, rfl⟩ (find_none hf e he)
  | some f =>
    obtain ⟨h1, h2, h3⟩ := find_some hf
    rw [h.keys h1 he h2 h3]
theorem fnd_self {w : World} (h : FS w g b n L next) {e : E} (he : e ∈ L) : fnd L e.hi e.lo e.ow = (e, 0) := fnd_some (find_self h he) rfl
theorem count_in (e : E) (q : Nat) (x : Int) (r : Bool) (W : World) (hq : W.heap[q]? = some (.cells #[.int .i64 x] 3 (0, 0))) (hr : (e.obj == x) = r) :
    Calls Try.prog 30 (#[e.v] ++ #[.pointer (some ⟨q, 0, none⟩)]) W fun e' W' => e' = .returned (.bool r) ∧ Below W.heap.size W W' := by
  have hq0 := blk_cell (blk_alloc hq (EC e)) 0
  clear hq
  cases r
  all_goals (
    go_enter Try.func30, Try.ntmps30
    go_wp2
    go_ret
    exact ⟨by simp [hr], below_alloc (Below.refl _ _) _⟩)
theorem len_eqI (xs : List E) (c : Nat) (A : Option Addr) : True := trivial
set_option maxHeartbeats 1000000 in
theorem count_calls (x : Int) (w : World) (h : FS w g b n L next) (hL : L.length ≤ 100000) (hnx : next ≤ 1000000) :
    Calls Try.prog 16 #[.pointer (some ⟨g, 0, none⟩), .int .i64 x] w fun e w' => e = .returned (.int .i64 ((L.filter fun e => e.obj == x).length : Nat)) ∧ Below w.heap.size w w' := by
  have hb := below_alloc (Below.refl w.heap.size w) (.cells #[.int .i64 x] 3)
  have HK := Lib.hid (blk_new w (.cells #[.int .i64 x] 3))
  have HF := Lib.hid (h.below hb)
  have HB := Lib.hid hb
  have HL := Lib.hid (And.intro hL hnx)
  obtain ⟨m, hm⟩ : ∃ m, (L.filter fun e => e.obj == x).length = m := ⟨_, rfl⟩
  rw [hm]
  have HM := Lib.hid hm
  clear h hb hL hnx hm
  go_enter Try.func16, Try.ntmps16
  go_wp2_with (go_at_call 10; go_loud (refine (list_gen 30 #[.pointer (some ⟨w.heap.size, 0, none⟩)] (fun e => e.obj == x) _ (enters_of Try.func30 (by kernel_rfl) rfl) (fun e W he hW => count_in e w.heap.size x _ W (blk_below HK.out hW) rfl) HF.out HL.out.1 HL.out.2).mono ?_; rintro e w2 ⟨v2, rfl, hE2, hb2⟩; obtain ⟨A2, c2, e2, hc2⟩ := hE2.slice; rw [HM.out] at e2; subst e2; have HB2 := Lib.hid (HB.out.trans (hb2.mono HB.out.size)); clear hE2 hb2))
  go_ret
  exact ⟨rfl, HB2.out⟩
theorem yes_R1 : Yes 11 := by
  intro e W
  go_enter Try.func11, Try.ntmps11
  go_wp2
  go_ret
  exact ⟨rfl, below_alloc (Below.refl _ _) _⟩
theorem yes_R2 : Yes 13 := by
  intro e W
  go_enter Try.func13, Try.ntmps13
  go_wp2
  go_ret
  exact ⟨rfl, below_alloc (Below.refl _ _) _⟩
/-- Is one the other's parent? -/
theorem par_in (e f : E) (q : Nat) (r : Bool) (W : World) (hq : W.heap[q]? = some (.cells #[.int .u64 f.hi, .int .u64 f.lo, .int .i64 f.obj, .int .u8 f.rt, .int .u32 f.ow, .int .u64 f.ph, .int .u64 f.pl, .int .i64 f.ord] 35 (0, 0))) (hr : (e.hi == f.ph && e.lo == f.pl) = r) :
    Calls Try.prog 15 (#[e.v] ++ #[.pointer (some ⟨q, 0, none⟩)]) W fun e' W' => e' = .returned (.bool r) ∧ Below W.heap.size W W' := by
  have hk := blk_alloc hq (EC e)
  have q5 := blk_cell hk 5
  have q6 := blk_cell hk 6
  have HR := Lib.hid hr
  clear hq hk hr
  go_enter Try.func15, Try.ntmps15
  go_wp2
  all_goals (
    go_ret
    exact ⟨by rw [← HR.out]; simp [*], below_alloc (Below.refl _ _) _⟩)
/-- One of a row of seven cells. -/
abbrev A7 := (Int) × (Int) × (Int) × (Int) × (Int) × (Int) × (Int)
abbrev kA : Kd A7 := Kd.pair (Kd.int .u8) (Kd.pair (Kd.int .i64) (Kd.pair (Kd.int .i64) (Kd.pair (Kd.int .u32) (Kd.pair (Kd.int .u32) (Kd.pair (Kd.int .u8) (Kd.int .i64))))))
theorem rowA_at {W : World} {A : Option Addr} {xs : List A7} (h : kA.C W A xs.length xs) (i : Nat) {k x y u v r o : Int} (hx : xs[i]? = some (k, x, y, u, v, r, o)) :
    ∃ ad, A = some ad ∧ W.cell? (ad.add (i * 7)) = some (.int .u8 k) ∧ W.cell? ⟨(ad.add (i * 7)).block, (ad.add (i * 7)).off + 1, none⟩ = some (.int .i64 x) ∧ W.cell? ⟨(ad.add (i * 7)).block, (ad.add (i * 7)).off + 2, none⟩ = some (.int .i64 y) ∧ W.cell? ⟨(ad.add (i * 7)).block, (ad.add (i * 7)).off + 3, none⟩ = some (.int .u32 u) ∧ W.cell? ⟨(ad.add (i * 7)).block, (ad.add (i * 7)).off + 4, none⟩ = some (.int .u32 v) ∧ W.cell? ⟨(ad.add (i * 7)).block, (ad.add (i * 7)).off + 5, none⟩ = some (.int .u8 r) ∧ W.cell? ⟨(ad.add (i * 7)).block, (ad.add (i * 7)).off + 6, none⟩ = some (.int .i64 o) := by
  have hi := (List.getElem?_eq_some_iff.1 hx).1
  obtain ⟨ad, c, e2, _, hK, hc⟩ := Kd.C_get h (0, 0, 0, 0, 0, 0, 0) (i : Int) (by omega) (by omega)
  rw [Int.toNat_natCast] at hK hc
  have hg : xs.getD i (0, 0, 0, 0, 0, 0, 0) = (k, x, y, u, v, r, o) := by
    show xs[i]?.getD _ = _
    rw [hx]
    rfl
  rw [hg] at hK
  obtain ⟨_, _, rfl, rfl, _, _, rfl, rfl, _, _, rfl, rfl, _, _, rfl, rfl, _, _, rfl, rfl, _, _, rfl, rfl, rfl⟩ := hK
  have hc : ∀ j z, [Value.int .u8 k, Value.int .i64 x, Value.int .i64 y, Value.int .u32 u, Value.int .u32 v, Value.int .u8 r, Value.int .i64 o][j]? = some z → W.cell? (ad.add (i * 7 + j)) = some z := hc
  exact ⟨ad, e2, hc 0 _ rfl, by rw [← add_field _ _ 1 (by omega)]; exact hc 1 _ rfl, by rw [← add_field _ _ 2 (by omega)]; exact hc 2 _ rfl, by rw [← add_field _ _ 3 (by omega)]; exact hc 3 _ rfl, by rw [← add_field _ _ 4 (by omega)]; exact hc 4 _ rfl, by rw [← add_field _ _ 5 (by omega)]; exact hc 5 _ rfl, by rw [← add_field _ _ 6 (by omega)]; exact hc 6 _ rfl⟩
theorem mod_len (x : Int) (n : Nat) (hn : 0 < n) (hb : n ≤ 100000) : ∃ k : Nat, (IntKind.u64.wrap x).tmod (n : Int) = k ∧ k < n ∧ wrap64 (k : Int) = k := by
  have h1 : 0 ≤ IntKind.u64.wrap x := (by rw [IntKind.wrap_u64]; omega)
  have h2 : 0 ≤ (IntKind.u64.wrap x).tmod (n : Int) := Int.tmod_nonneg _ h1
  have h3 : (IntKind.u64.wrap x).tmod (n : Int) < (n : Int) := Int.tmod_lt_of_pos _ (by omega)
  obtain ⟨m, hm⟩ : ∃ m, (IntKind.u64.wrap x).tmod (n : Int) = m := ⟨_, rfl⟩
  rw [hm] at h2 h3 ⊢
  refine ⟨m.toNat, by omega, by omega, ?_⟩
  unfold wrap64
  omega
end
end Go.Proofs.Ytojbheiicmcnjaa.Fst
