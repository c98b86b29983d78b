/- forest: handles, rights, New, Taken, Find. -/
import Derived.Test.YtojbheiicmcnjaaFsB
import Derived.Laws.BitsLemmas
import Derived.KernelRfl
namespace Go.Proofs.Ytojbheiicmcnjaa.Fst
open Go.RowKit Go Go.Proofs.YtojbheiicmcnjaaW.PrintWords Go.Proofs.YtojbheiicmcnjaaW.PrintMore Go.Proofs.YtojbheiicmcnjaaW.PrintLast Go.Proofs.Ytojbheiicmcnjaa.Bts Go.Proofs.Ytojbheiicmcnjaa.Fra Go.Maps
theorem grown_of_below {w w' : World} (h : Below w.heap.size w w') : w.grownBy w' none := ⟨h.os, h.tape, h.output, h.size, fun i hi _ => h.block i hi⟩
theorem find_some {L : List E} {a b : Int} {e : E} (h : find L a b = some e) : e ∈ L ∧ e.hi = a ∧ e.lo = b := by
  unfold find at h
  have h2 := List.find?_some h
  exact ⟨List.mem_of_find?_eq_some h, by simpa using h2⟩
theorem find_none {L : List E} {a b : Int} (h : find L a b = none) : ∀ e ∈ L, ¬ (e.hi = a ∧ e.lo = b) := by
  unfold find at h
  intro e he hc
  exact absurd (decide_eq_true hc) (List.find?_eq_none.1 h e he)
theorem new1 (w : World) (o1 o2 : Obj) : ((w.alloc o1).alloc o2).heap[w.heap.size + 1]? = some o2 := by
  have h := blk_new (w.alloc o1) o2
  have e : (w.alloc o1).heap.size = w.heap.size + 1 := by simp
  rwa [e] at h
abbrev H2 (a b : Int) : Value := .agg #[.int .u64 a, .int .u64 b]
/-- A number's bounds. -/
abbrev U64 (a : Int) : Prop := 0 ≤ a ∧ a ≤ 18446744073709551615
theorem U64.wf {a : Int} (h : U64 a) : (Lit.int .u64 a).wf = true := u64_wf h.1 h.2
section
variable {D : DM} {L : List E} {next : Int} {w w' : World} {g b n : Nat}
theorem Rep.at_find (h : Rep D L next) {x y : Int} (hx : U64 x) (hy : U64 y) (z : DM) : D.atKey (kl x y) z = (match find L x y with | some e => .held e | none => z) ∧ has D (kl x y) = (find L x y).isSome := by
  cases hf : find L x y with
  | some e =>
    obtain ⟨he, rfl, rfl⟩ := find_some hf
    exact ⟨h.at_ e he z, h.has_ e he⟩
  | none =>
    have hn : has D (kl x y) = false := by
      cases hh : has D (kl x y)
      · rfl
      · obtain ⟨e, he, hk⟩ := h.only _ hh
        have hw := h.wf e he
        have := kl_inj hx.wf hy.wf (u64_wf hw.hi0 hw.hi1) (u64_wf hw.lo0 hw.lo1) hk
        exact absurd ⟨this.1.symm, this.2.symm⟩ (find_none hf e he)
    exact ⟨atKey_of_not_has hn z, hn⟩
theorem zeroE (w : World) : (zeroValue 35).run Try.prog w = .ok e0.v w := by kernel_rfl
theorem FS.look (h : FS w g b n L next) {x y : Int} (hx : U64 x) (hy : U64 y) :
    (Instr.lookup 62 (.map (some b)) (H2 x y) true).run Try.prog w = .ok (.tuple #[((find L x y).getD e0).v, .bool (find L x y).isSome]) w ∧
      (Instr.lookup 62 (.map (some b)) (H2 x y) false).run Try.prog w = .ok ((find L x y).getD e0).v w := by
  obtain ⟨D, hm, hr⟩ := h.map
  obtain ⟨v, ps, hrun, hv⟩ := hm.look_ok law Try.underlying62 (zeroE w) (zd := .held e0) (zp := []) rfl (kl_of hx.wf hy.wf)
  obtain ⟨v', ps', hrun', hv'⟩ := hm.lookup law Try.underlying62 (zeroE w) (zd := .held e0) (zp := []) rfl (kl_of hx.wf hy.wf)
  have ha := (hr.at_find hx hy (.held e0)).1
  have hh := (hr.at_find hx hy (.held e0)).2
  have e1 : D.atKey (kl x y) (.held e0) = .held ((find L x y).getD e0) := by rw [ha]; cases find L x y <;> rfl
  rw [e1] at hv hv'
  rw [hrun, hrun', hh, entElem_inv hv, entElem_inv hv']
  exact ⟨rfl, rfl⟩
theorem FS.below (h : FS w g b n L next) (hb : Below w.heap.size w w') : FS w' g b n L next :=
  ⟨blk_below h.obj hb, let ⟨D, hm, hr⟩ := h.map; ⟨D, hm.kept (grown_of_below hb) (by simp), hr⟩, h.n0⟩
theorem FS.isMapBlk (h : FS w g b n L next) : ∃ es c, w.heap[b]? = some (.map es c) := by
  obtain ⟨D, ⟨es, c, hb, _⟩, _⟩ := h.map
  exact ⟨es, c, hb⟩
theorem FS.ne (h : FS w g b n L next) : b ≠ g := fun e => by
  obtain ⟨es, c, hb⟩ := h.isMapBlk
  rw [e, h.obj] at hb
  cases hb
theorem FS.lt (h : FS w g b n L next) : b < w.heap.size ∧ g < w.heap.size := by
  obtain ⟨es, c, hb⟩ := h.isMapBlk
  exact ⟨(Array.getElem?_eq_some_iff.1 hb).1, blk_lt h.obj⟩
theorem FS.fr {S : Nat → Prop} (h : FS w g b n L next) (hf : Fr S w w') (hg : ¬ S g) (hb : ¬ S b) : FS w' g b n L next :=
  ⟨hf.blk h.obj hg, by
    obtain ⟨D, hm, hr⟩ := h.map
    obtain ⟨es, c, hb', hrest⟩ := hm
    exact ⟨D, ⟨es, c, (hf.block b h.lt.1 hb).trans hb', hrest⟩, hr⟩, h.n0⟩
end
/-- What a call on a forest may write. -/
abbrev Fl (g b : Nat) (w w' : World) : Prop := Fr (fun j => j = g ∨ j = b) w w'
theorem new_calls (w : World) : Calls Try.prog 7 #[] w fun e w' => ∃ g b, e = .returned (.pointer (some ⟨g, 0, none⟩)) ∧ FS w' g b 0 [] 0 ∧ w.heap.size ≤ g ∧ w.heap.size ≤ b ∧ Below w.heap.size w w' := by
  have hmm := @run_makeMap Try.prog
  go_enter Try.func7, Try.ntmps7
  go_wp2
  go_ret
  refine ⟨w.heap.size + 1, w.heap.size, rfl, ⟨?_, ⟨_, (World.ownsMap_made w _ _ _).alloc _, Rep.nil⟩, Int.le_refl _⟩, by omega, Nat.le_refl _, below_alloc (below_alloc (Below.refl _ _) _) _⟩
  exact new1 w _ _
theorem handle_calls (n : Nat) (w : World) (hn : n ≤ 1000000) : Calls Try.prog 9 #[.int .i64 n] w fun e w' => e = .returned (H2 0 n) ∧ Below w.heap.size w w' := by
  have hw : IntKind.u64.wrap (n : Int) = n := by rw [IntKind.wrap_u64]; omega
  have hk := blk_new w (.cells #[.int .u64 0, .int .u64 0] 30)
  have f0 := blk_frozen hk 0
  have f1 := blk_frozen hk 1
  have HK := Lib.hid hk
  clear hk
  go_enter Try.func9, Try.ntmps9
  go_wp2
  refine bodyPost_ret (results_cell_row rfl _ _ w.heap.size 30 #[.int .u64 0, .int .u64 n] (0, 0) _ rfl (blk_new w _) Try.underlying30 rfl (by kernel_rfl)) rfl ?_
  exact ⟨rfl, below_alloc (Below.refl _ _) _⟩
def rightU (s : Int) : Bool := Go.bits .andNot .u8 s 31 == 0
def hasU (s t : Int) : Bool := Go.bits .and .u8 s t == t
theorem right_calls (s : Int) (w : World) : Calls Try.prog 26 #[.int .u8 s] w fun e w' => e = .returned (.bool (rightU s)) ∧ w = w' := by
  go_enter Try.func26, Try.ntmps26
  go_wp2
  go_ret
  exact ⟨rfl, rfl⟩
theorem has_calls (s t : Int) (w : World) : Calls Try.prog 14 #[.int .u8 s, .int .u8 t] w fun e w' => e = .returned (.bool (hasU s t)) ∧ w = w' := by
  go_enter Try.func14, Try.ntmps14
  go_wp2
  go_ret
  exact ⟨rfl, rfl⟩
theorem right_is (s : Int) (p : Bool) (h : rightU s = p) (w : World) : Calls Try.prog 26 #[.int .u8 s] w fun e w' => e = .returned (.bool p) ∧ w = w' := by
  rw [← h]
  exact right_calls s w
theorem has_is (s t : Int) (p : Bool) (h : hasU s t = p) (w : World) : Calls Try.prog 14 #[.int .u8 s, .int .u8 t] w fun e w' => e = .returned (.bool p) ∧ w = w' := by
  rw [← h]
  exact has_calls s t w
/-- What is given, and what is told. -/
def att (s t : Int) : Int × Int := if rightU s = true ∧ rightU t = true then if hasU s 8 = true ∧ hasU s t = true then (t, 0) else (0, 6) else (0, 1)
theorem att_calls (s t : Int) (w : World) : Calls Try.prog 29 #[.int .u8 s, .int .u8 t] w fun e w' => e = .returned (.tuple #[.int .u8 (att s t).1, .int .i64 (att s t).2]) ∧ w = w' := by
  obtain ⟨p1, h1⟩ : ∃ p, rightU s = p := ⟨_, rfl⟩
  obtain ⟨p2, h2⟩ : ∃ p, rightU t = p := ⟨_, rfl⟩
  obtain ⟨p3, h3⟩ : ∃ p, hasU s 8 = p := ⟨_, rfl⟩
  obtain ⟨p4, h4⟩ : ∃ p, hasU s t = p := ⟨_, rfl⟩
  unfold att
  rw [h1, h2, h3, h4]
  have HH := Lib.hid (And.intro (And.intro h1 h2) (And.intro h3 h4))
  clear h1 h2 h3 h4
  cases p1 <;> cases p2 <;> cases p3 <;> cases p4
  all_goals (
    go_enter Try.func29, Try.ntmps29
    go_wp2_with (first
      | (go_at_call 14; first | ((with_reducible refine (has_is s 8 _ HH.out.2.1 _).mono ?_); rintro e w' ⟨rfl, rfl⟩) | ((with_reducible refine (has_is s t _ HH.out.2.2 _).mono ?_); rintro e w' ⟨rfl, rfl⟩))
      | (go_at_call 26; first | ((with_reducible refine (right_is s _ HH.out.1.1 _).mono ?_); rintro e w' ⟨rfl, rfl⟩) | ((with_reducible refine (right_is t _ HH.out.1.2 _).mono ?_); rintro e w' ⟨rfl, rfl⟩)))
    go_ret2
    exact ⟨rfl, rfl⟩)
end Go.Proofs.Ytojbheiicmcnjaa.Fst
