/- ledger: New and Has, as contracts. -/
import Derived.Test.YtaoacibahdbdkaaLedO
namespace Go.Proofs.Ytaoacibahdbdkaa.Led
open Go.RowKit Go Go.Proofs.YtaoacibahdbdkaaW.PrintWords Go.Proofs.YtaoacibahdbdkaaW.PrintMore Go.Proofs.YtaoacibahdbdkaaW.PrintLast Go.Proofs.Ytaoacibahdbdkaa.Bts Go.Proofs.Ytaoacibahdbdkaa.Fra Go.Maps
section
variable {B g b n : Nat} {most : Int × Int × Int} {keys : List Int} {D : DM} {blk : Int → Nat} {f : Int → Int × Int × Int}
theorem Lt.no {w : World} {j : Nat} {cs : Array Value} {T : TypeId} (h : w.heap[j]? = some (.cells cs T (0, 0))) (hT : T ≠ 174) : ¬ Lt B w j := by
  rintro ⟨_, ⟨es, c, hm⟩ | ⟨cs', hm⟩⟩
  · rw [h] at hm; cases hm
  · rw [h] at hm
    injection (Option.some.inj hm) with _ h2
    exact hT h2
theorem Lt.noI {w : World} {j : Nat} {a : Option Nat} {s : Nat} {seen : Array Nat} {c : Nat} (h : w.heap[j]? = some (.mapIter a s seen c)) : ¬ Lt B w j := by
  rintro ⟨_, ⟨es, c, hm⟩ | ⟨cs', hm⟩⟩
  · rw [h] at hm; cases hm
  · rw [h] at hm; cases hm
theorem fr3 (w : World) (g : Nat) (x y z : Value) : Fr (· = g) w (((w.setCell ⟨g, 0, none⟩ x).setCell ⟨g, 1, none⟩ y).setCell ⟨g, 2, none⟩ z) :=
  Fr.put (S := fun k => k = g) (Fr.put (S := fun k => k = g) (Fr.put (S := fun k => k = g) (Fr.refl (fun k => k = g) w) (p := ⟨g, 0, none⟩) (.inl rfl) x) (p := ⟨g, 1, none⟩) (.inl rfl) y) (p := ⟨g, 2, none⟩) (.inl rfl) z
set_option maxHeartbeats 1000000 in
set_option maxRecDepth 100000 in
theorem has_calls (k : Int) (w : World) (h : LX B w g n most keys f) (h0 : 0 ≤ k) (h1 : k ≤ 4294967295) (hkk : k ∈ keys) (hB : B ≤ w.heap.size) (hn : n < maxLen) :
    Calls Try.prog 26 #[.pointer (some ⟨g, 0, none⟩), .int .u32 k] w fun e w' => e = .returned (bill (f k).1 (f k).2.1 (f k).2.2) ∧ (∃ a, LA B w' g (n + 1) most keys f k a) ∧ Fl B w w' := by
  obtain ⟨x, y, z, hx⟩ : ∃ x y z, f k = (x, y, z) := ⟨_, _, _, rfl⟩
  rw [hx]
  have HX := Lib.hid hx
  have H := Lib.hid h
  have HNN := Lib.hid hn
  have HKB := Lib.hid hB
  clear h hn hB hx
  go_enter Try.func26, Try.ntmps26
  go_wp2_with (first
    | (go_at_call 63; go_loud (refine (of_calls k _ (H.out.below (below_alloc (Below.refl _ _) _)) h0 h1 hkk (Nat.le_trans HKB.out (by simp)) HNN.out).mono ?_; rintro e w2 ⟨a, rfl, hA, hF⟩; have hacc := hA.acc; rw [HX.out] at hacc; have HAC := Lib.hid hacc; have HA := Lib.hid hA; have HF := Lib.hid hF; have HR2 := Lib.hid (hF.blk (blk_new w _) (Lt.no (blk_new w _) (by decide))); clear hacc hA hF))
    | (go_at_call 65; go_loud (refine (bill_calls a _ _ _ _ HAC.out).mono ?_; rintro e w3 ⟨rfl, hB3⟩; have HB3 := Lib.hid hB3; have hr3 := blk_below HR2.out hB3; have HR3 := Lib.hid hr3; have r0 : w3.cell? ⟨w.heap.size, 0, none⟩ = some (.int .i64 0) := blk_cell hr3 0; have r1 : w3.cell? ⟨w.heap.size, 1, none⟩ = some (.int .i64 0) := blk_cell hr3 1; have r2 : w3.cell? ⟨w.heap.size, 2, none⟩ = some (.int .i64 0) := blk_cell hr3 2; have f0 := blk_frozen hr3 0; have f1 := blk_frozen hr3 1; have f2 := blk_frozen hr3 2; clear hB3 hr3)))
  refine bodyPost_ret (results_cell_row rfl _ _ w.heap.size 23 #[.int .i64 x, .int .i64 y, .int .i64 z] (0, 0) _ rfl (ret3 HR3.out _ _ _) Try.underlying23 rfl (by kernel_rfl)) rfl ?_
  have hFr : Fr (· = w.heap.size) w3 (((w3.setCell ⟨w.heap.size, 0, none⟩ (.int .i64 x)).setCell ⟨w.heap.size, 1, none⟩ (.int .i64 y)).setCell ⟨w.heap.size, 2, none⟩ (.int .i64 z)) := fr3 w3 w.heap.size _ _ _
  have hL3 := HA.out.below HB3.out
  refine ⟨rfl, ⟨a, LA.kept hL3 hFr (fun j hj e => ?_)⟩, ?_⟩
  · subst e
    rcases hj with hj | rfl
    · exact Lt.no HR3.out (by decide) hj
    · obtain ⟨b', hb'⟩ := hL3.lx.obj
      rw [HR3.out] at hb'
      injection (Option.some.inj hb') with _ h2
      exact absurd h2 (by decide)
  · exact Fr.then_ (Fl.trans (Fr.of_new (below_alloc (Below.refl _ _) _)) (Fr.more HF.out HB3.out)) hFr (fun j e => .inr (by omega))
end
end Go.Proofs.Ytaoacibahdbdkaa.Led
