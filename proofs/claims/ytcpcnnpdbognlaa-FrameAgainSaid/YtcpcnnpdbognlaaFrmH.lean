/- frame: what the law FrameFeeds holds: a reader, the frames that came, the pieces. -/
import Derived.Test.YtcpcnnpdbognlaaFrmS
namespace Go.Proofs.Ytcpcnnpdbognlaa.Frm
open Go.RowKit Go Go.Proofs.YtcpcnnpdbognlaaW.PrintWords Go.Proofs.YtcpcnnpdbognlaaW.PrintMore Go.Proofs.YtcpcnnpdbognlaaW.PrintLast Go.Proofs.Ytcpcnnpdbognlaa.Bts Go.Proofs.Ytcpcnnpdbognlaa.Fra
/-- A reader at g, with bytes left in the row v'; the frames in v6; the pieces in pv. All their blocks are of F. -/
structure Held (F : Nat → Prop) (g : Nat) (done : List (List Int)) (rest : List Int) (f : Int) (ps : List Int) (W wr : World) (v' v6 pv : Value) : Prop where
  fd : Fd wr g v' rest f
  fg : F g
  fv : ∀ k, v'.ownBlock = some k → F k
  got : kF.R 36 wr W.heap.size (fun k => F k ∧ k ≠ g ∧ some k ≠ v'.ownBlock ∧ some k ≠ pv.ownBlock) v6 done
  ps : (Kd.int .u16).R 42 wr W.heap.size (fun k => F k ∧ k ≠ g ∧ some k ≠ v'.ownBlock) pv ps
  below : Below W.heap.size W wr
  hF : ∀ k, F k → W.heap.size ≤ k
section
variable {F G : Nat → Prop} {g : Nat} {done : List (List Int)} {rest : List Int} {f : Int} {ps : List Int} {W wr w2 : World} {v' v6 pv : Value}
theorem Fd.move (h : Fd wr g v' rest f) (hm : ∀ k, k = g ∨ v'.ownBlock = some k → k < wr.heap.size → w2.heap[k]? = wr.heap[k]?) : Fd w2 g v' rest f := by
  obtain ⟨h1, h2, h3⟩ := h
  exact ⟨(hm g (.inl rfl) (blk_lt h1)).trans h1, own_move h2 (fun k hk => hm k (.inr hk) (own_lt h2 k hk)), h3⟩
theorem Held.move (h : Held F g done rest f ps W wr v' v6 pv) (hb : Below W.heap.size W w2) (hm : ∀ k, F k → k < wr.heap.size → w2.heap[k]? = wr.heap[k]?) : Held F g done rest f ps W w2 v' v6 pv :=
  ⟨h.fd.move (fun k hk hlt => hk.elim (fun e => hm k (e ▸ h.fg) hlt) (fun e => hm k (h.fv k e) hlt)), h.fg, h.fv, Kd.R_step h.got (fun k hk hlt => hm k hk.1 hlt), Kd.R_step h.ps (fun k hk hlt => hm k hk.1 hlt), hb, h.hF⟩
theorem Held.grow (h : Held F g done rest f ps W wr v' v6 pv) (hb : Below wr.heap.size wr w2) : Held F g done rest f ps W w2 v' v6 pv := h.move (below_step h.below hb) (fun k _ hlt => hb.block k hlt)
theorem Held.mono (h : Held F g done rest f ps W wr v' v6 pv) (hm : ∀ k, F k → k < wr.heap.size → G k) (hG : ∀ k, G k → W.heap.size ≤ k) : Held G g done rest f ps W wr v' v6 pv :=
  ⟨h.fd, hm g h.fg (blk_lt h.fd.1), fun k hk => hm k (h.fv k hk) (own_lt h.fd.2.1 k hk), Kd.R_mono (Kd.R_bound h.got) (fun k hk => ⟨hm k hk.1.1 hk.2.2.1, hk.1.2⟩), Kd.R_mono (Kd.R_bound h.ps) (fun k hk => ⟨hm k hk.1.1 hk.2.2.1, hk.1.2⟩), h.below, hG⟩
theorem Held.tight (h : Held F g done rest f ps W wr v' v6 pv) : Held (fun k => W.heap.size ≤ k ∧ k < wr.heap.size) g done rest f ps W wr v' v6 pv := h.mono (fun k hk hlt => ⟨h.hF k hk, hlt⟩) (fun _ hk => hk.1)
/-- Behind a Feed: the reader has others left; the frames that came now lie in new blocks. -/
theorem Held.feed {zs : List Int} {w1 : World} {e : Ending} (h : Held F g done rest f ps W w1 v' v6 pv) (hp : FeedPost g v' zs w1 e w2) :
    ∃ v'' vo f', e = .returned (.tuple #[vo, .int .i64 f']) ∧ f' = (if (fr zs).2.2 then 12 else 0) ∧ Held (fun k => F k ∨ w1.heap.size ≤ k) g done (fr zs).2.1 f' ps W w2 v'' v6 pv ∧
      kF.R 36 w2 W.heap.size (fun k => w1.heap.size ≤ k ∧ k < w2.heap.size ∧ some k ≠ v''.ownBlock) vo (fr zs).1 ∧ Fr F w1 w2 := by
  obtain ⟨v'', vo, f', he, hf, hd, hv, hr, hF⟩ := hp
  have hs := hF.size
  have hw := h.below.size
  refine ⟨v'', vo, f', he, hf, ⟨hd, .inl h.fg, fun k hk => .inr (hv k hk), ?_, ?_, ?_, ?_⟩, ?_, hF.mono (fun k hk => .inl (hk.elim (fun e => e ▸ h.fg) (fun e => h.fv k e.symm)))⟩
  · refine Kd.R_mono (Kd.R_step (Kd.R_bound h.got) (fun k hk hlt => hF.block k hlt (fun e => e.elim hk.1.2.1 hk.1.2.2.1))) ?_
    exact fun k hk => ⟨.inl hk.1.1, hk.1.2.1, fun e => by have := hv k e.symm; have := hk.2.2.1; omega, hk.1.2.2.2⟩
  · refine Kd.R_mono (Kd.R_step (Kd.R_bound h.ps) (fun k hk hlt => hF.block k hlt (fun e => e.elim hk.1.2.1 hk.1.2.2))) ?_
    exact fun k hk => ⟨.inl hk.1.1, hk.1.2.1, fun e => by have := hv k e.symm; have := hk.2.2.1; omega⟩
  · exact h.below.trans (hF.below (fun k hk => hk.elim (fun e => e ▸ h.hF g h.fg) (fun e => h.hF k (h.fv k e.symm))) hw)
  · exact fun k hk => hk.elim (h.hF k) (fun e => by omega)
  · exact Kd.R_lower (Kd.R_mono (Kd.R_bound hr) (fun k hk => ⟨hk.2.1, hk.2.2.1, hk.1⟩)) hw
/-- Behind an append of frames. -/
theorem Held.more {v6' : Value} {fs : List (List Int)} (h : Held F g done rest f ps W wr v' v6 pv) (hr : kF.R 36 w2 W.heap.size (fun k => (F k ∨ wr.heap.size ≤ k) ∧ k ≠ g ∧ some k ≠ v'.ownBlock ∧ some k ≠ pv.ownBlock) v6' (done ++ fs)) (hb : Below W.heap.size W w2) (hg : wr.grownBy w2 v6.ownBlock) :
    Held (fun k => F k ∨ wr.heap.size ≤ k) g (done ++ fs) rest f ps W w2 v' v6' pv := by
  have hw := h.below.size
  have hn : ∀ k, v6.ownBlock = some k → k ≠ g ∧ some k ≠ v'.ownBlock ∧ some k ≠ pv.ownBlock := fun k hk => (h.got.1 k hk).2
  refine ⟨h.fd.move ?_, .inl h.fg, fun k hk => .inl (h.fv k hk), hr, ?_, hb, fun k hk => hk.elim (h.hF k) (fun e => by omega)⟩
  · intro k hk hlt
    refine hg.block k hlt fun e => ?_
    rcases hk with rfl | hk
    · exact (hn k e.symm).1 rfl
    · exact (hn k e.symm).2.1 hk.symm
  · have hp := h.ps
    have hps := Kd.own_of_R hp
    have h1 := Kd.R_grown2 hp rfl hg (fun k hk => (hn k hk).2.2)
    exact Kd.R_mono h1 (fun k hk => ⟨.inl hk.1, hk.2⟩)
/-- A byte of a row that is ours, and a store there. -/
theorem own_xor {w : World} {A : Option Addr} {b n c m : Nat} {ys : List Int} (h : w.ownsRow b 5 1 (.slice A n c) n (nums .u8 ys)) (hm : m < n) :
    ∃ ad y, A = some ad ∧ w.cell? (ad.add m) = some (.int .u8 y) ∧ w.frozen? (ad.add m) = false ∧ ∀ z, ∃ ys', (w.setCell (ad.add m) (.int .u8 z)).ownsRow b 5 1 (.slice (some ad) n c) n (nums .u8 ys') ∧
      Fr (fun q => some q = (Value.slice (some ad) n c).ownBlock) w (w.setCell (ad.add m) (.int .u8 z)) := by
  rcases id h.2 with ⟨e, e2⟩ | ⟨Q, cap, cur, e, _⟩
  · omega
  · injection e with e e2 e3
    subst e; subst e3
    have h1 := own_at h (m : Int) (by omega) (by omega)
    rw [Int.toNat_natCast] at h1
    refine ⟨⟨Q, 0, none⟩, _, rfl, by rw [add_plain]; exact h1.1, by rw [add_plain]; exact h1.2, fun z => ⟨ys.set m z, ?_, ?_⟩⟩
    · rw [add_plain]
      have h2 := (own_store h (m : Int) z).1
      rw [Int.toNat_natCast] at h2
      exact h2
    · exact Fr.setCell (.inl (by rw [add_plain]; rfl)) _
end
end Go.Proofs.Ytcpcnnpdbognlaa.Frm
