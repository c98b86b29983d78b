/- ledger: one's account, as contracts. -/
import Derived.Test.YtaoacibahdbdkaaLedM
import Derived.Maps.OwnOps
namespace Go.Proofs.Ytaoacibahdbdkaa.Led
open Go.RowKit Go Go.Proofs.YtaoacibahdbdkaaW.PrintWords Go.Proofs.YtaoacibahdbdkaaW.PrintMore Go.Proofs.YtaoacibahdbdkaaW.PrintLast Go.Proofs.Ytaoacibahdbdkaa.Bts Go.Proofs.Ytaoacibahdbdkaa.Fra Go.Maps
theorem zeroPtr (w : World) : (zeroValue 121).run Try.prog w = .ok (.pointer none) w := by kernel_rfl
section
variable {B g b n : Nat} {most : Int × Int × Int} {keys : List Int} {D : DM} {blk : Int → Nat} {f : Int → Int × Int × Int}
theorem of_has (k : Int) (w : World) (h : Led B w g b n most keys D blk f) (hk : has D (ky k) = true) (h0 : 0 ≤ k) (h1 : k ≤ 4294967295) :
    Calls Try.prog 63 #[.pointer (some ⟨g, 0, none⟩), .int .u32 k] w fun e w' => e = .returned (.pointer (some ⟨blk k, 0, none⟩)) ∧ w = w' := by
  have hkey := keyOf_int_mk (P := Try.prog) Try.underlying38 (ky_wf h0 h1)
  have hm := h.map
  have c3 : w.cell? ⟨g, 3, none⟩ = some (.map (some b)) := blk_cell h.obj 3
  have HA := Lib.hid (h.acc k hk).1
  clear h
  go_enter Try.func63, Try.ntmps63
  go_wp2_with (first
    | (at_lookup; refine wpList_lookup_own_ok _ rfl _ _ 118 rfl 38 121 law Try.underlying118 _ (zeroPtr _) .nil [] rfl b n D rfl hm _ (ky k) rfl hkey ?_; intro v ps hv; rw [HA.out] at hv; obtain rfl := ptrElem_inv hv; clear hv)
    | go_in)
  go_ret
  exact ⟨rfl, rfl⟩
set_option maxRecDepth 100000 in
theorem of_new (k : Int) (w : World) (h : Led B w g b n most keys D blk f) (hk : has D (ky k) = false) (h0 : 0 ≤ k) (h1 : k ≤ 4294967295) (hkk : k ∈ keys) (hB : B ≤ w.heap.size) (hn : n < maxLen) :
    Calls Try.prog 63 #[.pointer (some ⟨g, 0, none⟩), .int .u32 k] w fun e w' => e = .returned (.pointer (some ⟨w.heap.size, 0, none⟩)) ∧
      Led B w' g b (n + 1) most keys (D.put (ky k) (.held w.heap.size)) (fun j => if j = k then w.heap.size else blk j) f ∧ Fl B w w' := by
  have hkey := keyOf_int_mk (P := Try.prog) Try.underlying38 (ky_wf h0 h1)
  have hm := h.map
  have c3 : w.cell? ⟨g, 3, none⟩ = some (.map (some b)) := blk_cell h.obj 3
  have c3' : (w.alloc (.cells #[.int .i64 0, .int .i64 0, .int .i64 0] 174)).cell? ⟨g, 3, none⟩ = some (.map (some b)) := blk_cell (blk_alloc h.obj _) 3
  have HN := Lib.hid (atKey_of_not_has hk .nil)
  have HL := Lib.hid h
  have HNN := Lib.hid hn
  have HKB := Lib.hid hB
  clear h hn hB
  go_enter Try.func63, Try.ntmps63
  go_wp2_with (first
    | (at_lookup; refine wpList_lookup_own_ok _ rfl _ _ 118 rfl 38 121 law Try.underlying118 _ (zeroPtr _) .nil [] rfl b n D rfl hm _ (ky k) rfl hkey ?_; intro v ps hv; rw [HN.out] at hv; obtain rfl := ptrElem_nil hv; clear hv)
    | (at_mapUpdate; refine wpList_mapUpdate_own _ rfl _ _ _ 118 rfl 38 121 law Try.underlying118 _ b n D rfl (hm.alloc _) HNN.out _ _ (ky k) rfl rfl hkey (.held w.heap.size) [] rfl ?_; intro w1 hown1 hgrow1)
    | go_in)
  go_ret
  refine ⟨rfl, ?_⟩
  exact HL.out.put hk hkk rfl HKB.out (blk_new w _) (below_alloc (Below.refl _ _) _) hgrow1 hown1
/-- A ledger, and one's account in it. -/
def LX (B : Nat) (w : World) (g : Nat) (n : Nat) (most : Int × Int × Int) (keys : List Int) (f : Int → Int × Int × Int) : Prop := ∃ b D blk, Led B w g b n most keys D blk f
def LA (B : Nat) (w : World) (g : Nat) (n : Nat) (most : Int × Int × Int) (keys : List Int) (f : Int → Int × Int × Int) (k : Int) (a : Nat) : Prop := ∃ b D blk, Led B w g b n most keys D blk f ∧ has D (ky k) = true ∧ blk k = a
theorem LA.lx {w : World} {k : Int} {a : Nat} (h : LA B w g n most keys f k a) : LX B w g n most keys f := let ⟨b, D, blk, h, _⟩ := h; ⟨b, D, blk, h⟩
theorem LA.acc {w : World} {k : Int} {a : Nat} (h : LA B w g n most keys f k a) : Acc w a (f k) := by obtain ⟨b, D, blk, h, hk, rfl⟩ := h; exact (h.acc k hk).2.1
theorem LA.below {w w' : World} {k : Int} {a : Nat} (h : LA B w g n most keys f k a) (hb : Below w.heap.size w w') : LA B w' g n most keys f k a := let ⟨b, D, blk, h, hk, e⟩ := h; ⟨b, D, blk, h.below hb, hk, e⟩
theorem LX.below {w w' : World} (h : LX B w g n most keys f) (hb : Below w.heap.size w w') : LX B w' g n most keys f := let ⟨b, D, blk, h⟩ := h; ⟨b, D, blk, h.below hb⟩
theorem LA.kept {S : Nat → Prop} {w w' : World} {k : Int} {a : Nat} (h : LA B w g n most keys f k a) (hf : Fr S w w') (hs : ∀ j, Lt B w j ∨ j = g → ¬ S j) : LA B w' g n most keys f k a := let ⟨b, D, blk, h, hk, e⟩ := h; ⟨b, D, blk, h.kept hf (hs g (.inr rfl)) (fun j hj => hs j (.inl hj)), hk, e⟩
theorem LX.kept {S : Nat → Prop} {w w' : World} (h : LX B w g n most keys f) (hf : Fr S w w') (hs : ∀ j, Lt B w j ∨ j = g → ¬ S j) : LX B w' g n most keys f := let ⟨b, D, blk, h⟩ := h; ⟨b, D, blk, h.kept hf (hs g (.inr rfl)) (fun j hj => hs j (.inl hj))⟩
theorem LX.obj {w : World} (h : LX B w g n most keys f) : ∃ b, w.heap[g]? = some (.cells #[.int .i64 most.1, .int .i64 most.2.1, .int .i64 most.2.2, .map (some b)] 120 (0, 0)) := let ⟨b, _, _, h⟩ := h; ⟨b, h.obj⟩
theorem LA.set {w w' : World} {k : Int} {a : Nat} {x : Int × Int × Int} (h : LA B w g n most keys f k a) (ha : Acc w' a x) (hf : Fr (· = a) w w') : LX B w' g n most keys (fun j => if j = k then x else f j) ∧ Fl B w w' := by
  obtain ⟨b, D, blk, h, hk, rfl⟩ := h
  exact ⟨⟨b, D, blk, (h.set hk ha hf).1⟩, (h.set hk ha hf).2⟩
theorem Led.more {w : World} (h : Led B w g b n most keys D blk f) : Led B w g b (n + 1) most keys D blk f := ⟨h.obj, h.map.mono (Nat.le_succ n), h.acc, h.no, h.inj, h.low⟩
theorem of_calls (k : Int) (w : World) (h : LX B w g n most keys f) (h0 : 0 ≤ k) (h1 : k ≤ 4294967295) (hkk : k ∈ keys) (hB : B ≤ w.heap.size) (hn : n < maxLen) :
    Calls Try.prog 63 #[.pointer (some ⟨g, 0, none⟩), .int .u32 k] w fun e w' => ∃ a, e = .returned (.pointer (some ⟨a, 0, none⟩)) ∧ LA B w' g (n + 1) most keys f k a ∧ Fl B w w' := by
  obtain ⟨b, D, blk, h⟩ := h
  cases hk : has D (ky k)
  · refine (of_new k w h hk h0 h1 hkk hB hn).mono ?_
    rintro e w' ⟨rfl, hL, hF⟩
    exact ⟨_, rfl, ⟨_, _, _, hL, has_put_same h.map.isMap (ky_key k) _, if_pos rfl⟩, hF⟩
  · refine (of_has k w h hk h0 h1).mono ?_
    rintro e w' ⟨rfl, rfl⟩
    exact ⟨_, rfl, ⟨_, _, _, h.more, hk, rfl⟩, Fr.refl _ _⟩
theorem ofA_calls (k : Int) (a : Nat) (w : World) (h : LA B w g n most keys f k a) (h0 : 0 ≤ k) (h1 : k ≤ 4294967295) :
    Calls Try.prog 63 #[.pointer (some ⟨g, 0, none⟩), .int .u32 k] w fun e w' => e = .returned (.pointer (some ⟨a, 0, none⟩)) ∧ w = w' := by
  obtain ⟨b, D, blk, h, hk, rfl⟩ := h
  exact of_has k w h hk h0 h1
end
end Go.Proofs.Ytaoacibahdbdkaa.Led
