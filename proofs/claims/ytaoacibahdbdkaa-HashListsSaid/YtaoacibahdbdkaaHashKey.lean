/- hash: Mix, and a hasher's start, as contracts. -/
import Derived.Test.YtaoacibahdbdkaaHashOnce
import Derived.Outline
namespace Go.Proofs.Ytaoacibahdbdkaa.Hsh
open Go.RowKit Go Go.Proofs.YtaoacibahdbdkaaW.PrintWords Go.Proofs.YtaoacibahdbdkaaW.PrintMore Go.Proofs.YtaoacibahdbdkaaW.PrintLast Go.Proofs.Ytaoacibahdbdkaa.Bts Go.Proofs.Ytaoacibahdbdkaa.Fra
def xshr (n d : Int) : Int := bits .xor .u64 n (n / d)
def mixA (n : Int) : Int := IntKind.u64.wrap (xshr n 1073741824 * 13787848793156543929)
def mixB (n : Int) : Int := IntKind.u64.wrap (xshr n 134217728 * 10723151780598845931)
/-- A number, mixed. -/
def mixI (n : Int) : Int := xshr (mixB (mixA n)) 2147483648
set_option maxHeartbeats 1000000 in
theorem mix_calls (n : Int) (w : World) (h0 : 0 ≤ n) (h1 : n ≤ 18446744073709551615) :
    Calls Try.prog 29 #[.int .u64 n] w fun e w' => e = .returned (.int .u64 (mixI n)) ∧ w = w' := by
  go_enter Try.func29, Try.ntmps29
  go_wp2
  go_ret
  exact ⟨rfl, rfl⟩
def keyI (seed : Int) : Int := mixI (IntKind.u64.wrap (seed + 11400714819323198485))
theorem wrap_u64 (n : Int) : 0 ≤ IntKind.u64.wrap n ∧ IntKind.u64.wrap n ≤ 18446744073709551615 := by simp [IntKind.wrap, IntKind.bits, IntKind.signed]; omega
set_option maxRecDepth 100000 in
theorem key_calls (g : Nat) (pl : Addr) (seed : Int) (x4 : Value) (w : World) (hp : w.cell? pl = some (.pointer (some ⟨g, 0, none⟩))) (h0 : w.cell? ⟨g, 0, none⟩ = some (.int .u64 seed)) (h4 : w.cell? ⟨g, 4, none⟩ = some x4) (f4 : w.frozen? ⟨g, 4, none⟩ = false) :
    Calls Try.prog 96 #[.pointer (some pl)] w fun e w' => e = .returned (.tuple #[]) ∧ w' = (w.setCell ⟨g, 4, none⟩ (.int .u64 (keyI seed))).drew := by
  have hw := wrap_u64 (seed + 11400714819323198485)
  have h4' : w.drew.cell? ⟨g, 4, none⟩ = some x4 := h4
  have f4' : w.drew.frozen? ⟨g, 4, none⟩ = false := f4
  go_enter Try.func96, Try.ntmps96
  go_wp2
  refine start_ (n := 10) (S := fun w' => w'.cell? pl = some (.pointer (some ⟨g, 0, none⟩)) ∧ w'.cell? ⟨g, 0, none⟩ = some (.int .u64 seed)) (ds := [9]) #[false, false, false, false, false, false, false, false, false, false] (by kernel_rfl) rfl rfl ⟨hp, h0⟩ (fun hHeld => ?_)
  refine take_ (i := 0) (N := some 1) (v := ?_) (a' := ?_) #[true, false, false, false, false, false, false, false, false, false] rfl rfl (by kernel_rfl) (fun _ _ _ h => h) (Or.inl ⟨by rfl, ?_⟩) hHeld ?_ ?_
  rotate_left
  · rintro w' ⟨s0, s1⟩
    go_simp
    with_reducible rfl
  rotate_left
  · simp only [Act.put, List.setIfInBounds_toArray, List.set_cons_zero, List.set_cons_succ, i64_w, i32_w]
    rfl
  refine take_ (i := 1) (N := some 2) (v := ?_) (a' := ?_) #[true, true, false, false, false, false, false, false, false, false] rfl rfl (by kernel_rfl) (fun _ _ _ h => h) (Or.inl ⟨by rfl, ?_⟩) hHeld ?_ ?_
  rotate_left
  · rintro w' ⟨s0, s1⟩
    go_simp
    with_reducible rfl
  rotate_left
  · simp only [Act.put, List.setIfInBounds_toArray, List.set_cons_zero, List.set_cons_succ, i64_w, i32_w]
    rfl
  refine pure_ (i := 2) (N := some 3) (v := ?_) (a' := ?_) #[true, true, true, false, false, false, false, false, false, false] rfl rfl (by kernel_rfl) (fun _ _ _ h => h) (Or.inl ⟨by rfl, ?_⟩) ?_ ?_
  rotate_left
  · intro w'
    go_simp
    with_reducible rfl
  rotate_left
  · simp only [Act.put, List.setIfInBounds_toArray, List.set_cons_zero, List.set_cons_succ, i64_w, i32_w]
    rfl
  refine pure_ (i := 3) (N := some 4) (v := ?_) (a' := ?_) #[true, true, true, true, false, false, false, false, false, false] rfl rfl (by kernel_rfl) (fun _ _ _ h => h) (Or.inl ⟨by rfl, ?_⟩) ?_ ?_
  rotate_left
  · intro w'
    go_simp
    with_reducible rfl
  rotate_left
  · simp only [Act.put, List.setIfInBounds_toArray, List.set_cons_zero, List.set_cons_succ, i64_w, i32_w]
    rfl
  refine take_ (i := 4) (N := some 5) (v := ?_) (a' := ?_) #[true, true, true, true, true, false, false, false, false, false] rfl rfl (by kernel_rfl) (fun _ _ _ h => h) (Or.inl ⟨by rfl, ?_⟩) hHeld ?_ ?_
  rotate_left
  · rintro w' ⟨s0, s1⟩
    go_simp
    with_reducible rfl
  rotate_left
  · simp only [Act.put, List.setIfInBounds_toArray, List.set_cons_zero, List.set_cons_succ, i64_w, i32_w]
    rfl
  refine pure_ (i := 5) (N := some 6) (v := ?_) (a' := ?_) #[true, true, true, true, true, true, false, false, false, false] rfl rfl (by kernel_rfl) (fun _ _ _ h => h) (Or.inl ⟨by rfl, ?_⟩) ?_ ?_
  rotate_left
  · intro w'
    go_simp
    with_reducible rfl
  rotate_left
  · simp only [Act.put, List.setIfInBounds_toArray, List.set_cons_zero, List.set_cons_succ, i64_w, i32_w]
    rfl
  refine one_ (i := 6) (N := some 7) #[true, true, true, true, true, true, true, false, false, false] rfl rfl (by kernel_rfl) (by decide) (fun K hK => ?_)
  refine goes_ Try.func29 (by kernel_rfl) rfl #[.int .u64 (IntKind.u64.wrap (seed + 11400714819323198485))] (by rfl) rfl rfl (by simp only [List.map_toArray, List.map_cons, List.map_nil]; rfl) ?_
  with_reducible refine (mix_calls _ _ hw.1 hw.2).mono ?_
  rintro e w1 ⟨rfl, rfl⟩
  refine ⟨_, rfl, ?_⟩
  refine hK.out _ _ ⟨hp, h0⟩ (fun hHeld => ?_)
  clear hK K
  refine norm_ (a' := ?_) ?_ ?_
  rotate_left
  · show Act.put _ (some 7) _ = _
    simp only [Act.put, List.setIfInBounds_toArray, List.set_cons_zero, List.set_cons_succ, i64_w, i32_w]
    rfl
  refine pure_ (i := 7) (N := some 8) (v := ?_) (a' := ?_) #[true, true, true, true, true, true, true, true, false, false] rfl rfl (by kernel_rfl) (fun _ _ _ h => h) (Or.inl ⟨by rfl, ?_⟩) ?_ ?_
  rotate_left
  · intro w'
    go_simp
    with_reducible rfl
  rotate_left
  · simp only [Act.put, List.setIfInBounds_toArray, List.set_cons_zero, List.set_cons_succ, i64_w, i32_w]
    rfl
  refine pure_ (i := 8) (N := some 9) (v := ?_) (a' := ?_) #[true, true, true, true, true, true, true, true, true, false] rfl rfl (by kernel_rfl) (fun _ _ _ h => h) (Or.inl ⟨by rfl, ?_⟩) ?_ ?_
  rotate_left
  · intro w'
    go_simp
    with_reducible rfl
  rotate_left
  · simp only [Act.put, List.setIfInBounds_toArray, List.set_cons_zero, List.set_cons_succ, i64_w, i32_w]
    rfl
  refine last_ (i := 9) (N := none) #[true, true, true, true, true, true, true, true, true, true] rfl rfl (by kernel_rfl) (by decide) (fun K hK => ?_)
  refine skip_ (w1 := ?_) (by rfl) rfl ?_ ?_
  rotate_left
  · go_simp
    rfl
  refine hK.out _ _ ?_
  clear hK K
  refine done_ (by kernel_rfl) ?_

  go_end0
  exact ⟨rfl, rfl⟩
/-- A hasher's block: its seed, whether it has begun, its key. -/
def Hs (w : World) (g : Nat) (seed d k : Int) : Prop := w.heap[g]? = some (.cells #[.int .u64 seed, .int .u32 d, .int .i32 0, .int .u32 0, .int .u64 k] 147 (0, 0))
theorem Hs.fr {w w' : World} {S : Nat → Prop} {g : Nat} {seed d k : Int} (h : Hs w g seed d k) (hf : Fr S w w') (hg : ¬ S g) : Hs w' g seed d k := hf.blk h hg
theorem Hs.below {w w' : World} {g : Nat} {seed d k : Int} (h : Hs w g seed d k) (hb : Below w.heap.size w w') : Hs w' g seed d k := blk_below h hb
set_option maxRecDepth 100000 in
set_option maxHeartbeats 1600000 in
theorem slow_calls (g : Nat) (pl : Addr) (hpb : ¬ pl.block = g) (seed k : Int) (w : World) (h : Hs w g seed 0 k) (hp : w.cell? pl = some (.pointer (some ⟨g, 0, none⟩))) :
    Calls Try.prog 110 #[.pointer (some ⟨g, 1, none⟩), .func (.func 96) #[] #[.pointer (some pl)]] w fun e w' => e = .returned (.tuple #[]) ∧ Hs w' g seed 1 (keyI seed) ∧ Fr (· = g) w w' := by
  have b1 : (w.setCell ⟨g, 2, none⟩ (.int .i32 1)).heap[g]? = some (.cells #[.int .u64 seed, .int .u32 0, .int .i32 1, .int .u32 0, .int .u64 k] 147 (0, 0)) := blk_put h 2 _ rfl
  have b2 : ((w.setCell ⟨g, 2, none⟩ (.int .i32 1)).setCell ⟨g, 4, none⟩ (.int .u64 (keyI seed))).heap[g]? = some (.cells #[.int .u64 seed, .int .u32 0, .int .i32 1, .int .u32 0, .int .u64 (keyI seed)] 147 (0, 0)) := blk_put b1 4 _ rfl
  have hp1 : (w.setCell ⟨g, 2, none⟩ (.int .i32 1)).cell? pl = some (.pointer (some ⟨g, 0, none⟩)) := (Fr.set g 2 _).cell hp hpb
  have hl := run_call_load (P := Try.prog) Try.func130 (by kernel_rfl) (by kernel_rfl) (by kernel_rfl) .u32 (by kernel_rfl) (w := w.setCell ⟨g, 2, none⟩ (.int .i32 1)) (a := ⟨g, 1, none⟩) (x := 0) (blk_cell b1 1)
  have hnot : ∀ (x : Bool) (w : World), (Op.unary .not (.bool x)).run Try.prog w = .ok (.bool (!x)) w := fun _ _ => rfl
  have HB1 := Lib.hid b1
  have HB2 := Lib.hid b2
  have HP1 := Lib.hid hp1
  have H := Lib.hid h
  clear b1 b2 hp1 h hp
  go_enter_defers Try.func110, Try.ntmps110
  go_wp2_with (go_at_call 131; refine (lock_free ⟨g, 2, none⟩ _ (blk_cell H.out 2) (blk_frozen H.out 2)).mono ?_; rintro e w' ⟨rfl, rfl⟩)
  go_wp2_with (first
    | (go_at_call 109; go_in)
    | (go_at_call 96; go_loud (refine (key_calls g pl seed _ _ HP1.out (blk_cell HB1.out 0) (blk_cell HB1.out 4) (blk_frozen HB1.out 4)).mono ?_; rintro e w' ⟨rfl, rfl⟩)))
  go_wp2
  refine leaves_cons (f := 133) (args := #[.pointer (some ⟨g, 1, none⟩), .bool true]) (by simp) (by simp [go_sem]) ?_
  have b2d := blk_drew HB2.out
  refine (store_deferred ⟨g, 1, none⟩ (.int .u32 0) .returning _ (blk_cell b2d 1) (blk_frozen b2d 1)).mono ?_
  rintro e u' w'' ⟨rfl, rfl, rfl⟩
  have b3 := blk_put (blk_drew b2d) 1 (.int .u32 1) rfl
  refine leaves_cons (f := 132) (args := #[.pointer (some ⟨g, 2, none⟩)]) (by simp [settle]) (by simp [go_sem]) ?_
  refine (unlock_deferred ⟨g, 2, none⟩ _ _ (blk_cell b3 2) (blk_frozen b3 2)).mono ?_
  rintro e u' w'' ⟨rfl, rfl, rfl⟩
  have b4 := blk_put b3 2 (.int .i32 0) rfl
  have hF := (((((Fr.refl (· = g) w).trans (Fr.set g 2 (.int .i32 1))).trans (Fr.set g 4 (.int .u64 (keyI seed)))).trans (Fr.of_new (below_drew1 (Below.refl _ _)))).trans (Fr.of_new (below_drew1 (Below.refl _ _)))).trans ((Fr.set g 1 (.int .u32 1)).trans (Fr.set g 2 (.int .i32 0)))
  have HF := Lib.hid hF
  have HB4 := Lib.hid b4
  clear hF b4 b3 b2d
  simp [Leaves, settle, results, Try.results110]
  exact ⟨HB4.out, HF.out⟩
set_option maxRecDepth 100000 in
set_option maxHeartbeats 1600000 in
theorem do_first (g : Nat) (pl : Addr) (hpb : ¬ pl.block = g) (seed k : Int) (w : World) (h : Hs w g seed 0 k) (hp : w.cell? pl = some (.pointer (some ⟨g, 0, none⟩))) :
    Calls Try.prog 95 #[.pointer (some ⟨g, 1, none⟩), .func (.func 96) #[] #[.pointer (some pl)]] w fun e w' => e = .returned (.tuple #[]) ∧ Hs w' g seed 1 (keyI seed) ∧ Fr (· = g) w w' := by
  have hl := run_call_load (P := Try.prog) Try.func130 (by kernel_rfl) (by kernel_rfl) (by kernel_rfl) .u32 (by kernel_rfl) (blk_cell h 1)
  have hnot : ∀ (x : Bool) (w : World), (Op.unary .not (.bool x)).run Try.prog w = .ok (.bool (!x)) w := fun _ _ => rfl
  have H := Lib.hid h
  have HP := Lib.hid hp
  clear h hp
  go_enter Try.func95, Try.ntmps95
  go_wp2_with (first
    | (go_at_call 110; refine (slow_calls g pl hpb seed k _ H.out HP.out).mono ?_; rintro e w' ⟨rfl, h1, h2⟩; have H1 := Lib.hid h1; have H2 := Lib.hid h2; clear h1 h2)
    | (go_at_call 109; go_in))
  go_end0
  exact ⟨rfl, H1.out, H2.out⟩
set_option maxRecDepth 100000 in
theorem do_done (a : Addr) (d : Int) (hd : ¬ d = 0) (fv : Value) (w : World) (h0 : w.cell? a = some (.int .u32 d)) :
    Calls Try.prog 95 #[.pointer (some a), fv] w fun e w' => e = .returned (.tuple #[]) ∧ w = w' := by
  have hl := run_call_load (P := Try.prog) Try.func130 (by kernel_rfl) (by kernel_rfl) (by kernel_rfl) .u32 (by kernel_rfl) h0
  have hnot : ∀ (x : Bool) (w : World), (Op.unary .not (.bool x)).run Try.prog w = .ok (.bool (!x)) w := fun _ _ => rfl
  have hd' : (d != 0) = true := by simp [hd]
  go_enter Try.func95, Try.ntmps95
  go_wp2
  go_end0
  exact ⟨rfl, rfl⟩
/-- A hasher of a seed, begun or not. -/
def Hr (w : World) (g : Nat) (seed : Int) : Prop := Hs w g seed 0 0 ∨ Hs w g seed 1 (keyI seed)
theorem Hr.fr {w w' : World} {S : Nat → Prop} {g : Nat} {seed : Int} (h : Hr w g seed) (hf : Fr S w w') (hg : ¬ S g) : Hr w' g seed := h.imp (·.fr hf hg) (·.fr hf hg)
theorem Hr.below {w w' : World} {g : Nat} {seed : Int} (h : Hr w g seed) (hb : Below w.heap.size w w') : Hr w' g seed := h.imp (·.below hb) (·.below hb)
theorem Hr.lt {w : World} {g : Nat} {seed : Int} (h : Hr w g seed) : g < w.heap.size := h.elim (fun h => blk_lt h) (fun h => blk_lt h)
set_option maxRecDepth 100000 in
set_option maxHeartbeats 1600000 in
theorem start_calls (g : Nat) (seed : Int) (w : World) (h : Hr w g seed) :
    Calls Try.prog 77 #[.pointer (some ⟨g, 0, none⟩)] w fun e w' => e = .returned (.int .u64 (keyI seed)) ∧ Hr w' g seed ∧ Fr (· = g) w w' := by
  have hmf : ∀ (fn : Fn) (first cap : Array Value) (w : World), (Instr.makeFunc fn first cap).run Try.prog w = .ok (.func fn first cap) w := fun _ _ _ _ => rfl
  have hlt := h.lt
  have hne : ¬ w.heap.size = g := by omega
  rcases h with h | h
  · have H := Lib.hid (h.below (below_alloc (Below.refl _ _) (.cells #[.pointer (some ⟨g, 0, none⟩)] 69)))
    clear h
    go_enter Try.func77, Try.ntmps77
    go_wp2_with (go_at_call 95; go_loud (refine (do_first g ⟨w.heap.size, 0, none⟩ hne seed 0 _ H.out (blk_cell (blk_new w _) 0)).mono ?_; rintro e w' ⟨rfl, h1, h2⟩; have hv := h2.blk (blk_new w _) hne; have hv0 := blk_cell hv 0; have hk := blk_cell h1 4; have H1 := Lib.hid h1; have H2 := Lib.hid h2; clear h1 h2 hv))
    go_ret
    exact ⟨rfl, .inr H1.out, (Fr.alloc _).trans H2.out⟩
  · have hb := h.below (below_alloc (Below.refl _ _) (.cells #[.pointer (some ⟨g, 0, none⟩)] 69))
    have H := Lib.hid hb
    have hk := blk_cell hb 4
    have hd := blk_cell hb 1
    clear h hb
    go_enter Try.func77, Try.ntmps77
    go_wp2_with (go_at_call 95; go_loud (refine (do_done ⟨g, 1, none⟩ 1 (by decide) _ _ hd).mono ?_; rintro e w' ⟨rfl, rfl⟩))
    go_ret
    exact ⟨rfl, .inr H.out, Fr.alloc _⟩
theorem new_calls (seed : Int) (w : World) :
    Calls Try.prog 40 #[.int .u64 seed] w fun e w' => ∃ g, e = .returned (.pointer (some ⟨g, 0, none⟩)) ∧ Hr w' g seed ∧ w.heap.size ≤ g ∧ Below w.heap.size w w' := by
  go_enter Try.func40, Try.ntmps40
  go_wp2
  go_ret
  exact ⟨_, rfl, .inl (blk_new w _), Nat.le_refl _, below_alloc (Below.refl _ _) _⟩
end Go.Proofs.Ytaoacibahdbdkaa.Hsh
