/- Texts of this claim, laid together: SlR. -/
import Derived.Test.YtnipbfhfaefieaaUs
import Derived.Test.YtnipbfhfaefieaaUt
import Derived.Test.YtnipbfhfaefieaaUu
import Derived.Test.YtnipbfhfaefieaaUv
import Derived.Test.YtnipbfhfaefieaaUw
import Derived.Test.YtnipbfhfaefieaaUx
/-! slice: SliceLists, as a whole. -/
namespace Go.Proofs.Ytnipbfhfaefieaa.Sl
open Go.RowKit Go Go.Proofs.YtnipbfhfaefieaaW.PrintWords Go.Proofs.YtnipbfhfaefieaaW.PrintMore Go.Proofs.YtnipbfhfaefieaaW.PrintLast Go.Proofs.Ytnipbfhfaefieaa.Bts Go.Proofs.Ytnipbfhfaefieaa.Fra Go.Proofs.Ytnipbfhfaefieaa.ArnP Go.Proofs.Ytnipbfhfaefieaa.Arn Go.Proofs.Ytnipbfhfaefieaa.Ao Go.Proofs.Ytnipbfhfaefieaa.Pv
theorem lists_walk (A0 : Option Addr) (c0 : Nat) (x0 : List ((Int) × (Int) × (ByteArray))) (x1_0 : Int) (x1_1 : Int) (x2_0 : Int) (x2_1 : Int) (W : World) (l0 : x0.length ≤ c0) (C0 : Kd.C (Kd.pair (Kd.int .u8) (Kd.pair (Kd.int .i64) Kd.string)) W A0 x0.length x0) (p0 : (x0.length ≤ maxLen ∧ x0.length * Try.prog.bytesOf 66 ≤ 140737488351232 ∧ ∀ x : Int × Int × ByteArray, x ∈ x0 → ((IntKind.u8.min ≤ x.1 ∧ x.1 ≤ IntKind.u8.max) ∧ ((IntKind.i64.min ≤ x.2.1 ∧ x.2.1 ≤ IntKind.i64.max) ∧ (x.2.2.size ≤ 140737488351232))))) (p1_0 : (IntKind.i64.min ≤ x1_0 ∧ x1_0 ≤ IntKind.i64.max)) (p1_1 : (IntKind.i64.min ≤ x1_1 ∧ x1_1 ≤ IntKind.i64.max)) (p2_0 : (IntKind.i64.min ≤ x2_0 ∧ x2_0 ≤ IntKind.i64.max)) (p2_1 : (IntKind.i64.min ≤ x2_1 ∧ x2_1 ≤ IntKind.i64.max)) :
    Calls Try.prog 9 #[.slice A0 x0.length c0, .agg #[.int .i64 x1_0, .int .i64 x1_1], .agg #[.int .i64 x2_0, .int .i64 x2_1]] W fun e W' => e = .returned (.bool true) ∧ Below W.heap.size W W' := by
  clear p1_0 p1_1 p2_0 p2_1 l0
  have m1 := p0.2.1
  have hb : Try.prog.bytesOf 66 = 32 := by kernel_rfl
  rw [hb] at m1
  have hm : x0.length ≤ 4611686018427387904 := by omega
  clear m1 p0 hb
  cases hf : fitsB x0
  · exact lists_early A0 c0 x0 x1_0 x1_1 x2_0 x2_1 W C0 hm hf
  · have hx60 : x0.length ≤ 2000 := by
      have h := hf
      unfold fitsB at h
      have := of_decide_eq_true (Bool.and_eq_true_iff.1 h).2
      omega
    obtain ⟨N, hN, hN2, hN3⟩ := mod_nat x1_0 1100 (by decide) (by decide)
    have hN : (IntKind.u64.wrap x1_0).tmod 1100 = N := hN
    by_cases hsm : N ≤ 1024
    · obtain ⟨pf, hpf⟩ : ∃ pf, x2_0.tmod 1100 = pf := ⟨_, rfl⟩
      obtain ⟨cn, hcn⟩ : ∃ cn, x2_1.tmod 80 = cn := ⟨_, rfl⟩
      obtain ⟨sz, hsz⟩ : ∃ sz, x1_1.tmod 300 = sz := ⟨_, rfl⟩
      have hnat : ∀ x : Int, 0 ≤ x → x = (x.toNat : Int) := fun x h => (Int.toNat_of_nonneg h).symm
      by_cases h1 : cn < 0
      · by_cases q1 : pf < 0
        · exact lists_A1E1 A0 c0 x0 x1_0 x1_1 x2_0 x2_1 W C0 hm hx60 hf N hN hN2 hN3 hsm pf cn sz hpf hcn hsz h1 q1
        · by_cases q2 : pf + sz < pf
          · exact lists_A1E2 A0 c0 x0 x1_0 x1_1 x2_0 x2_1 W C0 hm hx60 hf N hN hN2 hN3 hsm pf cn sz hpf hcn hsz h1 q1 q2
          · by_cases q3 : (N : Int) < pf + sz
            · exact lists_A1E3 A0 c0 x0 x1_0 x1_1 x2_0 x2_1 W C0 hm hx60 hf N hN hN2 hN3 hsm pf cn sz hpf hcn hsz h1 q1 q2 q3
            · exact lists_A1K A0 c0 x0 x1_0 x1_1 x2_0 x2_1 W C0 hm hx60 hf N hN hN2 hN3 hsm pf cn sz hpf hcn hsz h1 pf.toNat sz.toNat (hnat pf (Int.not_lt.1 q1)) (hnat sz (by clear hm; omega)) (by clear hm; omega)
      · by_cases h2 : 64 < cn
        · by_cases q1 : pf < 0
          · exact lists_A2E1 A0 c0 x0 x1_0 x1_1 x2_0 x2_1 W C0 hm hx60 hf N hN hN2 hN3 hsm pf cn sz hpf hcn hsz h1 h2 q1
          · by_cases q2 : pf + sz < pf
            · exact lists_A2E2 A0 c0 x0 x1_0 x1_1 x2_0 x2_1 W C0 hm hx60 hf N hN hN2 hN3 hsm pf cn sz hpf hcn hsz h1 h2 q1 q2
            · by_cases q3 : (N : Int) < pf + sz
              · exact lists_A2E3 A0 c0 x0 x1_0 x1_1 x2_0 x2_1 W C0 hm hx60 hf N hN hN2 hN3 hsm pf cn sz hpf hcn hsz h1 h2 q1 q2 q3
              · exact lists_A2K A0 c0 x0 x1_0 x1_1 x2_0 x2_1 W C0 hm hx60 hf N hN hN2 hN3 hsm pf cn sz hpf hcn hsz h1 h2 pf.toNat sz.toNat (hnat pf (Int.not_lt.1 q1)) (hnat sz (by clear hm; omega)) (by clear hm; omega)
        · by_cases q1 : pf < 0
          · exact lists_R1E1 A0 c0 x0 x1_0 x1_1 x2_0 x2_1 W C0 hm hx60 hf N hN hN2 hN3 hsm pf cn sz hpf hcn hsz h1 h2 q1
          · by_cases h4 : (N : Int) < pf
            · by_cases q2 : pf + sz < pf
              · exact lists_R2E2 A0 c0 x0 x1_0 x1_1 x2_0 x2_1 W C0 hm hx60 hf N hN hN2 hN3 hsm pf cn sz hpf hcn hsz h1 h2 q1 h4 q2
              · exact lists_R2E3 A0 c0 x0 x1_0 x1_1 x2_0 x2_1 W C0 hm hx60 hf N hN hN2 hN3 hsm pf cn sz hpf hcn hsz h1 h2 q1 h4 q2 (by clear hm; omega)
            · have e1 := hnat pf (Int.not_lt.1 q1)
              have e2 := hnat cn (Int.not_lt.1 h1)
              by_cases q2 : pf + sz < pf
              · exact lists_OE2 A0 c0 x0 x1_0 x1_1 x2_0 x2_1 W C0 hm hx60 hf N hN hN2 hN3 hsm pf cn sz hpf hcn hsz pf.toNat cn.toNat _ e1 e2 (by clear hm; omega) (by clear hm; omega) rfl q2
              · by_cases q3 : (N : Int) < pf + sz
                · exact lists_OE3 A0 c0 x0 x1_0 x1_1 x2_0 x2_1 W C0 hm hx60 hf N hN hN2 hN3 hsm pf cn sz hpf hcn hsz pf.toNat cn.toNat _ e1 e2 (by clear hm; omega) (by clear hm; omega) rfl q2 q3
                · exact lists_OK A0 c0 x0 x1_0 x1_1 x2_0 x2_1 W C0 hm hx60 hf N hN hN2 hN3 hsm pf cn sz hpf hcn hsz pf.toNat cn.toNat _ e1 e2 (by clear hm; omega) (by clear hm; omega) rfl sz.toNat (hnat sz (by clear hm; omega)) (by clear hm; omega)
    · exact lists_big A0 c0 x0 x1_0 x1_1 x2_0 x2_1 W C0 hm hx60 hf N hN hN2 hN3 (by clear hm; omega)
end Go.Proofs.Ytnipbfhfaefieaa.Sl
