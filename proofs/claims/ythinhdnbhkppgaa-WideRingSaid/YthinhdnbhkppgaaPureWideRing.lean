/- The law plumblaw01.WideRing, told as a function over whole numbers, answers true at every three words of 64 bits. No condition. -/
import Derived.Test.YthinhdnbhkppgaaPWideRingx1
import Derived.Test.YthinhdnbhkppgaaMath
import Derived.Test.YthinhdnbhkppgaaMathBits
namespace Go.Proofs.Ythinhdnbhkppgaa.Pure
open Go.RowKit Go.Proofs.Ythinhdnbhkppgaa.PWideRing Go.Proofs.YthinhdnbhkppgaaW.PrintWords Go.Proofs.YthinhdnbhkppgaaW.PrintLast Go.Proofs.YthinhdnbhkppgaaW.PrintMore Go.Proofs.Ythinhdnbhkppgaa.Math

theorem add_spec (A B C : Nat) (hA : A < 18446744073709551616) (hB : B < 18446744073709551616) (hC : C < 18446744073709551616) :
    wide_Add.f (A : Int) (B : Int) (C : Int) = some ((((A + B + C % 2) % 18446744073709551616 : Nat) : Int), (((A + B + C % 2) / 18446744073709551616 : Nat) : Int)) := by
  unfold wide_Add.f
  simp only [wrapI, andN1 C hC]
  split
  · simp only [Option.some.injEq, Prod.mk.injEq]; omega
  · split <;> simp only [Option.some.injEq, Prod.mk.injEq] <;> omega

theorem mul_bd (A B : Nat) (hA : A < 18446744073709551616) (hB : B < 18446744073709551616) : A * B ≤ 340282366920938463426481119284349108225 := by
  have := Nat.mul_le_mul (show A ≤ 18446744073709551615 by omega) (show B ≤ 18446744073709551615 by omega)
  omega
theorem mul_spec (A B : Nat) (hA : A < 18446744073709551616) (hB : B < 18446744073709551616) :
    wide_Mul.f (A : Int) (B : Int) = some (((A * B / 18446744073709551616 : Nat) : Int), ((A * B % 18446744073709551616 : Nat) : Int)) := by
  unfold wide_Mul.f
  rw [if_pos (by omega), ← Int.natCast_mul]
  rfl

theorem mul3_spec (H L B T : Nat) (hH : H < 18446744073709551616) (hL : L < 18446744073709551616) (hB : B < 18446744073709551616) (hT : H * B * 18446744073709551616 + L * B = T) :
    wide_Mul3.f (H : Int) (L : Int) (B : Int) = some (((T / 340282366920938463463374607431768211456 : Nat) : Int), ((T / 18446744073709551616 % 18446744073709551616 : Nat) : Int), ((T % 18446744073709551616 : Nat) : Int)) := by
  unfold wide_Mul3.f
  rw [mul_spec H B hH hB, mul_spec L B hL hB]
  have b1 := mul_bd H B hH hB
  have b2 := mul_bd L B hL hB
  obtain ⟨p, hp⟩ : ∃ p, H * B = p := ⟨_, rfl⟩
  obtain ⟨q, hq⟩ : ∃ q, L * B = q := ⟨_, rfl⟩
  rw [hp] at hT b1 ⊢
  rw [hq] at hT b2 ⊢
  simp only [Option.bind_some]
  have ha := add_spec (p % 18446744073709551616) (q / 18446744073709551616) 0 (by omega) (by omega) (by omega)
  rw [show ((0 : Nat) : Int) = 0 from rfl] at ha
  rw [ha]
  simp only [Option.bind_some, Option.some.injEq, Prod.mk.injEq, wrapI]
  omega

theorem WideRing : plumblaw01_WideRing.Pure := by
  intro a b c ha hb hc
  obtain ⟨A, rfl, hA⟩ := u64_nat ha
  obtain ⟨B, rfl, hB⟩ := u64_nat hb
  obtain ⟨C, rfl, hC⟩ := u64_nat hc
  obtain ⟨k, hk⟩ : ∃ k : Nat, 0 < k := ⟨1, by omega⟩
  refine ⟨k + 1 + 1, ?_⟩
  have m1 := mul_spec A B hA hB
  have m2 := mul_spec B A hB hA
  rw [Nat.mul_comm B A] at m2
  have m3 : wide_Mul.f (A : Int) 1 = some (0, (A : Int)) := by
    have h := mul_spec A 1 hA (by omega)
    rw [show ((1 : Nat) : Int) = 1 from rfl, Nat.mul_one, Nat.div_eq_of_lt hA, Nat.mod_eq_of_lt hA] at h
    exact h
  have m4 : wide_Mul.f (A : Int) 0 = some (0, 0) := by
    have h := mul_spec A 0 hA (by omega)
    rw [show ((0 : Nat) : Int) = 0 from rfl, Nat.mul_zero] at h
    exact h
  have m5 := mul_spec A C hA hC
  have b1 := mul_bd A B hA hB
  have b2 := mul_bd A C hA hC
  have ha1 := add_spec B C 0 hB hC (by omega)
  rw [show ((0 : Nat) : Int) = 0 from rfl] at ha1
  obtain ⟨s, hs⟩ : ∃ s, (B + C + 0 % 2) % 18446744073709551616 = s := ⟨_, rfl⟩
  obtain ⟨r, hr⟩ : ∃ r, (B + C + 0 % 2) / 18446744073709551616 = r := ⟨_, rfl⟩
  rw [hs, hr] at ha1
  have m6 := mul3_spec r s A (A * B + A * C) (by omega) (by omega) hA (by
    have e : B + C = r * 18446744073709551616 + s := by omega
    rw [← Nat.mul_add, e, Nat.mul_add, Nat.mul_comm A, Nat.mul_comm A, Nat.mul_right_comm])
  have hw : IntKind.u64.wrap ((A : Int) * (B : Int)) = ((A * B % 18446744073709551616 : Nat) : Int) := by rw [← Int.natCast_mul, wrapM]
  generalize A * B = p at *
  generalize A * C = q at *
  have ha2 := add_spec (p % 18446744073709551616) (q % 18446744073709551616) 0 (by omega) (by omega) (by omega)
  rw [show ((0 : Nat) : Int) = 0 from rfl] at ha2
  obtain ⟨l, hl⟩ : ∃ s, (p % 18446744073709551616 + q % 18446744073709551616 + 0 % 2) % 18446744073709551616 = s := ⟨_, rfl⟩
  obtain ⟨v, hv⟩ : ∃ s, (p % 18446744073709551616 + q % 18446744073709551616 + 0 % 2) / 18446744073709551616 = s := ⟨_, rfl⟩
  rw [hl, hv] at ha2
  have ha3 := add_spec (p / 18446744073709551616) (q / 18446744073709551616) v (by omega) (by omega) (by omega)
  obtain ⟨x, hx⟩ : ∃ s, (p / 18446744073709551616 + q / 18446744073709551616 + v % 2) % 18446744073709551616 = s := ⟨_, rfl⟩
  obtain ⟨y, hy⟩ : ∃ s, (p / 18446744073709551616 + q / 18446744073709551616 + v % 2) / 18446744073709551616 = s := ⟨_, rfl⟩
  rw [hx, hy] at ha3
  have f1 : (p + q) / 340282366920938463463374607431768211456 = y := by omega
  have f2 : (p + q) / 18446744073709551616 % 18446744073709551616 = x := by omega
  have f3 : (p + q) % 18446744073709551616 = l := by omega
  rw [f1, f2, f3] at m6
  unfold plumblaw01_WideRing.f
  rw [m1, m2]
  simp only [Option.bind_some, if_true, hw, bne_self_eq_false, plumblaw01_WideRing.j0, Bool.false_eq_true, if_false, m3, m4, plumblaw01_WideRing.j1, ha1, m6, m5, ha2, ha3, beq_self_eq_true]

end Go.Proofs.Ythinhdnbhkppgaa.Pure
