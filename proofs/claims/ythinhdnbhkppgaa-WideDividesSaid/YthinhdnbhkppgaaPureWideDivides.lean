/- The law plumblaw01.WideDivides, told as a function over whole numbers, answers true at every three words of 64 bits. No condition. -/
import Derived.Test.YthinhdnbhkppgaaPWideDividesx2
import Derived.Test.YthinhdnbhkppgaaMath
import Derived.Test.YthinhdnbhkppgaaMathBits
namespace Go.Proofs.Ythinhdnbhkppgaa.Pure
open Go.RowKit Go.Proofs.Ythinhdnbhkppgaa.PWideDivides Go.Proofs.YthinhdnbhkppgaaW.PrintWords Go.Proofs.YthinhdnbhkppgaaW.PrintLast Go.Proofs.YthinhdnbhkppgaaW.PrintMore Go.Proofs.Ythinhdnbhkppgaa.Math

theorem add_spec (A B C : Nat) (hA : A < 18446744073709551616) (hB : B < 18446744073709551616) (hC : C < 18446744073709551616) :
    wide_Add.f (A : Int) (B : Int) (C : Int) = some ((((A + B + C % 2) % 18446744073709551616 : Nat) : Int), (((A + B + C % 2) / 18446744073709551616 : Nat) : Int)) := by
  unfold wide_Add.f
  simp only [wrapI, andN1 C hC]
  split
  · simp only [Option.some.injEq, Prod.mk.injEq]; omega
  · split <;> simp only [Option.some.injEq, Prod.mk.injEq] <;> omega

theorem mul_bd (A B : Nat) (hA : A < 18446744073709551616) (hB : B < 18446744073709551616) : A * B ≤ 340282366920938463426481119284349108225 := by
  have := Nat.mul_le_mul (show A ≤ 18446744073709551615 by omega) (show B ≤ 18446744073709551615 by omega)
  omega
theorem mul_spec (A B : Nat) (hA : A < 18446744073709551616) (hB : B < 18446744073709551616) :
    wide_Mul.f (A : Int) (B : Int) = some (((A * B / 18446744073709551616 : Nat) : Int), ((A * B % 18446744073709551616 : Nat) : Int)) := by
  unfold wide_Mul.f
  rw [if_pos (by omega), ← Int.natCast_mul]
  rfl

theorem div_zero (H L : Nat) (hH : H < 18446744073709551616) (hL : L < 18446744073709551616) : wide_Div.f (H : Int) (L : Int) 0 = some (0, 0, 10) := by
  unfold wide_Div.f
  rw [if_pos (by omega), if_pos rfl]
theorem div_over (H L B : Nat) (hH : H < 18446744073709551616) (hL : L < 18446744073709551616) (hB : B < 18446744073709551616) (h0 : 0 < B) (h : B ≤ H) : wide_Div.f (H : Int) (L : Int) (B : Int) = some (0, 0, 11) := by
  unfold wide_Div.f
  rw [if_pos (by omega), if_neg (by omega), if_pos (by omega)]
theorem div_spec (H L B : Nat) (hL : L < 18446744073709551616) (hB : B < 18446744073709551616) (h : H < B) :
    wide_Div.f (H : Int) (L : Int) (B : Int) = some ((((H * 18446744073709551616 + L) / B : Nat) : Int), (((H * 18446744073709551616 + L) % B : Nat) : Int), 0) := by
  unfold wide_Div.f
  rw [if_pos (by omega), if_neg (by omega), if_neg (by omega)]
  simp

theorem WideDivides : plumblaw01_WideDivides.Pure := by
  intro a b c ha hb hc
  obtain ⟨Q, rfl, hQ⟩ := u64_nat ha
  obtain ⟨B, rfl, hB⟩ := u64_nat hb
  obtain ⟨R0, rfl, hR0⟩ := u64_nat hc
  obtain ⟨k, hk⟩ : ∃ k : Nat, 0 < k := ⟨1, by omega⟩
  refine ⟨k + 1, ?_⟩
  unfold plumblaw01_WideDivides.f plumblaw01_num.f
  rcases Nat.eq_zero_or_pos B with h0 | h0
  · subst h0
    rw [show ((0 : Nat) : Int) = 0 from rfl, if_pos rfl, div_zero R0 Q hR0 hQ]
    rfl
  · rw [if_neg (by omega), show Int.tmod (R0 : Int) (B : Int) = ((R0 % B : Nat) : Int) from by rw [Int.tmod_eq_emod_of_nonneg (by omega)]; rfl]
    have hr := Nat.mod_lt R0 h0
    obtain ⟨r, hr'⟩ : ∃ r, R0 % B = r := ⟨_, rfl⟩
    rw [hr'] at hr ⊢
    have hm := mul_spec Q B hQ hB
    have hlt : Q * B + r < B * 18446744073709551616 := by
      have := Nat.mul_le_mul_right B (show Q + 1 ≤ 18446744073709551616 by omega)
      rw [Nat.add_mul, Nat.mul_comm 18446744073709551616] at this
      omega
    have hq : (Q * B + r) / B = Q ∧ (Q * B + r) % B = r := by
      rw [Nat.mul_comm, Nat.mul_add_div h0, Nat.mul_add_mod, Nat.div_eq_of_lt hr, Nat.mod_eq_of_lt hr]
      exact ⟨rfl, rfl⟩
    obtain ⟨p, hp⟩ : ∃ p, Q * B = p := ⟨_, rfl⟩
    rw [hp] at hm hlt hq
    have h1 := add_spec (p % 18446744073709551616) r 0 (by omega) (by omega) (by omega)
    obtain ⟨l, hl⟩ : ∃ l, (p % 18446744073709551616 + r + 0 % 2) % 18446744073709551616 = l := ⟨_, rfl⟩
    obtain ⟨c1, hc1⟩ : ∃ l, (p % 18446744073709551616 + r + 0 % 2) / 18446744073709551616 = l := ⟨_, rfl⟩
    rw [hl, hc1] at h1
    have h2 := add_spec (p / 18446744073709551616) 0 c1 (by omega) (by omega) (by omega)
    have hh : p / 18446744073709551616 + 0 + c1 % 2 < B := by omega
    obtain ⟨h, hh'⟩ : ∃ h, p / 18446744073709551616 + 0 + c1 % 2 = h := ⟨_, rfl⟩
    rw [hh'] at hh
    have d1 : h / 18446744073709551616 = 0 := Nat.div_eq_of_lt (by omega)
    have d2 : h % 18446744073709551616 = h := Nat.mod_eq_of_lt (by omega)
    rw [hh', d1, d2] at h2
    have h3 := div_spec h l B (by omega) hB hh
    rw [show h * 18446744073709551616 + l = p + r from by omega, hq.1, hq.2] at h3
    have h4 := div_over B Q B hB hQ hB h0 (Nat.le_refl _)
    have h5 := div_spec (B - 1) Q B hQ hB (by omega)
    rw [show (((B - 1 : Nat)) : Int) = IntKind.u64.wrap ((B : Int) - 1) from by rw [wrapI]; omega] at h5
    rw [show ((0 : Nat) : Int) = 0 from rfl] at h1 h2
    rw [hm]
    simp only [Option.bind_some]
    rw [h1]
    simp only [Option.bind_some]
    rw [h2]
    simp only [Option.bind_some, if_true]
    rw [h3]
    simp only [Option.bind_some, if_true, plumblaw01_WideDivides.j0, bne_self_eq_false, Bool.false_eq_true, if_false]
    rw [h4]
    simp only [Option.bind_some, if_true, plumblaw01_num.f]
    rw [h5]
    rfl

end Go.Proofs.Ythinhdnbhkppgaa.Pure
