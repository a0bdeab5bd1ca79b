/- The law plumblaw01.WideBack, told as a function over whole numbers, answers true at every three words of 64 bits. No condition. -/
import Derived.Test.YthinhdnbhkppgaaPWideBackx1
import Derived.Test.YthinhdnbhkppgaaMath
import Derived.Test.YthinhdnbhkppgaaMathBits
namespace Go.Proofs.Ythinhdnbhkppgaa.Pure
open Go.RowKit Go.Proofs.Ythinhdnbhkppgaa.PWideBack Go.Proofs.YthinhdnbhkppgaaW.PrintWords Go.Proofs.YthinhdnbhkppgaaW.PrintLast Go.Proofs.YthinhdnbhkppgaaW.PrintMore Go.Proofs.Ythinhdnbhkppgaa.Math

theorem add_spec (A B C : Nat) (hA : A < 18446744073709551616) (hB : B < 18446744073709551616) (hC : C < 18446744073709551616) :
    wide_Add.f (A : Int) (B : Int) (C : Int) = some ((((A + B + C % 2) % 18446744073709551616 : Nat) : Int), (((A + B + C % 2) / 18446744073709551616 : Nat) : Int)) := by
  unfold wide_Add.f
  simp only [wrapI, andN1 C hC]
  split
  · simp only [Option.some.injEq, Prod.mk.injEq]; omega
  · split <;> simp only [Option.some.injEq, Prod.mk.injEq] <;> omega

theorem sub_spec (A B C : Nat) (hA : A < 18446744073709551616) (hB : B < 18446744073709551616) (hC : C < 18446744073709551616) :
    wide_Sub.f (A : Int) (B : Int) (C : Int) = some ((((A + 36893488147419103232 - B - C % 2) % 18446744073709551616 : Nat) : Int), (((if A < B + C % 2 then 1 else 0 : Nat)) : Int)) := by
  unfold wide_Sub.f
  simp only [wrapI, andN1 C hC]
  by_cases h : A < B + C % 2
  · rw [if_pos h]
    repeat' split
    all_goals (simp only [Option.some.injEq, Prod.mk.injEq]; omega)
  · rw [if_neg h]
    repeat' split
    all_goals (simp only [Option.some.injEq, Prod.mk.injEq]; omega)

theorem WideBack : plumblaw01_WideBack.Pure := by
  intro a b c ha hb hc
  obtain ⟨A, rfl, hA⟩ := u64_nat ha
  obtain ⟨B, rfl, hB⟩ := u64_nat hb
  obtain ⟨C, rfl, hC⟩ := u64_nat hc
  refine ⟨1, ?_⟩
  obtain ⟨s, hs⟩ : ∃ s : Nat, (A + B + C % 2) % 18446744073709551616 = s := ⟨_, rfl⟩
  obtain ⟨r, hr⟩ : ∃ r : Nat, (A + B + C % 2) / 18446744073709551616 = r := ⟨_, rfl⟩
  have h1 := add_spec A B C hA hB hC
  rw [hs, hr] at h1
  have h2 : wide_Sub.f (s : Int) (B : Int) (C : Int) = some ((A : Int), (r : Int)) := by
    rw [sub_spec s B C (by omega) hB hC]
    simp only [Option.some.injEq, Prod.mk.injEq]
    by_cases h : s < B + C % 2
    · rw [if_pos h]; omega
    · rw [if_neg h]; omega
  unfold plumblaw01_WideBack.f
  rw [h1]
  simp only [Option.bind_some, andN1 C hC, wrapI]
  rw [if_pos (by omega), show decide ((r : Int) > 1) = false from by simp; omega]
  simp only [plumblaw01_WideBack.j0, Bool.false_eq_true, if_false, h2, Option.bind_some, if_true, andN1 C hC, beq_self_eq_true]
  by_cases c1 : (s : Int) < (A : Int)
  · rw [if_pos c1]
    obtain rfl : r = 1 := by omega
    simp
  · rw [if_neg c1]
    by_cases c2 : (s : Int) = (A : Int)
    · rw [if_pos c2]
      by_cases c3 : (B : Int) > 0
      · rw [if_pos c3]
        obtain rfl : r = 1 := by omega
        simp
      · rw [if_neg c3]
        obtain e : r = C % 2 := by omega
        rw [e]
        simp
    · rw [if_neg c2]
      obtain rfl : r = 0 := by omega
      simp

end Go.Proofs.Ythinhdnbhkppgaa.Pure
