/- The law plumblaw01.WideSums, told as a function over whole numbers, answers true at every three words of 64 bits. No condition. -/
import Derived.Test.YthinhdnbhkppgaaPWideSumsx1
import Derived.Test.YthinhdnbhkppgaaMath
namespace Go.Proofs.Ythinhdnbhkppgaa.Pure
open Go.RowKit Go.Proofs.Ythinhdnbhkppgaa.PWideSums Go.Proofs.YthinhdnbhkppgaaW.PrintWords Go.Proofs.YthinhdnbhkppgaaW.PrintLast Go.Proofs.YthinhdnbhkppgaaW.PrintMore Go.Proofs.Ythinhdnbhkppgaa.Math

theorem add_spec (A B C : Nat) (hA : A < 18446744073709551616) (hB : B < 18446744073709551616) (hC : C < 18446744073709551616) :
    wide_Add.f (A : Int) (B : Int) (C : Int) = some ((((A + B + C % 2) % 18446744073709551616 : Nat) : Int), (((A + B + C % 2) / 18446744073709551616 : Nat) : Int)) := by
  unfold wide_Add.f
  simp only [wrapI, andN1 C hC]
  split
  · simp only [Option.some.injEq, Prod.mk.injEq]; omega
  · split <;> simp only [Option.some.injEq, Prod.mk.injEq] <;> omega

theorem sub_spec (A B C : Nat) (hA : A < 18446744073709551616) (hB : B < 18446744073709551616) (hC : C < 18446744073709551616) :
    wide_Sub.f (A : Int) (B : Int) (C : Int) = some ((((A + 36893488147419103232 - B - C % 2) % 18446744073709551616 : Nat) : Int), (((if A < B + C % 2 then 1 else 0 : Nat)) : Int)) := by
  unfold wide_Sub.f
  simp only [wrapI, andN1 C hC]
  by_cases h : A < B + C % 2
  · rw [if_pos h]
    repeat' split
    all_goals (simp only [Option.some.injEq, Prod.mk.injEq]; omega)
  · rw [if_neg h]
    repeat' split
    all_goals (simp only [Option.some.injEq, Prod.mk.injEq]; omega)

theorem refadd_l0 (A B c0 : Nat) (hA : A < 18446744073709551616) (hB : B < 18446744073709551616) (_h0 : c0 ≤ 1) (d : Nat) : ∀ (k s c i : Nat), i + d = 64 → d < k → s < 2 ^ i → c ≤ 1 →
    s + 2 ^ i * c = A % 2 ^ i + B % 2 ^ i + c0 →
    plumbref01_Add.l0 k (A : Int) (B : Int) (c : Int) (s : Int) (i : Int) = some ((((A + B + c0) % 18446744073709551616 : Nat) : Int), (((A + B + c0) / 18446744073709551616 : Nat) : Int)) := by
  induction d with
  | zero =>
    intro k s c i hi hk hs hc h
    obtain ⟨k, rfl⟩ : ∃ m, k = m + 1 := ⟨k - 1, by omega⟩
    obtain rfl : i = 64 := by omega
    simp only [plumbref01_Add.l0]
    rw [if_neg (by omega)]
    rw [show (2 : Nat) ^ 64 = 18446744073709551616 from rfl] at h hs
    simp only [Option.some.injEq, Prod.mk.injEq]
    omega
  | succ d ih =>
    intro k s c i hi hk hs hc h
    obtain ⟨k, rfl⟩ : ∃ m, k = m + 1 := ⟨k - 1, by omega⟩
    simp only [plumbref01_Add.l0]
    rw [if_pos (by omega), if_pos (by omega)]
    have ha : A / 2 ^ i < 18446744073709551616 := Nat.lt_of_le_of_lt (Nat.div_le_self _ _) hA
    have hb : B / 2 ^ i < 18446744073709551616 := Nat.lt_of_le_of_lt (Nat.div_le_self _ _) hB
    have hA2 := Nat.mod_mul (x := A) (a := 2 ^ i) (b := 2)
    have hB2 := Nat.mod_mul (x := B) (a := 2 ^ i) (b := 2)
    obtain ⟨n, hn⟩ : ∃ n, A / 2 ^ i % 2 + B / 2 ^ i % 2 + c = n := ⟨_, rfl⟩
    have hn3 : n ≤ 3 := by omega
    obtain ⟨e1, e2⟩ := step_mod (2 ^ i) s n hs
    have hp : (2 : Nat) ^ (i + 1) = 2 ^ i * 2 := Nat.pow_succ ..
    have hpl := pow_le64 (i := i + 1) (by omega)
    have hS : s + 2 ^ i * n = A % (2 ^ i * 2) + B % (2 ^ i * 2) + c0 := by
      rw [hA2, hB2, ← hn, Nat.mul_add, Nat.mul_add]; omega
    have hlt : s + 2 ^ i * (n % 2) < 2 ^ (i + 1) := by
      rw [hp, ← e1]; exact Nat.mod_lt _ (by omega)
    have hle : n % 2 * 2 ^ i < 18446744073709551616 := by
      rw [Nat.mul_comm]; omega
    rw [shrN A i (by omega), shrN B i (by omega), andN1 _ ha, andN1 _ hb, ← Int.natCast_add, wrapN _ (by omega), ← Int.natCast_add, hn, wrapN _ (by omega), andN1 _ (by omega), shlN _ i (by omega), Nat.mod_eq_of_lt hle,
      orN_add s (n % 2) i hs (by omega)]
    rw [show (n : Int) / 2 = ((n / 2 : Nat) : Int) from by omega, show wrap64 ((i : Int) + 1) = ((i + 1 : Nat) : Int) from by unfold wrap64; omega]
    refine ih k _ _ _ (by omega) (by omega) hlt (by omega) ?_
    rw [hp, ← hS, ← e1, ← e2]
    exact Nat.mod_add_div _ _
theorem refadd_spec (A B C k : Nat) (hA : A < 18446744073709551616) (hB : B < 18446744073709551616) (hC : C < 18446744073709551616) (hk : 64 < k) :
    plumbref01_Add.f k (A : Int) (B : Int) (C : Int) = some ((((A + B + C % 2) % 18446744073709551616 : Nat) : Int), (((A + B + C % 2) / 18446744073709551616 : Nat) : Int)) := by
  unfold plumbref01_Add.f
  rw [andN1 C hC]
  exact refadd_l0 A B (C % 2) hA hB (by omega) 64 k 0 (C % 2) 0 (by omega) hk (by simp) (by omega) (by simp [Nat.mod_one])

theorem subs_same (A B C k : Nat) (hA : A < 18446744073709551616) (hB : B < 18446744073709551616) (hC : C < 18446744073709551616) (hk : 64 < k) :
    ∃ s c : Int, wide_Sub.f (A : Int) (B : Int) (C : Int) = some (s, c) ∧ plumbref01_Sub.f k (A : Int) (B : Int) (C : Int) = some (s, c) := by
  refine ⟨_, _, sub_spec A B C hA hB hC, ?_⟩
  unfold plumbref01_Sub.f
  have h1 := refadd_spec A (18446744073709551615 - B) (1 - C % 2) k hA (by omega) (by omega) hk
  have e1 : bits .xor .u64 18446744073709551615 (B : Int) = ((18446744073709551615 - B : Nat) : Int) := not64 B hB
  have e2 : IntKind.u64.wrap (1 - (bits .and .u64 (C : Int) 1)) = ((1 - C % 2 : Nat) : Int) := by rw [andN1 C hC, wrapI]; omega
  obtain ⟨x, hx⟩ : ∃ x : Nat, 18446744073709551615 - B = x := ⟨_, rfl⟩
  obtain ⟨y, hy⟩ : ∃ y : Nat, 1 - C % 2 = y := ⟨_, rfl⟩
  rw [hx] at h1 e1
  rw [hy] at h1 e2
  rw [e1, e2, h1]
  simp only [Option.bind_some, Option.some.injEq, Prod.mk.injEq, wrapI]
  by_cases h : A < B + C % 2
  · rw [if_pos h]; omega
  · rw [if_neg h]; omega
theorem adds_same (A B C k : Nat) (hA : A < 18446744073709551616) (hB : B < 18446744073709551616) (hC : C < 18446744073709551616) (hk : 64 < k) :
    ∃ s c : Int, wide_Add.f (A : Int) (B : Int) (C : Int) = some (s, c) ∧ plumbref01_Add.f k (A : Int) (B : Int) (C : Int) = some (s, c) :=
  ⟨_, _, add_spec A B C hA hB hC, refadd_spec A B C k hA hB hC hk⟩
theorem WideSums : plumblaw01_WideSums.Pure := by
  intro a b c ha hb hc
  obtain ⟨A, rfl, hA⟩ := u64_nat ha
  obtain ⟨B, rfl, hB⟩ := u64_nat hb
  obtain ⟨C, rfl, hC⟩ := u64_nat hc
  obtain ⟨k, hk⟩ : ∃ k : Nat, 64 < k := ⟨65, by omega⟩
  refine ⟨k + 1, ?_⟩
  obtain ⟨s, c, h1, h2⟩ := adds_same A B C (k + 1) hA hB hC (by omega)
  obtain ⟨s', c', h3, h4⟩ := subs_same A B C k hA hB hC hk
  unfold plumblaw01_WideSums.f
  rw [h1, h2]
  simp only [Option.bind_some, if_true, bne_self_eq_false, plumblaw01_WideSums.j0, Bool.false_eq_true, if_false]
  rw [h3, h4]
  simp

end Go.Proofs.Ythinhdnbhkppgaa.Pure
