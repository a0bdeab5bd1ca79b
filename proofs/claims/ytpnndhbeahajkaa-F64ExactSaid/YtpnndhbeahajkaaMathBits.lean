/- Plain arithmetic of the lowest bit 1 of a number and of its length in bits. -/
import Derived.Test.YtpnndhbeahajkaaMath
namespace Go.Proofs.Ytpnndhbeahajkaa.Math
open Go.RowKit Go.Proofs.YtpnndhbeahajkaaW.PrintWords Go.Proofs.YtpnndhbeahajkaaW.PrintMore

theorem odd_part (n : Nat) (h : 0 < n) : ∃ z q, n = 2 ^ z * (2 * q + 1) := by
  induction n using Nat.strongRecOn with
  | _ n ih =>
    rcases Nat.mod_two_eq_zero_or_one n with h2 | h2
    · obtain ⟨z, q, e⟩ := ih (n / 2) (by omega) (by omega)
      refine ⟨z + 1, q, ?_⟩
      rw [Nat.pow_succ, Nat.mul_right_comm, ← e]; omega
    · exact ⟨0, n / 2, by simp; omega⟩
theorem low_bit (z q : Nat) (h : 2 ^ z * (2 * q + 1) < 2 ^ 64) : 2 ^ z * (2 * q + 1) &&& (2 ^ 64 - 2 ^ z * (2 * q + 1)) = 2 ^ z := by
  have hp : 0 < 2 ^ z := Nat.two_pow_pos z
  have hz : z < 64 := by
    rcases Nat.lt_or_ge z 64 with h' | h'
    · exact h'
    · exfalso
      have h1 : 2 ^ 64 ≤ 2 ^ z := Nat.pow_le_pow_right (by omega) h'
      have h2 : 2 ^ z * 1 ≤ 2 ^ z * (2 * q + 1) := Nat.mul_le_mul_left _ (by omega)
      omega
  have e1 : 2 ^ z * (2 * q + 1) = 2 ^ z * (2 * q) + (2 ^ z - 1) + 1 := by rw [Nat.mul_add, Nat.mul_one]; omega
  apply Nat.eq_of_testBit_eq
  intro i
  rw [Nat.testBit_and]
  have hb : (2 ^ 64 - 2 ^ z * (2 * q + 1)).testBit i = (decide (i < 64) && !(2 ^ z * (2 * q) + (2 ^ z - 1)).testBit i) := by
    rw [e1]
    exact Nat.testBit_two_pow_sub_succ (by rw [e1] at h; omega) i
  rw [hb, Nat.testBit_two_pow_mul_add (2 * q) (b := 2 ^ z - 1) (by omega) i]
  have ha : (2 ^ z * (2 * q + 1)).testBit i = if i < z then false else (2 * q + 1).testBit (i - z) := by
    have := Nat.testBit_two_pow_mul_add (2 * q + 1) (b := 0) (i := z) (by omega) i
    rw [Nat.add_zero, Nat.zero_testBit] at this
    exact this
  rw [ha, Nat.testBit_two_pow]
  by_cases h1 : i < z
  · rw [if_pos h1, if_pos h1]; simp; omega
  · rw [if_neg h1, if_neg h1]
    by_cases h2 : i = z
    · subst h2
      simp [hz]
    · obtain ⟨m, hm⟩ : ∃ m, i - z = m + 1 := ⟨i - z - 1, by omega⟩
      rw [hm, Nat.testBit_succ, Nat.testBit_succ, show (2 * q + 1) / 2 = q from by omega, show 2 * q / 2 = q from by omega]
      have : decide (z = i) = false := by simp; omega
      rw [this]
      cases q.testBit m <;> simp
/-- L is the length in bits of x. -/
def IsLen (x L : Nat) : Prop := x < 2 ^ L ∧ (0 < L → 2 ^ (L - 1) ≤ x)
theorem IsLen.shift {x y L K : Nat} (hy : x / 2 ^ K = y) (h0 : 0 < y) (h : IsLen y L) : IsLen x (L + K) := by
  have hp : 0 < 2 ^ K := Nat.two_pow_pos K
  have hd := Nat.div_add_mod x (2 ^ K)
  have hm := Nat.mod_lt x hp
  rw [hy] at hd
  have hL : 0 < L := by
    rcases Nat.eq_zero_or_pos L with h' | h'
    · subst h'; have := h.1; simp at this; omega
    · exact h'
  refine ⟨?_, fun _ => ?_⟩
  · have h1 : 2 ^ K * (y + 1) ≤ 2 ^ K * 2 ^ L := Nat.mul_le_mul_left _ h.1
    rw [Nat.mul_add, Nat.mul_one] at h1
    rw [Nat.pow_add, Nat.mul_comm (2 ^ L)]
    omega
  · have h1 : 2 ^ K * 2 ^ (L - 1) ≤ 2 ^ K * y := Nat.mul_le_mul_left _ (h.2 hL)
    rw [show L + K - 1 = K + (L - 1) from by omega, Nat.pow_add]
    omega
theorem IsLen.uniq {x L M : Nat} (h : IsLen x L) (k : IsLen x M) : L = M := by
  have key : ∀ {a b}, IsLen x a → IsLen x b → ¬ a < b := fun {a b} h k hlt => by
    have h1 : 2 ^ a ≤ 2 ^ (b - 1) := Nat.pow_le_pow_right (by omega) (by omega)
    have := k.2 (by omega)
    have := h.1
    omega
  have := key h k
  have := key k h
  omega
theorem IsLen.zero : IsLen 0 0 := ⟨by simp, fun h => by omega⟩
theorem IsLen.pow (z : Nat) : IsLen (2 ^ z) (z + 1) := ⟨Nat.pow_lt_pow_right (by omega) (by omega), fun _ => by simp⟩
theorem IsLen.pred (z : Nat) : IsLen (2 ^ z - 1) z := by
  have hp : 0 < 2 ^ z := Nat.two_pow_pos z
  refine ⟨by omega, fun h => ?_⟩
  have e : 2 ^ z = 2 ^ (z - 1) * 2 := by rw [← Nat.pow_succ]; congr 1; omega
  have hq : 0 < 2 ^ (z - 1) := Nat.two_pow_pos _
  omega
theorem IsLen.top {x L : Nat} (h : IsLen x L) (h0 : 0 < L) : x / 2 ^ (L - 1) = 1 := by
  have hp : 0 < 2 ^ (L - 1) := Nat.two_pow_pos _
  have e : 2 ^ L = 2 ^ (L - 1) * 2 := by rw [← Nat.pow_succ]; congr 1; omega
  have h1 := h.1
  have h2 := h.2 h0
  rw [e] at h1
  have hlt : x / 2 ^ (L - 1) < 2 := (Nat.div_lt_iff_lt_mul hp).2 (by rw [Nat.mul_comm]; exact h1)
  have hle : 1 ≤ x / 2 ^ (L - 1) := (Nat.le_div_iff_mul_le hp).2 (by omega)
  omega
theorem neg_and (n : Nat) (h0 : 0 < n) (h : n < 18446744073709551616) : ∃ z q, n = 2 ^ z * (2 * q + 1) ∧ z < 64 ∧ bits .and .u64 (n : Int) (IntKind.u64.wrap (-(n : Int))) = ((2 ^ z : Nat) : Int) := by
  obtain ⟨z, q, e⟩ := odd_part n h0
  refine ⟨z, q, e, ?_, ?_⟩
  · rcases Nat.lt_or_ge z 64 with h' | h'
    · exact h'
    · exfalso
      have h1 : 2 ^ 64 ≤ 2 ^ z := Nat.pow_le_pow_right (by omega) h'
      have h2 : 2 ^ z * 1 ≤ 2 ^ z * (2 * q + 1) := Nat.mul_le_mul_left _ (by omega)
      rw [← e, Nat.mul_one] at h2
      rw [show (2 : Nat) ^ 64 = 18446744073709551616 from rfl] at h1
      omega
  · rw [show IntKind.u64.wrap (-(n : Int)) = ((2 ^ 64 - n : Nat) : Int) from by
      rw [wrapI, show (2 : Nat) ^ 64 = 18446744073709551616 from rfl]; omega]
    rw [u64_and_nat n (2 ^ 64 - n) h (by rw [show (2 : Nat) ^ 64 = 18446744073709551616 from rfl]; omega)]
    congr 1
    have := low_bit z q (by rw [← e]; exact h)
    rw [← e] at this
    exact this
end Go.Proofs.Ytpnndhbeahajkaa.Math
