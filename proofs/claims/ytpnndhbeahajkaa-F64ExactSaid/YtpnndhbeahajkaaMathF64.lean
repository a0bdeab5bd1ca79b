/- Plain arithmetic of the fields of a pattern of 64 bits, in the spelling of the walk. -/
import Derived.Test.YtpnndhbeahajkaaMath
namespace Go.Proofs.Ytpnndhbeahajkaa.Math
open Go.RowKit Go.Proofs.YtpnndhbeahajkaaW.PrintWords Go.Proofs.YtpnndhbeahajkaaW.PrintMore

theorem and_mask (b m i : Nat) (hb : b < 18446744073709551616) (hm : m + 1 = 2 ^ i) (hi : i < 64) : bits .and .u64 (b : Int) (m : Int) = ((b % 2 ^ i : Nat) : Int) := by
  have hle : 2 ^ i ≤ 9223372036854775808 := by
    have := Nat.pow_le_pow_right (n := 2) (by omega) (show i ≤ 63 by omega)
    simpa using this
  rw [u64_and_nat b m hb (by omega), show m = 2 ^ i - 1 from by omega, Nat.and_two_pow_sub_one_eq_mod]
theorem and2047 (b : Nat) (hb : b < 18446744073709551616) : bits .and .u64 (b : Int) 2047 = ((b % 2048 : Nat) : Int) := and_mask b 2047 11 hb rfl (by omega)
theorem and52 (b : Nat) (hb : b < 18446744073709551616) : bits .and .u64 (b : Int) 4503599627370495 = ((b % 4503599627370496 : Nat) : Int) := and_mask b 4503599627370495 52 hb rfl (by omega)
theorem bit63 (i : Nat) : Nat.testBit 9223372036854775808 i = decide (63 = i) := by
  rw [show (9223372036854775808 : Nat) = 2 ^ 63 from rfl, Nat.testBit_two_pow]
theorem low63 (b : Nat) (h : b < 9223372036854775808) : b.testBit 63 = false := Nat.testBit_lt_two_pow h
theorem high63 (b : Nat) (h : b / 9223372036854775808 = 1) : b.testBit 63 = true := by
  rw [Nat.testBit_eq_decide_div_mod_eq]
  exact decide_eq_true (by rw [show (2 : Nat) ^ 63 = 9223372036854775808 from rfl, h])
theorem high_add (c : Nat) (hc : c < 9223372036854775808) (i : Nat) : (9223372036854775808 + c).testBit i = if i = 63 then true else c.testBit i := by
  have e := Nat.two_pow_add_eq_or_of_lt (i := 63) hc 1
  have e2 : 9223372036854775808 + c = 9223372036854775808 ||| c := e
  rw [e2, Nat.testBit_or, bit63]
  by_cases h : i = 63
  · subst h; simp
  · rw [if_neg h, show decide (63 = i) = false from decide_eq_false (fun e => h e.symm), Bool.false_or]
theorem nat_and63 (b : Nat) (hb : b < 18446744073709551616) : b &&& 9223372036854775808 = b / 9223372036854775808 * 9223372036854775808 := by
  apply Nat.eq_of_testBit_eq
  intro i
  rw [Nat.testBit_and, bit63]
  rcases (show b / 9223372036854775808 = 0 ∨ b / 9223372036854775808 = 1 by omega) with h | h
  · rw [h, Nat.zero_mul, Nat.zero_testBit]
    by_cases hi : 63 = i
    · subst hi; rw [low63 b (by omega)]; rfl
    · rw [decide_eq_false hi, Bool.and_false]
  · rw [h, Nat.one_mul, bit63]
    by_cases hi : 63 = i
    · subst hi; rw [high63 b h]; rfl
    · rw [decide_eq_false hi, Bool.and_false]
theorem and63 (b : Nat) (hb : b < 18446744073709551616) : bits .and .u64 (b : Int) 9223372036854775808 = ((b / 9223372036854775808 * 9223372036854775808 : Nat) : Int) := by
  have h := u64_and_nat b 9223372036854775808 hb (by omega)
  rw [nat_and63 b hb] at h
  exact h
theorem nat_xor63_low (b : Nat) (hb : b < 9223372036854775808) : b ^^^ 9223372036854775808 = 9223372036854775808 + b := by
  apply Nat.eq_of_testBit_eq
  intro i
  rw [Nat.testBit_xor, bit63, high_add b hb]
  by_cases h : i = 63
  · subst h; rw [if_pos rfl, low63 b hb]; rfl
  · rw [if_neg h, decide_eq_false (fun e => h e.symm), Bool.xor_false]
theorem nat_xor63_high (c : Nat) (hc : c < 9223372036854775808) : (9223372036854775808 + c) ^^^ 9223372036854775808 = c := by
  apply Nat.eq_of_testBit_eq
  intro i
  rw [Nat.testBit_xor, bit63, high_add c hc]
  by_cases h : i = 63
  · subst h; rw [if_pos rfl, low63 c hc]; rfl
  · rw [if_neg h, decide_eq_false (fun e => h e.symm), Bool.xor_false]
theorem xor63 (b : Nat) (hb : b < 18446744073709551616) : bits .xor .u64 (b : Int) 9223372036854775808 = (((b + 9223372036854775808) % 18446744073709551616 : Nat) : Int) := by
  have h := u64_xor_nat b 9223372036854775808 hb (by omega)
  refine h.trans (congrArg (fun n : Nat => (n : Int)) ?_)
  rcases Nat.lt_or_ge b 9223372036854775808 with h1 | h1
  · rw [nat_xor63_low b h1]; omega
  · obtain ⟨c, hc⟩ : ∃ c, b = 9223372036854775808 + c := ⟨b - 9223372036854775808, by omega⟩
    subst hc
    rw [nat_xor63_high c (by omega)]; omega
theorem andNot63 (b : Nat) (hb : b < 18446744073709551616) : bits .andNot .u64 (b : Int) 9223372036854775808 = ((b % 9223372036854775808 : Nat) : Int) := by
  have h := u64_andNot_nat b 9223372036854775808 hb (by omega)
  refine h.trans (congrArg (fun n : Nat => (n : Int)) ?_)
  have e := Nat.and_two_pow_sub_one_eq_mod b 63
  exact e
theorem or52 (f : Nat) (hf : f < 4503599627370496) : bits .or .u64 4503599627370496 (f : Int) = ((4503599627370496 + f : Nat) : Int) := by
  have h := orN_add' f 1 52 hf (by omega)
  exact Eq.trans h (congrArg (fun n : Nat => (n : Int)) (by omega))
/-- a sign laid over a pattern without one -/
theorem or_sign (s x : Nat) (hs : s = 0 ∨ s = 9223372036854775808) (hx : x < 9223372036854775808) : bits .or .u64 (s : Int) (x : Int) = ((s + x : Nat) : Int) := by
  rcases hs with h | h
  · subst h
    have h := orN_add' x 0 63 hx (by omega)
    exact Eq.trans h (congrArg (fun n : Nat => (n : Int)) (by omega))
  · subst h
    have h := orN_add' x 1 63 hx (by omega)
    exact Eq.trans h (congrArg (fun n : Nat => (n : Int)) (by omega))
theorem or_sign' (s x : Nat) (hs : s = 0 ∨ s = 9223372036854775808) (hx : x < 9223372036854775808) : bits .or .u64 (x : Int) (s : Int) = ((s + x : Nat) : Int) := by
  rcases hs with h | h
  · subst h
    have h := orN_add x 0 63 hx (by omega)
    exact Eq.trans h (congrArg (fun n : Nat => (n : Int)) (by omega))
  · subst h
    have h := orN_add x 1 63 hx (by omega)
    exact Eq.trans h (congrArg (fun n : Nat => (n : Int)) (by omega))
end Go.Proofs.Ytpnndhbeahajkaa.Math
