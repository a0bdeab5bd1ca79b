/- Plain arithmetic of shifts of two words. -/
import Derived.Test.YtpnndhbeahajkaaMath
namespace Go.Proofs.Ytpnndhbeahajkaa.Math
open Go.RowKit Go.Proofs.YtpnndhbeahajkaaW.PrintWords Go.Proofs.YtpnndhbeahajkaaW.PrintMore

theorem pow64 (n : Nat) (h : n ≤ 64) : (2 : Nat) ^ n * 2 ^ (64 - n) = 18446744073709551616 := by
  rw [← Nat.pow_add, show n + (64 - n) = 64 from by omega]
/-- a word moved to the left: what is pushed out, what stays -/
theorem left_word (L n : Nat) (h : n ≤ 64) : L * 2 ^ n = L / 2 ^ (64 - n) * 18446744073709551616 + L % 2 ^ (64 - n) * 2 ^ n ∧ L % 2 ^ (64 - n) * 2 ^ n + 2 ^ n ≤ 18446744073709551616 := by
  have hp := pow64 n h
  have hq := Nat.two_pow_pos (64 - n)
  have e := Nat.div_add_mod L (2 ^ (64 - n))
  have hm := Nat.mod_lt L hq
  constructor
  · conv => lhs; rw [← e]
    rw [Nat.add_mul, ← hp, Nat.mul_comm (2 ^ (64 - n)) (L / 2 ^ (64 - n)), Nat.mul_assoc, Nat.mul_comm (2 ^ (64 - n))]
  · have := Nat.mul_le_mul_right (2 ^ n) hm
    rw [Nat.succ_mul, Nat.mul_comm (2 ^ (64 - n)), hp] at this
    exact this
theorem left_mod (L n : Nat) (h : n ≤ 64) : L * 2 ^ n % 18446744073709551616 = L % 2 ^ (64 - n) * 2 ^ n := by
  obtain ⟨e, hb⟩ := left_word L n h
  have hp := Nat.two_pow_pos n
  rw [e, Nat.add_comm, Nat.add_mul_mod_self_right, Nat.mod_eq_of_lt (by omega)]
theorem right_lt (L n : Nat) (hL : L < 18446744073709551616) (h : n ≤ 64) : L / 2 ^ (64 - n) < 2 ^ n := by
  rw [Nat.div_lt_iff_lt_mul (Nat.two_pow_pos _), pow64 n h]; exact hL
/-- Two words moved to the left by less than a word. -/
theorem shl_small_words (H L n T : Nat) (hL : L < 18446744073709551616) (h : n ≤ 64) (hT : T = (H * 18446744073709551616 + L) * 2 ^ n) :
    T / 18446744073709551616 % 18446744073709551616 = L / 2 ^ (64 - n) + 2 ^ n * (H % 2 ^ (64 - n)) ∧ T % 18446744073709551616 = L * 2 ^ n % 18446744073709551616 ∧
      L / 2 ^ (64 - n) + 2 ^ n * (H % 2 ^ (64 - n)) < 18446744073709551616 := by
  obtain ⟨eL, bL⟩ := left_word L n h
  obtain ⟨eH, bH⟩ := left_word H n h
  have hr := right_lt L n hL h
  have e : T = (H * 2 ^ n) * 18446744073709551616 + L * 2 ^ n := by rw [hT, Nat.add_mul, Nat.mul_right_comm]
  rw [eH, eL] at e
  rw [eL, Nat.mul_comm (2 ^ n) (H % _)]
  generalize L / 2 ^ (64 - n) = a at *
  generalize L % 2 ^ (64 - n) * 2 ^ n = b at *
  generalize H / 2 ^ (64 - n) = c at *
  generalize H % 2 ^ (64 - n) * 2 ^ n = d at *
  generalize 2 ^ n = p at *
  clear hT eL eH
  omega
/-- Two words moved to the left by a word or more. -/
theorem shl_big_words (H L n T : Nat) (h : 64 ≤ n) (hT : T = (H * 18446744073709551616 + L) * 2 ^ n) :
    T / 18446744073709551616 % 18446744073709551616 = L * 2 ^ (n - 64) % 18446744073709551616 ∧ T % 18446744073709551616 = 0 := by
  have e : (2 : Nat) ^ n = 2 ^ (n - 64) * 18446744073709551616 := by
    rw [show (18446744073709551616 : Nat) = 2 ^ 64 from rfl, ← Nat.pow_add]; congr 1; omega
  rw [hT, e, ← Nat.mul_assoc, Nat.mul_mod_left, Nat.mul_div_cancel _ (by omega), Nat.add_mul, Nat.mul_right_comm, Nat.add_comm, Nat.add_mul_mod_self_right]
  exact ⟨rfl, rfl⟩
/-- Two words moved to the right by less than a word. -/
theorem shr_small_words (H L n T : Nat) (hL : L < 18446744073709551616) (h : n ≤ 64) (hT : T = (H * 18446744073709551616 + L) / 2 ^ n) :
    T / 18446744073709551616 = H / 2 ^ n ∧ T % 18446744073709551616 = L / 2 ^ n + 2 ^ (64 - n) * (H % 2 ^ n) ∧ (H * 18446744073709551616 + L) % 2 ^ n = L % 2 ^ n := by
  have hp := Nat.two_pow_pos n
  have hpq := pow64 n h
  have e : H * 18446744073709551616 + L = 2 ^ n * (H * 2 ^ (64 - n)) + L := by rw [← hpq, Nat.mul_left_comm]
  have e1 : T = H * 2 ^ (64 - n) + L / 2 ^ n := by rw [hT, e, Nat.mul_add_div hp]
  have e2 : (H * 18446744073709551616 + L) % 2 ^ n = L % 2 ^ n := by rw [e, Nat.mul_add_mod]
  have hd := Nat.div_add_mod H (2 ^ n)
  have hm := Nat.mod_lt H hp
  have hl : L / 2 ^ n < 2 ^ (64 - n) := by
    rw [Nat.div_lt_iff_lt_mul hp, Nat.mul_comm, hpq]; exact hL
  have e3 : H * 2 ^ (64 - n) = H / 2 ^ n * 18446744073709551616 + 2 ^ (64 - n) * (H % 2 ^ n) := by
    conv => lhs; rw [← hd]
    rw [Nat.add_mul, ← hpq, Nat.mul_right_comm, Nat.mul_comm (H % 2 ^ n), Nat.mul_comm (H / 2 ^ n)]
  have hb : 2 ^ (64 - n) * (H % 2 ^ n) + 2 ^ (64 - n) ≤ 18446744073709551616 := by
    have := Nat.mul_le_mul_left (2 ^ (64 - n)) hm
    rw [Nat.mul_succ, Nat.mul_comm (2 ^ (64 - n)) (2 ^ n), hpq] at this
    exact this
  refine ⟨?_, ?_, e2⟩
  · rw [e1, e3]
    generalize 2 ^ (64 - n) * (H % 2 ^ n) = u at *
    generalize L / 2 ^ n = v at *
    clear hT e e1 e2 e3 hd
    omega
  · rw [e1, e3]
    generalize 2 ^ (64 - n) * (H % 2 ^ n) = u at *
    generalize L / 2 ^ n = v at *
    clear hT e e1 e2 e3 hd
    omega
/-- Two words moved to the right by a word or more. -/
theorem shr_big_words (H L n T : Nat) (hL : L < 18446744073709551616) (h : 64 ≤ n) (hT : T = (H * 18446744073709551616 + L) / 2 ^ n) :
    T = H / 2 ^ (n - 64) ∧ (H * 18446744073709551616 + L) % 2 ^ n = L + 18446744073709551616 * (H % 2 ^ (n - 64)) := by
  have e : (2 : Nat) ^ n = 18446744073709551616 * 2 ^ (n - 64) := by
    rw [show (18446744073709551616 : Nat) = 2 ^ 64 from rfl, ← Nat.pow_add]; congr 1; omega
  have e1 : (H * 18446744073709551616 + L) / 18446744073709551616 = H := by omega
  have e2 : (H * 18446744073709551616 + L) % 18446744073709551616 = L := by omega
  constructor
  · rw [hT, e, ← Nat.div_div_eq_div_mul, e1]
  · rw [e, Nat.mod_mul, e1, e2]
end Go.Proofs.Ytpnndhbeahajkaa.Math
