/- Plain arithmetic of words of 64 bits: sums, shifts and bits of natural numbers, in the spelling of the walk. -/
import Derived.Test.YtiiolhnpnlmkjaaDoorWMore
import Derived.Laws.BitsAllLaws
import Derived.IntWalk
import Derived.OpenShut
namespace Go.Proofs.YtiiolhnpnlmkjaaDoor.Math
open Go.RowKit Go.Proofs.YtiiolhnpnlmkjaaDoorW.PrintWords Go.Proofs.YtiiolhnpnlmkjaaDoorW.PrintMore

/-- 'Option.bind_some' with a proof that is no reckoning: the kernel never compares the two sides by running them. -/
theorem obind {α β : Type} (a : α) (f : α → Option β) : (some a).bind f = f a := by
  have h : ∀ o, o = some a → o.bind f = f a := fun o e => by rw [e, Option.bind_some]
  exact h _ rfl
theorem u64_bd {n : Int} (h : (Lit.int .u64 n).wf = true) : 0 ≤ n ∧ n ≤ 18446744073709551615 := bounds_u64 h
theorem u64_nat {n : Int} (h : (Lit.int .u64 n).wf = true) : ∃ m : Nat, n = (m : Int) ∧ m < 18446744073709551616 := by
  have := u64_bd h
  exact ⟨n.toNat, by omega, by omega⟩
theorem wrapI (n : Int) : IntKind.u64.wrap n = n % 18446744073709551616 := IntKind.wrap_u64 n
theorem wrapM (n : Nat) : IntKind.u64.wrap (n : Int) = ((n % 18446744073709551616 : Nat) : Int) := by rw [wrapI]; omega
theorem wrapN (n : Nat) (h : n < 18446744073709551616) : IntKind.u64.wrap (n : Int) = (n : Int) := by rw [wrapI]; omega
theorem andN1 (n : Nat) (h : n < 18446744073709551616) : bits .and .u64 (n : Int) 1 = ((n % 2 : Nat) : Int) := by
  have := u64_and_nat n 1 h (by omega)
  rw [show ((1 : Nat) : Int) = 1 from rfl] at this
  rw [this, Nat.and_one_is_mod]
theorem and1 {a : Int} (h0 : 0 ≤ a) (h1 : a ≤ 18446744073709551615) : bits .and .u64 a 1 = a % 2 := by
  obtain ⟨n, rfl⟩ := Int.eq_ofNat_of_zero_le h0
  rw [andN1 n (by omega)]; omega
theorem and32 {a : Int} (h0 : 0 ≤ a) (h1 : a ≤ 18446744073709551615) : bits BinOp.and IntKind.u64 a 4294967295 = a % 4294967296 := by
  obtain ⟨n, rfl⟩ := Int.eq_ofNat_of_zero_le h0
  have := u64_and_nat n 4294967295 (by omega) (by omega)
  rw [show ((4294967295 : Nat) : Int) = 4294967295 from rfl] at this
  rw [this, show (4294967295 : Nat) = 2 ^ 32 - 1 from rfl, Nat.and_two_pow_sub_one_eq_mod]
  omega
theorem shrN (n i : Nat) (h : i ≤ 64) : shr .u64 (n : Int) (i : Int) = ((n / 2 ^ i : Nat) : Int) := by
  unfold shr
  rw [show min (i : Int).toNat IntKind.u64.bits = i from by rw [Int.toNat_natCast]; exact Nat.min_eq_left h]
  simp
theorem shlN (n i : Nat) (h : i ≤ 64) : shl .u64 (n : Int) (i : Int) = ((n * 2 ^ i % 18446744073709551616 : Nat) : Int) := by
  unfold shl
  rw [show min (i : Int).toNat IntKind.u64.bits = i from by rw [Int.toNat_natCast]; exact Nat.min_eq_left h, ← wrapM]
  simp
theorem pow_split {i j : Nat} (h : i ≤ j) : (2 : Nat) ^ j = 2 ^ i * 2 ^ (j - i) := by rw [← Nat.pow_add]; congr 1; omega
theorem pow_le64 {i : Nat} (h : i ≤ 64) : (2 : Nat) ^ i ≤ 18446744073709551616 := by
  have := Nat.pow_le_pow_right (n := 2) (by omega) h
  simpa using this
theorem orN_add (s n i : Nat) (hs : s < 2 ^ i) (h : s + 2 ^ i * n < 18446744073709551616) : bits .or .u64 (s : Int) ((n * 2 ^ i : Nat) : Int) = ((s + 2 ^ i * n : Nat) : Int) := by
  have e := Nat.two_pow_add_eq_or_of_lt hs n
  have hn : 2 ^ i * n = n * 2 ^ i := Nat.mul_comm _ _
  rw [u64_or_nat s (n * 2 ^ i) (by omega) (by omega), Nat.or_comm, ← hn, ← e, Nat.add_comm]
theorem orN_add' (s n i : Nat) (hs : s < 2 ^ i) (h : s + 2 ^ i * n < 18446744073709551616) : bits .or .u64 ((n * 2 ^ i : Nat) : Int) (s : Int) = ((s + 2 ^ i * n : Nat) : Int) := by
  have e := Nat.two_pow_add_eq_or_of_lt hs n
  have hn : 2 ^ i * n = n * 2 ^ i := Nat.mul_comm _ _
  rw [u64_or_nat (n * 2 ^ i) s (by omega) (by omega), ← hn, ← e, Nat.add_comm]
theorem step_mod (p s n : Nat) (hs : s < p) : (s + p * n) % (p * 2) = s + p * (n % 2) ∧ (s + p * n) / (p * 2) = n / 2 := by
  have e : s + p * n = (s + p * (n % 2)) + (p * 2) * (n / 2) := by
    have : p * n = p * (n % 2) + p * (2 * (n / 2)) := by rw [← Nat.mul_add]; congr 1; omega
    rw [this, ← Nat.mul_assoc]; omega
  have hlt : s + p * (n % 2) < p * 2 := by
    rcases Nat.mod_two_eq_zero_or_one n with h | h <;> rw [h] <;> omega
  rw [e, Nat.add_mul_mod_self_left, Nat.mod_eq_of_lt hlt, Nat.add_mul_div_left _ _ (by omega), Nat.div_eq_of_lt hlt]
  exact ⟨rfl, by omega⟩
theorem not64 (n : Nat) (h : n < 18446744073709551616) : bits .xor .u64 18446744073709551615 (n : Int) = ((18446744073709551615 - n : Nat) : Int) := by
  have := u64_xor_nat 18446744073709551615 n (by omega) h
  rw [show ((18446744073709551615 : Nat) : Int) = 18446744073709551615 from rfl] at this
  rw [this]
  congr 1
  have e : (18446744073709551615 : Nat) ^^^ n = (~~~ (BitVec.ofNat 64 n)).toNat := by
    rw [BitVec.not_def, BitVec.toNat_xor, BitVec.toNat_ofNat, BitVec.toNat_allOnes, Nat.mod_eq_of_lt (by omega)]
  rw [e, BitVec.toNat_not, BitVec.toNat_ofNat, Nat.mod_eq_of_lt (by omega)]
end Go.Proofs.YtiiolhnpnlmkjaaDoor.Math
