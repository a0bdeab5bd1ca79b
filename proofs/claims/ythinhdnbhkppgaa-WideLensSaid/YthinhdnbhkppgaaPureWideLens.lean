/- The law plumblaw01.WideLens, told as a function over whole numbers, answers true at every word of 64 bits. No condition. -/
import Derived.Test.YthinhdnbhkppgaaPWideLensx1
import Derived.Test.YthinhdnbhkppgaaMath
import Derived.Test.YthinhdnbhkppgaaMathBits
namespace Go.Proofs.Ythinhdnbhkppgaa.Pure
open Go.RowKit Go.Proofs.Ythinhdnbhkppgaa.PWideLens Go.Proofs.YthinhdnbhkppgaaW.PrintWords Go.Proofs.YthinhdnbhkppgaaW.PrintLast Go.Proofs.YthinhdnbhkppgaaW.PrintMore Go.Proofs.Ythinhdnbhkppgaa.Math

def halfOf : Nat → Nat
  | 0 => 0
  | j + 1 => 2 ^ j
theorem halfOf_half (j : Nat) : ((halfOf (j + 1) : Nat) : Int) / 2 = ((halfOf j : Nat) : Int) := by
  cases j with
  | zero => simp [halfOf]
  | succ j => simp only [halfOf, Nat.pow_succ]; omega
theorem len_l0 (j : Nat) : ∀ (k x m : Nat), j < k → x < 2 ^ (2 ^ j) → j ≤ 6 → m + 2 ^ j ≤ 64 →
    ∃ L : Nat, wide_Len.l0 k (x : Int) (m : Int) ((halfOf j : Nat) : Int) = some (((m + L : Nat)) : Int) ∧ IsLen x L ∧ L ≤ 2 ^ j := by
  induction j with
  | zero =>
    intro k x m hk hx hj hm
    obtain ⟨k, rfl⟩ : ∃ m, k = m + 1 := ⟨k - 1, by omega⟩
    have hx2 : x < 2 := by simpa using hx
    refine ⟨x, ?_, ?_, by simp; omega⟩
    · simp only [wide_Len.l0]
      rw [show ((halfOf 0 : Nat) : Int) = 0 from rfl, if_neg (by omega)]
      simp only [Option.some.injEq]
      unfold wrap64
      have : m ≤ 63 := by simpa using hm
      omega
    · rcases Nat.lt_or_ge x 1 with h | h
      · obtain rfl : x = 0 := by omega
        exact IsLen.zero
      · obtain rfl : x = 1 := by omega
        exact ⟨by simp, fun _ => by simp⟩
  | succ j ih =>
    intro k x m hk hx hj hm
    obtain ⟨k, rfl⟩ : ∃ m, k = m + 1 := ⟨k - 1, by omega⟩
    have hp : 0 < 2 ^ j := Nat.two_pow_pos j
    have h32 : 2 ^ j ≤ 2 ^ 5 := Nat.pow_le_pow_right (by omega) (by omega)
    have hs : (2 : Nat) ^ (j + 1) = 2 ^ j + 2 ^ j := by rw [Nat.pow_succ]; omega
    rw [hs] at hm
    simp only [wide_Len.l0]
    rw [halfOf_half j, show halfOf (j + 1) = 2 ^ j from rfl]
    rw [if_pos (by omega), if_pos (by omega), shrN x (2 ^ j) (by omega)]
    obtain ⟨y, hy⟩ : ∃ y, x / 2 ^ (2 ^ j) = y := ⟨_, rfl⟩
    rw [hy]
    have hP : 0 < 2 ^ (2 ^ j) := Nat.two_pow_pos _
    by_cases h0 : y = 0
    · rw [if_pos (by omega)]
      obtain ⟨L, h1, h2, h3⟩ := ih k x m (by omega) (by rcases Nat.div_eq_zero_iff.1 (hy.trans h0) with h | h <;> omega) (by omega) (by omega)
      exact ⟨L, h1, h2, by rw [hs]; omega⟩
    · rw [if_neg (by omega), show wrap64 ((m : Int) + ((2 ^ j : Nat) : Int)) = ((m + 2 ^ j : Nat) : Int) from by unfold wrap64; omega]
      obtain ⟨L, h1, h2, h3⟩ := ih k y (m + 2 ^ j) (by omega) (by
        rw [← hy, Nat.div_lt_iff_lt_mul hP, ← Nat.pow_add, ← hs]; exact hx) (by omega) (by omega)
      exact ⟨L + 2 ^ j, by rw [h1]; congr 2; omega, IsLen.shift hy (by omega) h2, by rw [hs]; omega⟩
theorem len_spec (x k : Nat) (hx : x < 18446744073709551616) (hk : 6 < k) : ∃ L : Nat, wide_Len.f k (x : Int) = some (L : Int) ∧ IsLen x L ∧ L ≤ 64 := by
  obtain ⟨L, h1, h2, h3⟩ := len_l0 6 k x 0 hk (by simpa using hx) (by omega) (by simp)
  exact ⟨L, by rw [Nat.zero_add] at h1; exact h1, h2, by simpa using h3⟩

theorem zeros_zero (k : Nat) : wide_Zeros.f k 0 = some 64 := by
  unfold wide_Zeros.f
  rw [if_pos rfl]
theorem zeros_spec (x k : Nat) (h0 : 0 < x) (hx : x < 18446744073709551616) (hk : 6 < k) : ∃ z q : Nat, wide_Zeros.f k (x : Int) = some (z : Int) ∧ x = 2 ^ z * (2 * q + 1) ∧ z < 64 := by
  obtain ⟨z, q, e, hz, hb⟩ := neg_and x h0 hx
  have hp : 2 ^ z < 18446744073709551616 := by
    have := Nat.pow_lt_pow_right (a := 2) (by omega) hz
    simpa using this
  obtain ⟨L, h1, h2, h3⟩ := len_spec (2 ^ z) k hp hk
  have hL := h2.uniq (IsLen.pow z)
  subst hL
  refine ⟨z, q, ?_, e, hz⟩
  unfold wide_Zeros.f
  rw [if_neg (by omega), hb, h1]
  simp only [Option.bind_some, Option.some.injEq]
  unfold wrap64
  omega

theorem WideLens : plumblaw01_WideLens.Pure := by
  intro a ha
  obtain ⟨x, rfl, hx⟩ := u64_nat ha
  obtain ⟨k, hk⟩ : ∃ k : Nat, 6 < k := ⟨7, by omega⟩
  refine ⟨k + 1, ?_⟩
  unfold plumblaw01_WideLens.f
  obtain ⟨L, h1, h2, h3⟩ := len_spec x (k + 1) hx (by omega)
  rw [h1]
  rcases Nat.eq_zero_or_pos x with h0 | h0
  · subst h0
    obtain rfl := h2.uniq IsLen.zero
    rw [show ((0 : Nat) : Int) = 0 from rfl, zeros_zero]
    simp [plumblaw01_WideLens.j0]
  · obtain ⟨z, q, h4, e, hz⟩ := zeros_spec x (k + 1) h0 hx (by omega)
    rw [h4]
    simp only [Option.bind_some]
    have hL : 0 < L := by
      rcases Nat.eq_zero_or_pos L with h' | h'
      · subst h'; have := h2.1; simp at this; omega
      · exact h'
    have hzL : z < L := by
      have h5 := h2.1
      have h6 : 2 ^ z * 1 ≤ 2 ^ z * (2 * q + 1) := Nat.mul_le_mul_left _ (by omega)
      rw [← e, Nat.mul_one] at h6
      exact (Nat.pow_lt_pow_iff_right (a := 2) (by omega)).1 (by omega)
    have hp : 0 < 2 ^ z := Nat.two_pow_pos z
    have hd : x / 2 ^ z = 2 * q + 1 := by rw [e, Nat.mul_div_cancel_left _ hp]
    rw [if_neg (by omega), if_neg (by omega), if_neg (by omega), show decide ((z : Int) > 64) = false from by simp; omega]
    simp only [plumblaw01_WideLens.j0, Bool.false_eq_true, if_false]
    rw [if_neg (by omega), if_neg (by omega), if_neg (by omega), show wrap64 ((L : Int) - 1) = ((L - 1 : Nat) : Int) from by unfold wrap64; omega,
      if_pos (by omega), shrN x (L - 1) (by omega), h2.top hL, if_pos (show ((1 : Nat) : Int) = 1 from rfl), if_pos (by omega), shrN x z (by omega), hd, andN1 _ (by
        have : 2 * q + 1 ≤ x := by rw [← hd]; exact Nat.div_le_self _ _
        omega), if_pos (by omega), shlN _ z (by omega), Nat.mul_comm, ← e, Nat.mod_eq_of_lt hx]
    simp

end Go.Proofs.Ythinhdnbhkppgaa.Pure
