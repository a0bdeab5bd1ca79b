/- The law plumblaw01.WideDivs, told as a function over whole numbers, answers true at every three words of 64 bits. No condition. -/
import Derived.Test.YthinhdnbhkppgaaPWideDivsx1
import Derived.Test.YthinhdnbhkppgaaMath
import Derived.Test.YthinhdnbhkppgaaMathBits
namespace Go.Proofs.Ythinhdnbhkppgaa.Pure
open Go.RowKit Go.Proofs.Ythinhdnbhkppgaa.PWideDivs Go.Proofs.YthinhdnbhkppgaaW.PrintWords Go.Proofs.YthinhdnbhkppgaaW.PrintLast Go.Proofs.YthinhdnbhkppgaaW.PrintMore Go.Proofs.Ythinhdnbhkppgaa.Math

theorem div_zero (H L : Nat) (hH : H < 18446744073709551616) (hL : L < 18446744073709551616) : wide_Div.f (H : Int) (L : Int) 0 = some (0, 0, 10) := by
  unfold wide_Div.f
  rw [if_pos (by omega), if_pos rfl]
theorem div_over (H L B : Nat) (hH : H < 18446744073709551616) (hL : L < 18446744073709551616) (hB : B < 18446744073709551616) (h0 : 0 < B) (h : B ≤ H) : wide_Div.f (H : Int) (L : Int) (B : Int) = some (0, 0, 11) := by
  unfold wide_Div.f
  rw [if_pos (by omega), if_neg (by omega), if_pos (by omega)]
theorem div_spec (H L B : Nat) (hL : L < 18446744073709551616) (hB : B < 18446744073709551616) (h : H < B) :
    wide_Div.f (H : Int) (L : Int) (B : Int) = some ((((H * 18446744073709551616 + L) / B : Nat) : Int), (((H * 18446744073709551616 + L) % B : Nat) : Int), 0) := by
  unfold wide_Div.f
  rw [if_pos (by omega), if_neg (by omega), if_neg (by omega)]
  simp

theorem refdiv_l0 (lo B N : Nat) (hlo : lo < 18446744073709551616) (hB : B < 18446744073709551616) (hN : N < B * 18446744073709551616) (d : Nat) : ∀ (k q r : Nat), d ≤ 64 → d < k → r < B →
    (q * B + r) * 2 ^ d + lo % 2 ^ d = N →
    plumbref01_Div.l0 k (lo : Int) (B : Int) (q : Int) (r : Int) ((d : Int) - 1) = some (((N / B : Nat) : Int), ((N % B : Nat) : Int), 0) := by
  induction d with
  | zero =>
    intro k q r hd hk hr h
    obtain ⟨k, rfl⟩ : ∃ m, k = m + 1 := ⟨k - 1, by omega⟩
    simp only [plumbref01_Div.l0]
    rw [if_neg (by omega)]
    rw [Nat.pow_zero, Nat.mul_one, Nat.mod_one, Nat.add_zero] at h
    rw [← h, Nat.mul_comm, Nat.mul_add_div (by omega), Nat.mul_add_mod, Nat.div_eq_of_lt hr, Nat.mod_eq_of_lt hr, Nat.add_zero]
  | succ d ih =>
    intro k q r hd hk hr h
    obtain ⟨k, rfl⟩ : ∃ m, k = m + 1 := ⟨k - 1, by omega⟩
    have hp := Nat.two_pow_pos d
    have hmm := Nat.mod_mul (x := lo) (a := 2 ^ d) (b := 2)
    obtain ⟨t, ht⟩ : ∃ t, lo / 2 ^ d % 2 = t := ⟨_, rfl⟩
    have ht1 : t ≤ 1 := by omega
    have hst : ((2 * q) * B + (2 * r + t)) * 2 ^ d + lo % 2 ^ d = N := by
      rw [← h, Nat.pow_succ, hmm, ht]
      have e1 : (2 * q * B + (2 * r + t)) = 2 * (q * B + r) + t := by rw [Nat.mul_assoc]; omega
      rw [e1]
      generalize q * B + r = u
      generalize 2 ^ d = p
      rw [Nat.add_mul, Nat.mul_comm p t, Nat.mul_comm p 2, ← Nat.mul_assoc u 2 p, Nat.mul_comm u 2]
      omega
    have hq63 : q < 9223372036854775808 := by
      have h1 : (2 * q * B + (2 * r + t)) * 1 ≤ (2 * q * B + (2 * r + t)) * 2 ^ d := Nat.mul_le_mul_left _ hp
      have h2 : 2 * q * B < 18446744073709551616 * B := by rw [Nat.mul_comm 18446744073709551616]; omega
      have h3 := Nat.lt_of_mul_lt_mul_right h2
      omega
    simp only [plumbref01_Div.l0]
    have e1 : IntKind.u64.wrap ((q : Int) * 2) = ((q * 2 ^ 1 : Nat) : Int) := by rw [wrapI]; omega
    have e2 : IntKind.u64.wrap ((r : Int) * 2) = ((r % 9223372036854775808 * 2 ^ 1 : Nat) : Int) := by rw [wrapI]; omega
    have e3 := orN_add' 1 q 1 (by omega) (by omega)
    have e4 := orN_add' t (r % 9223372036854775808) 1 (by omega) (by omega)
    rw [show ((1 : Nat) : Int) = 1 from rfl] at e3
    rw [show ((d + 1 : Nat) : Int) - 1 = (d : Int) from by omega, if_pos (by omega), if_pos (by omega), shrN lo d (by omega),
      andN1 _ (Nat.lt_of_le_of_lt (Nat.div_le_self _ _) hlo), ht, e1, e2, e3, e4, show wrap64 ((d : Int) - 1) = (d : Int) - 1 from by unfold wrap64; omega]
    have f1 : (1 + 2 ^ 1 * q) * B + (2 * r + t - B) = 2 * q * B + (2 * r + t) ∨ 2 * r + t < B := by
      rcases Nat.lt_or_ge (2 * r + t) B with h' | h'
      · exact .inr h'
      · refine .inl ?_
        rw [show 1 + 2 ^ 1 * q = 2 * q + 1 from by omega, Nat.add_mul]; omega
    by_cases c1 : (r : Int) / 9223372036854775808 = 1
    · rw [if_pos c1]
      have e5 : IntKind.u64.wrap (((t + 2 ^ 1 * (r % 9223372036854775808) : Nat) : Int) - (B : Int)) = ((2 * r + t - B : Nat) : Int) := by rw [wrapI]; omega
      rw [e5]
      refine ih k (1 + 2 ^ 1 * q) (2 * r + t - B) (by omega) (by omega) (by omega) ?_
      rcases f1 with f1 | f1
      · rw [f1]; exact hst
      · omega
    · rw [if_neg c1]
      by_cases c2 : B ≤ 2 * r + t
      · rw [if_pos (by omega)]
        have e5 : IntKind.u64.wrap (((t + 2 ^ 1 * (r % 9223372036854775808) : Nat) : Int) - (B : Int)) = ((2 * r + t - B : Nat) : Int) := by rw [wrapI]; omega
        rw [e5]
        refine ih k (1 + 2 ^ 1 * q) (2 * r + t - B) (by omega) (by omega) (by omega) ?_
        rcases f1 with f1 | f1
        · rw [f1]; exact hst
        · omega
      · rw [if_neg (by omega), show t + 2 ^ 1 * (r % 9223372036854775808) = 2 * r + t from by omega]
        refine ih k (q * 2 ^ 1) (2 * r + t) (by omega) (by omega) (by omega) ?_
        rw [show q * 2 ^ 1 = 2 * q from by omega]; exact hst
theorem refdiv_spec (H L B k : Nat) (hL : L < 18446744073709551616) (hB : B < 18446744073709551616) (h : H < B) (hk : 64 < k) :
    plumbref01_Div.f k (H : Int) (L : Int) (B : Int) = some ((((H * 18446744073709551616 + L) / B : Nat) : Int), (((H * 18446744073709551616 + L) % B : Nat) : Int), 0) := by
  unfold plumbref01_Div.f
  rw [if_neg (by omega), if_neg (by omega)]
  exact refdiv_l0 L B (H * 18446744073709551616 + L) hL hB (by omega) 64 k 0 H (by omega) hk h (by
    rw [show (2 : Nat) ^ 64 = 18446744073709551616 from rfl, Nat.mod_eq_of_lt hL, Nat.zero_mul, Nat.zero_add])

theorem WideDivs : plumblaw01_WideDivs.Pure := by
  intro a b c ha hb hc
  obtain ⟨H, rfl, hH⟩ := u64_nat ha
  obtain ⟨L, rfl, hL⟩ := u64_nat hb
  obtain ⟨B, rfl, hB⟩ := u64_nat hc
  obtain ⟨k, hk⟩ : ∃ k : Nat, 64 < k := ⟨65, by omega⟩
  refine ⟨k, ?_⟩
  have key : ∃ x y z : Int, wide_Div.f (H : Int) (L : Int) (B : Int) = some (x, y, z) ∧ plumbref01_Div.f k (H : Int) (L : Int) (B : Int) = some (x, y, z) := by
    rcases Nat.eq_zero_or_pos B with h0 | h0
    · subst h0
      refine ⟨_, _, _, div_zero H L hH hL, ?_⟩
      unfold plumbref01_Div.f
      rw [if_pos (by omega)]
    · rcases Nat.lt_or_ge H B with h | h
      · exact ⟨_, _, _, div_spec H L B hL hB h, refdiv_spec H L B k hL hB h hk⟩
      · refine ⟨_, _, _, div_over H L B hH hL hB h0 h, ?_⟩
        unfold plumbref01_Div.f
        rw [if_neg (by omega), if_pos (by omega)]
  obtain ⟨x, y, z, h1, h2⟩ := key
  unfold plumblaw01_WideDivs.f plumblaw01_num.f
  rw [h1, h2]
  simp

end Go.Proofs.Ythinhdnbhkppgaa.Pure
