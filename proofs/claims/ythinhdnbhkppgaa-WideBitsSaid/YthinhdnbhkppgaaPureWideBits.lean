/- The law plumblaw01.WideBits, told as a function over whole numbers, answers true at every three words of 64 bits and every int. No condition. -/
import Derived.Test.YthinhdnbhkppgaaPWideBitsx2
import Derived.Test.YthinhdnbhkppgaaMath
import Derived.Test.YthinhdnbhkppgaaMathBits
import Derived.Test.YthinhdnbhkppgaaMathShift
namespace Go.Proofs.Ythinhdnbhkppgaa.Pure
open Go.RowKit Go.Proofs.Ythinhdnbhkppgaa.PWideBits Go.Proofs.YthinhdnbhkppgaaW.PrintWords Go.Proofs.YthinhdnbhkppgaaW.PrintLast Go.Proofs.YthinhdnbhkppgaaW.PrintMore Go.Proofs.Ythinhdnbhkppgaa.Math

def halfOf : Nat → Nat
  | 0 => 0
  | j + 1 => 2 ^ j
theorem halfOf_half (j : Nat) : ((halfOf (j + 1) : Nat) : Int) / 2 = ((halfOf j : Nat) : Int) := by
  cases j with
  | zero => simp [halfOf]
  | succ j => simp only [halfOf, Nat.pow_succ]; omega
theorem len_l0 (j : Nat) : ∀ (k x m : Nat), j < k → x < 2 ^ (2 ^ j) → j ≤ 6 → m + 2 ^ j ≤ 64 →
    ∃ L : Nat, wide_Len.l0 k (x : Int) (m : Int) ((halfOf j : Nat) : Int) = some (((m + L : Nat)) : Int) ∧ IsLen x L ∧ L ≤ 2 ^ j := by
  induction j with
  | zero =>
    intro k x m hk hx hj hm
    obtain ⟨k, rfl⟩ : ∃ m, k = m + 1 := ⟨k - 1, by omega⟩
    have hx2 : x < 2 := by simpa using hx
    refine ⟨x, ?_, ?_, by simp; omega⟩
    · simp only [wide_Len.l0]
      rw [show ((halfOf 0 : Nat) : Int) = 0 from rfl, if_neg (by omega)]
      simp only [Option.some.injEq]
      unfold wrap64
      have : m ≤ 63 := by simpa using hm
      omega
    · rcases Nat.lt_or_ge x 1 with h | h
      · obtain rfl : x = 0 := by omega
        exact IsLen.zero
      · obtain rfl : x = 1 := by omega
        exact ⟨by simp, fun _ => by simp⟩
  | succ j ih =>
    intro k x m hk hx hj hm
    obtain ⟨k, rfl⟩ : ∃ m, k = m + 1 := ⟨k - 1, by omega⟩
    have hp : 0 < 2 ^ j := Nat.two_pow_pos j
    have h32 : 2 ^ j ≤ 2 ^ 5 := Nat.pow_le_pow_right (by omega) (by omega)
    have hs : (2 : Nat) ^ (j + 1) = 2 ^ j + 2 ^ j := by rw [Nat.pow_succ]; omega
    rw [hs] at hm
    simp only [wide_Len.l0]
    rw [halfOf_half j, show halfOf (j + 1) = 2 ^ j from rfl]
    rw [if_pos (by omega), if_pos (by omega), shrN x (2 ^ j) (by omega)]
    obtain ⟨y, hy⟩ : ∃ y, x / 2 ^ (2 ^ j) = y := ⟨_, rfl⟩
    rw [hy]
    have hP : 0 < 2 ^ (2 ^ j) := Nat.two_pow_pos _
    by_cases h0 : y = 0
    · rw [if_pos (by omega)]
      obtain ⟨L, h1, h2, h3⟩ := ih k x m (by omega) (by rcases Nat.div_eq_zero_iff.1 (hy.trans h0) with h | h <;> omega) (by omega) (by omega)
      exact ⟨L, h1, h2, by rw [hs]; omega⟩
    · rw [if_neg (by omega), show wrap64 ((m : Int) + ((2 ^ j : Nat) : Int)) = ((m + 2 ^ j : Nat) : Int) from by unfold wrap64; omega]
      obtain ⟨L, h1, h2, h3⟩ := ih k y (m + 2 ^ j) (by omega) (by
        rw [← hy, Nat.div_lt_iff_lt_mul hP, ← Nat.pow_add, ← hs]; exact hx) (by omega) (by omega)
      exact ⟨L + 2 ^ j, by rw [h1]; congr 2; omega, IsLen.shift hy (by omega) h2, by rw [hs]; omega⟩
theorem len_spec (x k : Nat) (hx : x < 18446744073709551616) (hk : 6 < k) : ∃ L : Nat, wide_Len.f k (x : Int) = some (L : Int) ∧ IsLen x L ∧ L ≤ 64 := by
  obtain ⟨L, h1, h2, h3⟩ := len_l0 6 k x 0 hk (by simpa using hx) (by omega) (by simp)
  exact ⟨L, by rw [Nat.zero_add] at h1; exact h1, h2, by simpa using h3⟩

theorem zeros_zero (k : Nat) : wide_Zeros.f k 0 = some 64 := by
  unfold wide_Zeros.f
  rw [if_pos rfl]
theorem zeros_spec (x k : Nat) (h0 : 0 < x) (hx : x < 18446744073709551616) (hk : 6 < k) : ∃ z q : Nat, wide_Zeros.f k (x : Int) = some (z : Int) ∧ x = 2 ^ z * (2 * q + 1) ∧ z < 64 := by
  obtain ⟨z, q, e, hz, hb⟩ := neg_and x h0 hx
  have hp : 2 ^ z < 18446744073709551616 := by
    have := Nat.pow_lt_pow_right (a := 2) (by omega) hz
    simpa using this
  obtain ⟨L, h1, h2, h3⟩ := len_spec (2 ^ z) k hp hk
  have hL := h2.uniq (IsLen.pow z)
  subst hL
  refine ⟨z, q, ?_, e, hz⟩
  unfold wide_Zeros.f
  rw [if_neg (by omega), hb, h1]
  simp only [Option.bind_some, Option.some.injEq]
  unfold wrap64
  omega

def Held (n : Int) (m : Nat) : Prop := (n ≤ 0 ∧ m = 0) ∨ (0 ≤ n ∧ n ≤ 128 ∧ (m : Int) = n) ∨ (128 ≤ n ∧ m = 128)
theorem Held.le {n : Int} {m : Nat} (h : Held n m) : m ≤ 128 := by rcases h with h | h | h <;> omega
theorem within_spec {n : Int} {m : Nat} (h : Held n m) : wide_within.f n = some (m : Int) := by
  unfold wide_within.f mn mx
  rcases h with h | h | h
  · congr 1; repeat' split
    all_goals omega
  · congr 1; repeat' split
    all_goals omega
  · congr 1; repeat' split
    all_goals omega
theorem shl_spec (H L T : Nat) (n : Int) (m : Nat) (hL : L < 18446744073709551616) (hm : Held n m) (hT : T = (H * 18446744073709551616 + L) * 2 ^ m) :
    wide_Shl.f (H : Int) (L : Int) n = some (((T / 18446744073709551616 % 18446744073709551616 : Nat) : Int), ((T % 18446744073709551616 : Nat) : Int)) := by
  have hle := hm.le
  unfold wide_Shl.f
  rw [within_spec hm]
  simp only [Option.bind_some]
  by_cases h : 64 ≤ m
  · obtain ⟨e1, e2⟩ := shl_big_words H L m T h hT
    rw [if_pos (by omega), show wrap64 ((m : Int) - 64) = ((m - 64 : Nat) : Int) from by unfold wrap64; omega, if_pos (by omega), shlN L (m - 64) (by omega), e1, e2]
    rfl
  · obtain ⟨e1, e2, e3⟩ := shl_small_words H L m T hL (by omega) hT
    rw [if_neg (by omega), if_pos (by omega), show wrap64 (64 - (m : Int)) = ((64 - m : Nat) : Int) from by unfold wrap64; omega, if_pos (by omega), shlN H m (by omega), shrN L (64 - m) (by omega), shlN L m (by omega),
      left_mod H m (by omega), orN_add' _ _ _ (right_lt L m hL (by omega)) e3, e1, e2]
theorem shr_spec (H L T : Nat) (n : Int) (m : Nat) (hH : H < 18446744073709551616) (hL : L < 18446744073709551616) (hm : Held n m) (hT : T = (H * 18446744073709551616 + L) / 2 ^ m) :
    wide_Shr.f (H : Int) (L : Int) n = some (((T / 18446744073709551616 : Nat) : Int), ((T % 18446744073709551616 : Nat) : Int), decide ((H * 18446744073709551616 + L) % 2 ^ m ≠ 0)) := by
  have hle := hm.le
  unfold wide_Shr.f
  rw [within_spec hm]
  simp only [Option.bind_some]
  by_cases h : 64 ≤ m
  · obtain ⟨e1, e2⟩ := shr_big_words H L m T hL h hT
    have hTH : T ≤ H := by rw [e1]; exact Nat.div_le_self _ _
    rw [if_pos (by omega), show wrap64 ((m : Int) - 64) = ((m - 64 : Nat) : Int) from by unfold wrap64; omega, show wrap64 (128 - (m : Int)) = ((64 - (m - 64) : Nat) : Int) from by unfold wrap64; omega,
      shrN H (m - 64) (by omega), ← e1, Nat.div_eq_of_lt (show T < 18446744073709551616 by omega), Nat.mod_eq_of_lt (show T < 18446744073709551616 by omega), e2,
      shlN H (64 - (m - 64)) (by omega), left_mod H (64 - (m - 64)) (by omega), show 64 - (64 - (m - 64)) = m - 64 from by omega]
    have hp := Nat.two_pow_pos (64 - (m - 64))
    by_cases h0 : L = 0
    · rw [if_pos (by omega), if_pos (by omega), if_pos (by omega)]
      subst h0
      simp only [Option.some.injEq, Prod.mk.injEq, true_and, show ((0 : Nat) : Int) = 0 from rfl]
      by_cases hz : H % 2 ^ (m - 64) = 0
      · rw [hz]; simp
      · have hne : H % 2 ^ (m - 64) * 2 ^ (64 - (m - 64)) ≠ 0 := by
          intro e
          rcases Nat.mul_eq_zero.1 e with e | e <;> omega
        have : decide (0 + 18446744073709551616 * (H % 2 ^ (m - 64)) ≠ 0) = true := decide_eq_true (by omega)
        rw [this, bne_iff_ne]
        omega
    · rw [if_neg (by omega), if_pos (by omega)]
      have : decide (L + 18446744073709551616 * (H % 2 ^ (m - 64)) ≠ 0) = true := by simp; omega
      rw [this]; rfl
  · obtain ⟨e1, e2, e3⟩ := shr_small_words H L m T hL (by omega) hT
    have hbd := (left_word H (64 - m) (by omega)).2
    have hrl := right_lt L (64 - m) hL (by omega)
    rw [show 64 - (64 - m) = m from by omega] at hbd hrl
    rw [if_neg (by omega), if_pos (by omega), show wrap64 (64 - (m : Int)) = ((64 - m : Nat) : Int) from by unfold wrap64; omega, if_pos (by omega), shrN H m (by omega), shrN L m (by omega), shlN H (64 - m) (by omega), shlN L (64 - m) (by omega),
      left_mod H (64 - m) (by omega), left_mod L (64 - m) (by omega), show 64 - (64 - m) = m from by omega,
      orN_add _ _ _ hrl (by rw [Nat.mul_comm (2 ^ (64 - m))]; omega), e1, e2, e3]
    have hp := Nat.two_pow_pos (64 - m)
    congr 3
    by_cases hz : L % 2 ^ m = 0
    · rw [hz]; simp
    · have hne : L % 2 ^ m * 2 ^ (64 - m) ≠ 0 := by
        intro e
        rcases Nat.mul_eq_zero.1 e with e | e <;> omega
      have : decide (L % 2 ^ m ≠ 0) = true := by simp; exact hz
      rw [this, bne_iff_ne]
      omega

theorem refheld_spec {n : Int} {m : Nat} (h : Held n m) : plumbref01_held.f n = some (m : Int) := by
  unfold plumbref01_held.f
  rcases h with h | h | h <;> repeat' split
  all_goals (simp only [Option.some.injEq]; omega)
theorem held_of (n : Int) : ∃ m, Held n m := by
  by_cases h0 : n ≤ 0
  · exact ⟨0, .inl ⟨h0, rfl⟩⟩
  · by_cases h1 : n ≤ 128
    · exact ⟨n.toNat, .inr (.inl ⟨by omega, h1, by omega⟩)⟩
    · exact ⟨128, .inr (.inr ⟨by omega, rfl⟩)⟩
theorem words_mod (T : Nat) : T / 18446744073709551616 % 18446744073709551616 * 18446744073709551616 + T % 18446744073709551616 = T % 340282366920938463463374607431768211456 := by omega
theorem words_of_mod (T S : Nat) (h : T % 340282366920938463463374607431768211456 = S % 340282366920938463463374607431768211456) :
    T / 18446744073709551616 % 18446744073709551616 = S / 18446744073709551616 % 18446744073709551616 ∧ T % 18446744073709551616 = S % 18446744073709551616 := by
  have h1 := words_mod T
  have h2 := words_mod S
  rw [h, ← h2] at h1
  have b1 := Nat.mod_lt T (show 0 < 18446744073709551616 by omega)
  have b2 := Nat.mod_lt S (show 0 < 18446744073709551616 by omega)
  generalize T / 18446744073709551616 % 18446744073709551616 = a at *
  generalize S / 18446744073709551616 % 18446744073709551616 = b at *
  generalize T % 18446744073709551616 = c at *
  generalize S % 18446744073709551616 = d at *
  clear h h2
  omega
theorem drop_mul_mod (a K u p : Nat) : ((a * K + u) * p) % K = (u * p) % K := by rw [Nat.add_mul, Nat.mul_right_comm, Nat.add_comm, Nat.add_mul_mod_self_right]
theorem refshl_l0 {n : Int} {m : Nat} (hn : Held n m) (d : Nat) : ∀ (k H L i T : Nat), i + d = m → d < k → H < 18446744073709551616 → L < 18446744073709551616 → T = (H * 18446744073709551616 + L) * 2 ^ d →
    plumbref01_Shl.l0 k (H : Int) (L : Int) n (i : Int) = some (((T / 18446744073709551616 % 18446744073709551616 : Nat) : Int), ((T % 18446744073709551616 : Nat) : Int)) := by
  have hle := hn.le
  induction d with
  | zero =>
    intro k H L i T hi hk hH hL hT
    obtain ⟨k, rfl⟩ : ∃ m, k = m + 1 := ⟨k - 1, by omega⟩
    simp only [plumbref01_Shl.l0]
    rw [refheld_spec hn]
    simp only [Option.bind_some]
    rw [if_neg (by omega)]
    rw [Nat.pow_zero, Nat.mul_one] at hT
    simp only [Option.some.injEq, Prod.mk.injEq]
    omega
  | succ d ih =>
    intro k H L i T hi hk hH hL hT
    obtain ⟨k, rfl⟩ : ∃ m, k = m + 1 := ⟨k - 1, by omega⟩
    simp only [plumbref01_Shl.l0]
    rw [refheld_spec hn]
    simp only [Option.bind_some]
    have e1 : IntKind.u64.wrap ((H : Int) * 2) = ((H % 9223372036854775808 * 2 ^ 1 : Nat) : Int) := by rw [wrapI]; omega
    have e2 : IntKind.u64.wrap ((L : Int) * 2) = ((L % 9223372036854775808 * 2 : Nat) : Int) := by rw [wrapI]; omega
    have e3 : (L : Int) / 9223372036854775808 = ((L / 9223372036854775808 : Nat) : Int) := by omega
    rw [if_pos (by omega), e1, e2, e3, orN_add' (L / 9223372036854775808) (H % 9223372036854775808) 1 (by omega) (by omega), show wrap64 ((i : Int) + 1) = ((i + 1 : Nat) : Int) from by unfold wrap64; omega]
    obtain ⟨H', hH'⟩ : ∃ h, L / 9223372036854775808 + 2 ^ 1 * (H % 9223372036854775808) = h := ⟨_, rfl⟩
    obtain ⟨L', hL'⟩ : ∃ h, L % 9223372036854775808 * 2 = h := ⟨_, rfl⟩
    rw [hH', hL']
    rw [ih k H' L' (i + 1) _ (by omega) (by omega) (by omega) (by omega) rfl]
    have hU : (H * 18446744073709551616 + L) * 2 = (H / 9223372036854775808) * 340282366920938463463374607431768211456 + (H' * 18446744073709551616 + L') := by omega
    have := words_of_mod ((H' * 18446744073709551616 + L') * 2 ^ d) T (by
      rw [hT, Nat.pow_succ, Nat.mul_comm (2 ^ d) 2, ← Nat.mul_assoc, hU]
      exact (drop_mul_mod _ _ _ _).symm)
    rw [this.1, this.2]
theorem refshl_spec (H L T k : Nat) (n : Int) (m : Nat) (hH : H < 18446744073709551616) (hL : L < 18446744073709551616) (hm : Held n m) (hT : T = (H * 18446744073709551616 + L) * 2 ^ m) (hk : 128 < k) :
    plumbref01_Shl.f k (H : Int) (L : Int) n = some (((T / 18446744073709551616 % 18446744073709551616 : Nat) : Int), ((T % 18446744073709551616 : Nat) : Int)) := by
  unfold plumbref01_Shl.f
  exact refshl_l0 hm m k H L 0 T (by omega) (by have := hm.le; omega) hH hL hT
theorem refshr_l0 {n : Int} {m : Nat} (hn : Held n m) (d : Nat) : ∀ (k H L i T U : Nat) (lost : Bool), i + d = m → d < k → H < 18446744073709551616 → L < 18446744073709551616 → U = H * 18446744073709551616 + L → T = U / 2 ^ d →
    plumbref01_Shr.l0 k (H : Int) (L : Int) n lost (i : Int) = some (((T / 18446744073709551616 : Nat) : Int), ((T % 18446744073709551616 : Nat) : Int), (lost || decide (U % 2 ^ d ≠ 0))) := by
  have hle := hn.le
  induction d with
  | zero =>
    intro k H L i T U lost hi hk hH hL hU hT
    obtain ⟨k, rfl⟩ : ∃ m, k = m + 1 := ⟨k - 1, by omega⟩
    simp only [plumbref01_Shr.l0]
    rw [refheld_spec hn]
    simp only [Option.bind_some]
    rw [if_neg (by omega)]
    rw [Nat.pow_zero, Nat.div_one] at hT
    rw [Nat.pow_zero, Nat.mod_one]
    simp only [Option.some.injEq, Prod.mk.injEq]
    refine ⟨by omega, by omega, by simp⟩
  | succ d ih =>
    intro k H L i T U lost hi hk hH hL hU hT
    obtain ⟨k, rfl⟩ : ∃ m, k = m + 1 := ⟨k - 1, by omega⟩
    simp only [plumbref01_Shr.l0]
    rw [refheld_spec hn]
    simp only [Option.bind_some]
    have e1 : IntKind.u64.wrap ((H : Int) * 9223372036854775808) = ((H % 2 * 2 ^ 63 : Nat) : Int) := by rw [wrapI]; omega
    have e2 : (L : Int) / 2 = ((L / 2 : Nat) : Int) := by omega
    have e3 : (H : Int) / 2 = ((H / 2 : Nat) : Int) := by omega
    rw [if_pos (by omega), e1, e2, e3, orN_add (L / 2) (H % 2) 63 (by omega) (by omega), andN1 L hL, show wrap64 ((i : Int) + 1) = ((i + 1 : Nat) : Int) from by unfold wrap64; omega]
    obtain ⟨L', hL'⟩ : ∃ h, L / 2 + 2 ^ 63 * (H % 2) = h := ⟨_, rfl⟩
    rw [hL']
    have hU2 : U / 2 = H / 2 * 18446744073709551616 + L' := by omega
    have hT2 : T = U / 2 / 2 ^ d := by rw [hT, Nat.pow_succ, Nat.mul_comm, Nat.div_div_eq_div_mul]
    have hm2 := Nat.mod_mul (x := U) (a := 2) (b := 2 ^ d)
    have hUL : U % 2 = L % 2 := by omega
    have hfin : (decide (U % 2 ^ (d + 1) ≠ 0)) = (decide (L % 2 = 1) || decide (U / 2 % 2 ^ d ≠ 0)) := by
      rw [Nat.pow_succ, Nat.mul_comm, hm2, hUL]
      rcases Nat.mod_two_eq_zero_or_one L with h | h
      · rw [h]; simp; omega
      · rw [h]; simp
    rw [hfin]
    cases lost with
    | true =>
      rw [if_pos rfl, ih k (H / 2) L' (i + 1) T (U / 2) true (by omega) (by omega) (by omega) (by omega) hU2 hT2]
      simp
    | false =>
      rw [if_neg (by simp), ih k (H / 2) L' (i + 1) T (U / 2) _ (by omega) (by omega) (by omega) (by omega) hU2 hT2]
      congr 3
      rcases Nat.mod_two_eq_zero_or_one L with h | h <;> rw [h] <;> rfl
theorem refshr_spec (H L T k : Nat) (n : Int) (m : Nat) (hH : H < 18446744073709551616) (hL : L < 18446744073709551616) (hm : Held n m) (hT : T = (H * 18446744073709551616 + L) / 2 ^ m) (hk : 128 < k) :
    plumbref01_Shr.f k (H : Int) (L : Int) n = some (((T / 18446744073709551616 : Nat) : Int), ((T % 18446744073709551616 : Nat) : Int), decide ((H * 18446744073709551616 + L) % 2 ^ m ≠ 0)) := by
  unfold plumbref01_Shr.f
  have := refshr_l0 hm m k H L 0 T _ false (by omega) (by have := hm.le; omega) hH hL rfl hT
  rw [Bool.false_or] at this
  exact this
theorem cmp_spec (k : Nat) (a b c d : Int) (hk : 0 < k) : ∃ r, wide_Cmp.f k a b c d = some r ∧ plumbref01_Cmp.f k a b c d = some r := by
  obtain ⟨k, rfl⟩ : ∃ m, k = m + 1 := ⟨k - 1, by omega⟩
  unfold wide_Cmp.f plumbref01_Cmp.f
  simp only [wide_Cmp.j0, plumbref01_Cmp.j0]
  repeat' split
  all_goals exact ⟨_, rfl, rfl⟩
theorem reflen_l0 (d : Nat) : ∀ (k x m : Nat), x < 2 ^ d → d < k → m + d ≤ 64 → ∃ L : Nat, plumbref01_Len.l0 k (x : Int) (m : Int) = some ((m + L : Nat) : Int) ∧ IsLen x L := by
  induction d with
  | zero =>
    intro k x m hx hk hm
    obtain ⟨k, rfl⟩ : ∃ m, k = m + 1 := ⟨k - 1, by omega⟩
    obtain rfl : x = 0 := by simpa using hx
    refine ⟨0, ?_, IsLen.zero⟩
    simp only [plumbref01_Len.l0]
    rw [if_neg (by omega)]; rfl
  | succ d ih =>
    intro k x m hx hk hm
    obtain ⟨k, rfl⟩ : ∃ m, k = m + 1 := ⟨k - 1, by omega⟩
    simp only [plumbref01_Len.l0]
    by_cases h0 : 0 < x
    · rw [if_pos (by omega), show (x : Int) / 2 = ((x / 2 : Nat) : Int) from by omega, show wrap64 ((m : Int) + 1) = ((m + 1 : Nat) : Int) from by unfold wrap64; omega]
      obtain ⟨L, h1, h2⟩ := ih k (x / 2) (m + 1) (by rw [Nat.pow_succ] at hx; omega) (by omega) (by omega)
      refine ⟨L + 1, by rw [h1]; congr 2; omega, ?_⟩
      rcases Nat.eq_zero_or_pos (x / 2) with h | h
      · obtain rfl : x = 1 := by omega
        have := h2.uniq (h ▸ IsLen.zero)
        subst this
        exact ⟨by simp, fun _ => by simp⟩
      · exact IsLen.shift (by rw [Nat.pow_one]) h h2
    · obtain rfl : x = 0 := by omega
      exact ⟨0, by rw [if_neg (by omega)]; rfl, IsLen.zero⟩
theorem reflen_spec (x k : Nat) (hx : x < 18446744073709551616) (hk : 64 < k) : ∃ L : Nat, plumbref01_Len.f k (x : Int) = some (L : Int) ∧ IsLen x L := by
  obtain ⟨L, h1, h2⟩ := reflen_l0 64 k x 0 (by simpa using hx) hk (by omega)
  exact ⟨L, by rw [Nat.zero_add] at h1; exact h1, h2⟩
theorem refzeros_l0 (x z q : Nat) (hx : x < 18446744073709551616) (e : x = 2 ^ z * (2 * q + 1)) (hz : z < 64) (d : Nat) : ∀ (k i : Nat), i + d = z → d < k → plumbref01_Zeros.l0 k (x : Int) (i : Int) = some (z : Int) := by
  induction d with
  | zero =>
    intro k i hi hk
    obtain ⟨k, rfl⟩ : ∃ m, k = m + 1 := ⟨k - 1, by omega⟩
    obtain rfl : i = z := by omega
    have hd : x / 2 ^ i = 2 * q + 1 := by rw [e, Nat.mul_div_cancel_left _ (Nat.two_pow_pos i)]
    simp only [plumbref01_Zeros.l0]
    rw [if_pos (by omega), if_pos (by omega), shrN x i (by omega), andN1 _ (Nat.lt_of_le_of_lt (Nat.div_le_self _ _) hx), hd, if_neg (by omega)]
  | succ d ih =>
    intro k i hi hk
    obtain ⟨k, rfl⟩ : ∃ m, k = m + 1 := ⟨k - 1, by omega⟩
    have hd : x / 2 ^ i % 2 = 0 := by
      have e2 : 2 ^ z = 2 ^ i * (2 * 2 ^ d) := by rw [Nat.mul_left_comm, ← Nat.pow_add, ← Nat.pow_succ']; congr 1; omega
      rw [e, e2, Nat.mul_assoc, Nat.mul_div_cancel_left _ (Nat.two_pow_pos i), Nat.mul_assoc, Nat.mul_mod_right]
    simp only [plumbref01_Zeros.l0]
    rw [if_pos (by omega), if_pos (by omega), shrN x i (by omega), andN1 _ (Nat.lt_of_le_of_lt (Nat.div_le_self _ _) hx), if_pos (by omega), show wrap64 ((i : Int) + 1) = ((i + 1 : Nat) : Int) from by unfold wrap64; omega]
    exact ih k (i + 1) (by omega) (by omega)
theorem refzeros_zero (d : Nat) : ∀ (k i : Nat), i + d = 64 → d < k → plumbref01_Zeros.l0 k 0 (i : Int) = some 64 := by
  induction d with
  | zero =>
    intro k i hi hk
    obtain ⟨k, rfl⟩ : ∃ m, k = m + 1 := ⟨k - 1, by omega⟩
    simp only [plumbref01_Zeros.l0]
    rw [if_neg (by omega)]
    congr 1; omega
  | succ d ih =>
    intro k i hi hk
    obtain ⟨k, rfl⟩ : ∃ m, k = m + 1 := ⟨k - 1, by omega⟩
    have h := shrN 0 i (by omega)
    rw [Nat.zero_div, show ((0 : Nat) : Int) = 0 from rfl] at h
    have h2 := andN1 0 (by omega)
    rw [show ((0 : Nat) : Int) = 0 from rfl] at h2
    simp only [plumbref01_Zeros.l0]
    rw [if_pos (by omega), if_pos (by omega), h, h2, if_pos rfl, show wrap64 ((i : Int) + 1) = ((i + 1 : Nat) : Int) from by unfold wrap64; omega]
    exact ih k (i + 1) (by omega) (by omega)

theorem WideBits (hi lo n x : Int) (hhi : (Lit.int .u64 hi).wf = true) (hlo : (Lit.int .u64 lo).wf = true) (hx : (Lit.int .u64 x).wf = true) : ∃ k, plumblaw01_WideBits.f k hi lo n x = some true := by
  obtain ⟨H, rfl, hH⟩ := u64_nat hhi
  obtain ⟨L, rfl, hL⟩ := u64_nat hlo
  obtain ⟨X, rfl, hX⟩ := u64_nat hx
  obtain ⟨m, hm⟩ := held_of n
  obtain ⟨k, hk⟩ : ∃ k : Nat, 128 < k := ⟨129, by omega⟩
  refine ⟨k + 1 + 1, ?_⟩
  have h1 := shl_spec H L _ n m hL hm rfl
  have h2 := refshl_spec H L _ (k + 1 + 1) n m hH hL hm rfl (by omega)
  have h3 := shr_spec H L _ n m hH hL hm rfl
  have h4 := refshr_spec H L _ (k + 1 + 1) n m hH hL hm rfl (by omega)
  obtain ⟨r1, h5, h6⟩ := cmp_spec (k + 1) (H : Int) (L : Int) (X : Int) (L : Int) (by omega)
  obtain ⟨r2, h7, h8⟩ := cmp_spec (k + 1) (H : Int) (L : Int) (H : Int) (X : Int) (by omega)
  obtain ⟨l1, h9, i1, _⟩ := len_spec X k hX (by omega)
  obtain ⟨l2, h10, i2⟩ := reflen_spec X k hX (by omega)
  obtain rfl := i1.uniq i2
  have hz : ∃ z : Int, wide_Zeros.f k (X : Int) = some z ∧ plumbref01_Zeros.f k (X : Int) = some z := by
    unfold plumbref01_Zeros.f
    rcases Nat.eq_zero_or_pos X with h | h
    · subst h
      exact ⟨64, zeros_zero k, refzeros_zero 64 k 0 (by omega) (by omega)⟩
    · obtain ⟨z, q, g1, g2, g3⟩ := zeros_spec X k h hX (by omega)
      exact ⟨z, g1, refzeros_l0 X z q hX g2 g3 z k 0 (by omega) (by omega)⟩
  obtain ⟨z, h11, h12⟩ := hz
  obtain ⟨a, ha⟩ : ∃ a, (H * 18446744073709551616 + L) * 2 ^ m = a := ⟨_, rfl⟩
  obtain ⟨b, hb⟩ : ∃ a, (H * 18446744073709551616 + L) / 2 ^ m = a := ⟨_, rfl⟩
  obtain ⟨c, hc⟩ : ∃ a, decide ((H * 18446744073709551616 + L) % 2 ^ m ≠ 0) = a := ⟨_, rfl⟩
  rw [ha] at h1 h2
  rw [hb, hc] at h3 h4
  unfold plumblaw01_WideBits.f
  rw [h1, h2, h3, h4]
  simp only [Option.bind_some, if_true, bne_self_eq_false, plumblaw01_WideBits.j0, Bool.false_eq_true, if_false, h5, h6, h7, h8, plumblaw01_WideBits.j1, h9, h10, h11, h12, beq_self_eq_true]

theorem WideBitsWalk (hi lo n x : Int) (h0 : (Lit.int .u64 hi).wf = true) (h1 : (Lit.int .u64 lo).wf = true) (_h2 : (Lit.int .i64 n).wf = true) (h3 : (Lit.int .u64 x).wf = true) (w : World) :
    Calls Try.prog 12 #[.agg #[.int .u64 hi, .int .u64 lo, .int .i64 n, .int .u64 x]] w fun e w' => e = .returned (.bool true) ∧ Below w.heap.size w w' := by
  obtain ⟨k, h⟩ := WideBits hi lo n x h0 h1 h3
  exact plumblaw01_WideBits.calls k hi lo n x true w h

end Go.Proofs.Ythinhdnbhkppgaa.Pure
