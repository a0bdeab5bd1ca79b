/- The law plumblaw01.WideMuls, told as a function over whole numbers, answers true at every three words of 64 bits. No condition. -/
import Derived.Test.YthinhdnbhkppgaaPWideMulsx1
import Derived.Test.YthinhdnbhkppgaaMath
import Derived.Test.YthinhdnbhkppgaaMathBits
namespace Go.Proofs.Ythinhdnbhkppgaa.Pure
open Go.RowKit Go.Proofs.Ythinhdnbhkppgaa.PWideMuls Go.Proofs.YthinhdnbhkppgaaW.PrintWords Go.Proofs.YthinhdnbhkppgaaW.PrintLast Go.Proofs.YthinhdnbhkppgaaW.PrintMore Go.Proofs.Ythinhdnbhkppgaa.Math

theorem add_spec (A B C : Nat) (hA : A < 18446744073709551616) (hB : B < 18446744073709551616) (hC : C < 18446744073709551616) :
    wide_Add.f (A : Int) (B : Int) (C : Int) = some ((((A + B + C % 2) % 18446744073709551616 : Nat) : Int), (((A + B + C % 2) / 18446744073709551616 : Nat) : Int)) := by
  unfold wide_Add.f
  simp only [wrapI, andN1 C hC]
  split
  · simp only [Option.some.injEq, Prod.mk.injEq]; omega
  · split <;> simp only [Option.some.injEq, Prod.mk.injEq] <;> omega

theorem refadd_l0 (A B c0 : Nat) (hA : A < 18446744073709551616) (hB : B < 18446744073709551616) (_h0 : c0 ≤ 1) (d : Nat) : ∀ (k s c i : Nat), i + d = 64 → d < k → s < 2 ^ i → c ≤ 1 →
    s + 2 ^ i * c = A % 2 ^ i + B % 2 ^ i + c0 →
    plumbref01_Add.l0 k (A : Int) (B : Int) (c : Int) (s : Int) (i : Int) = some ((((A + B + c0) % 18446744073709551616 : Nat) : Int), (((A + B + c0) / 18446744073709551616 : Nat) : Int)) := by
  induction d with
  | zero =>
    intro k s c i hi hk hs hc h
    obtain ⟨k, rfl⟩ : ∃ m, k = m + 1 := ⟨k - 1, by omega⟩
    obtain rfl : i = 64 := by omega
    simp only [plumbref01_Add.l0]
    rw [if_neg (by omega)]
    rw [show (2 : Nat) ^ 64 = 18446744073709551616 from rfl] at h hs
    simp only [Option.some.injEq, Prod.mk.injEq]
    omega
  | succ d ih =>
    intro k s c i hi hk hs hc h
    obtain ⟨k, rfl⟩ : ∃ m, k = m + 1 := ⟨k - 1, by omega⟩
    simp only [plumbref01_Add.l0]
    rw [if_pos (by omega), if_pos (by omega)]
    have ha : A / 2 ^ i < 18446744073709551616 := Nat.lt_of_le_of_lt (Nat.div_le_self _ _) hA
    have hb : B / 2 ^ i < 18446744073709551616 := Nat.lt_of_le_of_lt (Nat.div_le_self _ _) hB
    have hA2 := Nat.mod_mul (x := A) (a := 2 ^ i) (b := 2)
    have hB2 := Nat.mod_mul (x := B) (a := 2 ^ i) (b := 2)
    obtain ⟨n, hn⟩ : ∃ n, A / 2 ^ i % 2 + B / 2 ^ i % 2 + c = n := ⟨_, rfl⟩
    have hn3 : n ≤ 3 := by omega
    obtain ⟨e1, e2⟩ := step_mod (2 ^ i) s n hs
    have hp : (2 : Nat) ^ (i + 1) = 2 ^ i * 2 := Nat.pow_succ ..
    have hpl := pow_le64 (i := i + 1) (by omega)
    have hS : s + 2 ^ i * n = A % (2 ^ i * 2) + B % (2 ^ i * 2) + c0 := by
      rw [hA2, hB2, ← hn, Nat.mul_add, Nat.mul_add]; omega
    have hlt : s + 2 ^ i * (n % 2) < 2 ^ (i + 1) := by
      rw [hp, ← e1]; exact Nat.mod_lt _ (by omega)
    have hle : n % 2 * 2 ^ i < 18446744073709551616 := by
      rw [Nat.mul_comm]; omega
    rw [shrN A i (by omega), shrN B i (by omega), andN1 _ ha, andN1 _ hb, ← Int.natCast_add, wrapN _ (by omega), ← Int.natCast_add, hn, wrapN _ (by omega), andN1 _ (by omega), shlN _ i (by omega), Nat.mod_eq_of_lt hle,
      orN_add s (n % 2) i hs (by omega)]
    rw [show (n : Int) / 2 = ((n / 2 : Nat) : Int) from by omega, show wrap64 ((i : Int) + 1) = ((i + 1 : Nat) : Int) from by unfold wrap64; omega]
    refine ih k _ _ _ (by omega) (by omega) hlt (by omega) ?_
    rw [hp, ← hS, ← e1, ← e2]
    exact Nat.mod_add_div _ _
theorem refadd_spec (A B C k : Nat) (hA : A < 18446744073709551616) (hB : B < 18446744073709551616) (hC : C < 18446744073709551616) (hk : 64 < k) :
    plumbref01_Add.f k (A : Int) (B : Int) (C : Int) = some ((((A + B + C % 2) % 18446744073709551616 : Nat) : Int), (((A + B + C % 2) / 18446744073709551616 : Nat) : Int)) := by
  unfold plumbref01_Add.f
  rw [andN1 C hC]
  exact refadd_l0 A B (C % 2) hA hB (by omega) 64 k 0 (C % 2) 0 (by omega) hk (by simp) (by omega) (by simp [Nat.mod_one])

theorem mul_bd (A B : Nat) (hA : A < 18446744073709551616) (hB : B < 18446744073709551616) : A * B ≤ 340282366920938463426481119284349108225 := by
  have := Nat.mul_le_mul (show A ≤ 18446744073709551615 by omega) (show B ≤ 18446744073709551615 by omega)
  omega
theorem mul_spec (A B : Nat) (hA : A < 18446744073709551616) (hB : B < 18446744073709551616) :
    wide_Mul.f (A : Int) (B : Int) = some (((A * B / 18446744073709551616 : Nat) : Int), ((A * B % 18446744073709551616 : Nat) : Int)) := by
  unfold wide_Mul.f
  rw [if_pos (by omega), ← Int.natCast_mul]
  rfl

theorem mul3_spec (H L B T : Nat) (hH : H < 18446744073709551616) (hL : L < 18446744073709551616) (hB : B < 18446744073709551616) (hT : H * B * 18446744073709551616 + L * B = T) :
    wide_Mul3.f (H : Int) (L : Int) (B : Int) = some (((T / 340282366920938463463374607431768211456 : Nat) : Int), ((T / 18446744073709551616 % 18446744073709551616 : Nat) : Int), ((T % 18446744073709551616 : Nat) : Int)) := by
  unfold wide_Mul3.f
  rw [mul_spec H B hH hB, mul_spec L B hL hB]
  have b1 := mul_bd H B hH hB
  have b2 := mul_bd L B hL hB
  obtain ⟨p, hp⟩ : ∃ p, H * B = p := ⟨_, rfl⟩
  obtain ⟨q, hq⟩ : ∃ q, L * B = q := ⟨_, rfl⟩
  rw [hp] at hT b1 ⊢
  rw [hq] at hT b2 ⊢
  simp only [Option.bind_some]
  have ha := add_spec (p % 18446744073709551616) (q / 18446744073709551616) 0 (by omega) (by omega) (by omega)
  rw [show ((0 : Nat) : Int) = 0 from rfl] at ha
  rw [ha]
  simp only [Option.bind_some, Option.some.injEq, Prod.mk.injEq, wrapI]
  omega

theorem sum_wordsI (x' y' z' P H hi lo s c t v : Int) (h2 : x' * 340282366920938463463374607431768211456 + y' * 18446744073709551616 + z' = 2 * P) (hH : H = hi * 18446744073709551616 + lo)
    (hs : z' + lo = c * 18446744073709551616 + s) (ht : y' + hi + c = v * 18446744073709551616 + t) :
    (x' + v) * 340282366920938463463374607431768211456 + t * 18446744073709551616 + s = 2 * P + H := by omega
theorem sum_words (x' y' z' P H hi lo s c t v : Nat) (h2 : x' * 340282366920938463463374607431768211456 + y' * 18446744073709551616 + z' = 2 * P) (hH : H = hi * 18446744073709551616 + lo)
    (hs : (z' + lo) % 18446744073709551616 = s) (hc : (z' + lo) / 18446744073709551616 = c) (ht : (y' + hi + c) % 18446744073709551616 = t) (hv : (y' + hi + c) / 18446744073709551616 = v) :
    (x' + v) * 340282366920938463463374607431768211456 + t * 18446744073709551616 + s = 2 * P + H := by
  have h := sum_wordsI x' y' z' P H hi lo s c t v (by omega) (by omega) (by omega) (by omega)
  clear h2 hH hs hc ht hv
  omega
theorem dbl_wordsI (x y z P x' y' z' : Int) (h : x * 340282366920938463463374607431768211456 + y * 18446744073709551616 + z = P)
    (hx' : y / 9223372036854775808 + 2 * x = x') (hy' : z / 9223372036854775808 + 2 * (y % 9223372036854775808) = y') (hz' : z % 9223372036854775808 * 2 = z') :
    x' * 340282366920938463463374607431768211456 + y' * 18446744073709551616 + z' = 2 * P := by omega
theorem dbl_words (x y z P x' y' z' : Nat) (h : x * 340282366920938463463374607431768211456 + y * 18446744073709551616 + z = P)
    (hx' : y / 9223372036854775808 + 2 * x = x') (hy' : z / 9223372036854775808 + 2 * (y % 9223372036854775808) = y') (hz' : z % 9223372036854775808 * 2 = z') :
    x' * 340282366920938463463374607431768211456 + y' * 18446744073709551616 + z' = 2 * P := by
  have k := dbl_wordsI x y z P x' y' z' (by omega) (by omega) (by omega) (by omega)
  clear h hx' hy' hz'
  omega
theorem refmul3_l0 (hi lo B H : Nat) (hhi : hi < 18446744073709551616) (hlo : lo < 18446744073709551616) (hB : B < 18446744073709551616) (hH : H = hi * 18446744073709551616 + lo) (T : Nat) (hT : T = H * B) (d : Nat) :
    ∀ (k x y z : Nat), d ≤ 64 → d + 65 ≤ k → x < 18446744073709551616 → y < 18446744073709551616 → z < 18446744073709551616 →
    x * 340282366920938463463374607431768211456 + y * 18446744073709551616 + z = H * (B / 2 ^ d) →
    plumbref01_Mul3.l0 k (hi : Int) (lo : Int) (B : Int) (x : Int) (y : Int) (z : Int) ((d : Int) - 1) =
      some (((T / 340282366920938463463374607431768211456 : Nat) : Int), ((T / 18446744073709551616 % 18446744073709551616 : Nat) : Int), ((T % 18446744073709551616 : Nat) : Int)) := by
  induction d with
  | zero =>
    intro k x y z hd hk hx hy hz h
    obtain ⟨k, rfl⟩ : ∃ m, k = m + 1 := ⟨k - 1, by omega⟩
    simp only [plumbref01_Mul3.l0]
    rw [if_neg (by omega)]
    rw [Nat.pow_zero, Nat.div_one, ← hT] at h
    simp only [Option.some.injEq, Prod.mk.injEq]
    omega
  | succ d ih =>
    intro k x y z hd hk hx hy hz h
    obtain ⟨k, rfl⟩ : ∃ m, k = m + 1 := ⟨k - 1, by omega⟩
    simp only [plumbref01_Mul3.l0]
    rw [show ((d + 1 : Nat) : Int) - 1 = (d : Int) from by omega, if_pos (by omega), if_pos (by omega), shrN B d (by omega),
      andN1 _ (Nat.lt_of_le_of_lt (Nat.div_le_self _ _) hB)]
    obtain ⟨P, hP⟩ : ∃ P, H * (B / 2 ^ (d + 1)) = P := ⟨_, rfl⟩
    have hstep : H * (B / 2 ^ d) = 2 * P + (if B / 2 ^ d % 2 = 1 then H else 0) := by
      have e : B / 2 ^ (d + 1) = B / 2 ^ d / 2 := by rw [Nat.pow_succ, Nat.div_div_eq_div_mul]
      rw [← hP, e]
      have e2 : B / 2 ^ d = 2 * (B / 2 ^ d / 2) + B / 2 ^ d % 2 := by omega
      have e3 : H * (B / 2 ^ d) = 2 * (H * (B / 2 ^ d / 2)) + H * (B / 2 ^ d % 2) := by
        conv => lhs; rw [e2]
        rw [Nat.mul_add, Nat.mul_left_comm]
      rw [e3]
      rcases Nat.mod_two_eq_zero_or_one (B / 2 ^ d) with h0 | h0 <;> simp [h0]
    have hbd : H * (B / 2 ^ d) ≤ H * 18446744073709551615 := Nat.mul_le_mul_left _ (by have := Nat.div_le_self B (2 ^ d); omega)
    rw [hstep] at hbd
    rw [hP] at h
    have hx63 : x < 9223372036854775808 := by omega
    have e1 : IntKind.u64.wrap ((x : Int) * 2) = ((x * 2 ^ 1 : Nat) : Int) := by rw [wrapI]; omega
    have e2 : IntKind.u64.wrap ((y : Int) * 2) = ((y % 9223372036854775808 * 2 ^ 1 : Nat) : Int) := by rw [wrapI]; omega
    have e3 : IntKind.u64.wrap ((z : Int) * 2) = ((z % 9223372036854775808 * 2 : Nat) : Int) := by rw [wrapI]; omega
    have e4 : (y : Int) / 9223372036854775808 = ((y / 9223372036854775808 : Nat) : Int) := by omega
    have e5 : (z : Int) / 9223372036854775808 = ((z / 9223372036854775808 : Nat) : Int) := by omega
    rw [e1, e2, e3, e4, e5, orN_add' (y / 9223372036854775808) x 1 (by omega) (by omega), orN_add' (z / 9223372036854775808) (y % 9223372036854775808) 1 (by omega) (by omega)]
    obtain ⟨x', hx'⟩ : ∃ x', y / 9223372036854775808 + 2 ^ 1 * x = x' := ⟨_, rfl⟩
    obtain ⟨y', hy'⟩ : ∃ y', z / 9223372036854775808 + 2 ^ 1 * (y % 9223372036854775808) = y' := ⟨_, rfl⟩
    obtain ⟨z', hz'⟩ : ∃ z', z % 9223372036854775808 * 2 = z' := ⟨_, rfl⟩
    rw [hx', hy', hz']
    have h2 : x' * 340282366920938463463374607431768211456 + y' * 18446744073709551616 + z' = 2 * P := dbl_words x y z P x' y' z' h hx' hy' hz'
    have bx : x' < 18446744073709551616 := by omega
    have by' : y' < 18446744073709551616 := by omega
    have bz : z' < 18446744073709551616 := by omega
    clear e1 e2 e3 e4 e5 hx' hy' hz' hx63 h hx hy hz
    by_cases hb : B / 2 ^ d % 2 = 1
    · rw [if_pos hb] at hstep hbd
      rw [if_pos (by omega)]
      have a1 := refadd_spec z' lo 0 k bz hlo (by omega) (by omega)
      rw [show ((0 : Nat) : Int) = 0 from rfl] at a1
      rw [a1]
      simp only [Option.bind_some]
      obtain ⟨s, hs⟩ : ∃ s, (z' + lo + 0 % 2) % 18446744073709551616 = s := ⟨_, rfl⟩
      obtain ⟨c, hc⟩ : ∃ c, (z' + lo + 0 % 2) / 18446744073709551616 = c := ⟨_, rfl⟩
      rw [hs, hc]
      have a2 := refadd_spec y' hi c k by' hhi (by omega) (by omega)
      rw [a2]
      simp only [Option.bind_some]
      obtain ⟨t, ht⟩ : ∃ t, (y' + hi + c % 2) % 18446744073709551616 = t := ⟨_, rfl⟩
      obtain ⟨v, hv⟩ : ∃ v, (y' + hi + c % 2) / 18446744073709551616 = v := ⟨_, rfl⟩
      rw [ht, hv]
      have hc2 : c % 2 = c := by omega
      have hsum : (x' + v) * 340282366920938463463374607431768211456 + t * 18446744073709551616 + s = 2 * P + H := sum_words x' y' z' P H hi lo s c t v h2 hH (by rw [← hs, Nat.zero_mod, Nat.add_zero]) (by rw [← hc, Nat.zero_mod, Nat.add_zero]) (by rw [← ht, hc2]) (by rw [← hv, hc2])
      rw [← Int.natCast_add, wrapN (x' + v) (by omega), show wrap64 ((d : Int) - 1) = (d : Int) - 1 from by unfold wrap64; omega]
      exact ih k (x' + v) t s (by omega) (by omega) (by omega) (by omega) (by omega) (by rw [hstep]; exact hsum)
    · rw [if_neg hb] at hstep
      rw [if_neg (by omega), show wrap64 ((d : Int) - 1) = (d : Int) - 1 from by unfold wrap64; omega]
      exact ih k x' y' z' (by omega) (by omega) bx by' bz (by rw [hstep]; omega)
theorem refmul3_spec (hi lo B T k : Nat) (hhi : hi < 18446744073709551616) (hlo : lo < 18446744073709551616) (hB : B < 18446744073709551616) (hT : hi * B * 18446744073709551616 + lo * B = T) (hk : 129 ≤ k) :
    plumbref01_Mul3.f k (hi : Int) (lo : Int) (B : Int) = some (((T / 340282366920938463463374607431768211456 : Nat) : Int), ((T / 18446744073709551616 % 18446744073709551616 : Nat) : Int), ((T % 18446744073709551616 : Nat) : Int)) := by
  unfold plumbref01_Mul3.f
  have h := refmul3_l0 hi lo B (hi * 18446744073709551616 + lo) hhi hlo hB rfl T (by rw [← hT, Nat.add_mul, Nat.mul_right_comm]) 64 k 0 0 0 (by omega) hk (by omega) (by omega) (by omega) (by
    rw [Nat.div_eq_of_lt (by simpa using hB)]; simp)
  exact h

theorem WideMuls : plumblaw01_WideMuls.Pure := by
  intro a b c ha hb hc
  obtain ⟨A, rfl, hA⟩ := u64_nat ha
  obtain ⟨B, rfl, hB⟩ := u64_nat hb
  obtain ⟨C, rfl, hC⟩ := u64_nat hc
  obtain ⟨k, hk⟩ : ∃ k : Nat, 129 ≤ k := ⟨129, by omega⟩
  refine ⟨k, ?_⟩
  have m1 := mul_spec A B hA hB
  have b1 := mul_bd A B hA hB
  have m2 : plumbref01_Mul.f k (A : Int) (B : Int) = wide_Mul.f (A : Int) (B : Int) := by
    unfold plumbref01_Mul.f
    have h := refmul3_spec 0 A B (A * B) k (by omega) hA hB (by omega) hk
    rw [show ((0 : Nat) : Int) = 0 from rfl] at h
    rw [h, m1]
    simp only [Option.bind_some, Option.some.injEq, Prod.mk.injEq, and_true]
    generalize A * B = p at *
    omega
  obtain ⟨T, hT⟩ : ∃ T, A * C * 18446744073709551616 + B * C = T := ⟨_, rfl⟩
  have m3 := mul3_spec A B C T hA hB hC hT
  have m4 := refmul3_spec A B C T k hA hB hC hT hk
  rw [m1] at m2
  unfold plumblaw01_WideMuls.f
  rw [m1, m2, m3, m4]
  simp only [Option.bind_some, if_true, beq_self_eq_true]

end Go.Proofs.Ythinhdnbhkppgaa.Pure
