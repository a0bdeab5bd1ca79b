/- The call of plumblaw01.WideShifts at any two words of 64 bits and any int returns true and leaves what lay in memory as it was. No condition. -/
import Derived.Test.YthinhdnbhkppgaaPWideShiftsx1
import Derived.Test.YthinhdnbhkppgaaMath
import Derived.Test.YthinhdnbhkppgaaMathBits
import Derived.Test.YthinhdnbhkppgaaMathShift
namespace Go.Proofs.Ythinhdnbhkppgaa.Pure
open Go.RowKit Go.Proofs.Ythinhdnbhkppgaa.PWideShifts Go.Proofs.YthinhdnbhkppgaaW.PrintWords Go.Proofs.YthinhdnbhkppgaaW.PrintLast Go.Proofs.YthinhdnbhkppgaaW.PrintMore Go.Proofs.Ythinhdnbhkppgaa.Math

theorem add_spec (A B C : Nat) (hA : A < 18446744073709551616) (hB : B < 18446744073709551616) (hC : C < 18446744073709551616) :
    wide_Add.f (A : Int) (B : Int) (C : Int) = some ((((A + B + C % 2) % 18446744073709551616 : Nat) : Int), (((A + B + C % 2) / 18446744073709551616 : Nat) : Int)) := by
  unfold wide_Add.f
  simp only [wrapI, andN1 C hC]
  split
  · simp only [Option.some.injEq, Prod.mk.injEq]; omega
  · split <;> simp only [Option.some.injEq, Prod.mk.injEq] <;> omega

def halfOf : Nat → Nat
  | 0 => 0
  | j + 1 => 2 ^ j
theorem halfOf_half (j : Nat) : ((halfOf (j + 1) : Nat) : Int) / 2 = ((halfOf j : Nat) : Int) := by
  cases j with
  | zero => simp [halfOf]
  | succ j => simp only [halfOf, Nat.pow_succ]; omega
theorem len_l0 (j : Nat) : ∀ (k x m : Nat), j < k → x < 2 ^ (2 ^ j) → j ≤ 6 → m + 2 ^ j ≤ 64 →
    ∃ L : Nat, wide_Len.l0 k (x : Int) (m : Int) ((halfOf j : Nat) : Int) = some (((m + L : Nat)) : Int) ∧ IsLen x L ∧ L ≤ 2 ^ j := by
  induction j with
  | zero =>
    intro k x m hk hx hj hm
    obtain ⟨k, rfl⟩ : ∃ m, k = m + 1 := ⟨k - 1, by omega⟩
    have hx2 : x < 2 := by simpa using hx
    refine ⟨x, ?_, ?_, by simp; omega⟩
    · simp only [wide_Len.l0]
      rw [show ((halfOf 0 : Nat) : Int) = 0 from rfl, if_neg (by omega)]
      simp only [Option.some.injEq]
      unfold wrap64
      have : m ≤ 63 := by simpa using hm
      omega
    · rcases Nat.lt_or_ge x 1 with h | h
      · obtain rfl : x = 0 := by omega
        exact IsLen.zero
      · obtain rfl : x = 1 := by omega
        exact ⟨by simp, fun _ => by simp⟩
  | succ j ih =>
    intro k x m hk hx hj hm
    obtain ⟨k, rfl⟩ : ∃ m, k = m + 1 := ⟨k - 1, by omega⟩
    have hp : 0 < 2 ^ j := Nat.two_pow_pos j
    have h32 : 2 ^ j ≤ 2 ^ 5 := Nat.pow_le_pow_right (by omega) (by omega)
    have hs : (2 : Nat) ^ (j + 1) = 2 ^ j + 2 ^ j := by rw [Nat.pow_succ]; omega
    rw [hs] at hm
    simp only [wide_Len.l0]
    rw [halfOf_half j, show halfOf (j + 1) = 2 ^ j from rfl]
    rw [if_pos (by omega), if_pos (by omega), shrN x (2 ^ j) (by omega)]
    obtain ⟨y, hy⟩ : ∃ y, x / 2 ^ (2 ^ j) = y := ⟨_, rfl⟩
    rw [hy]
    have hP : 0 < 2 ^ (2 ^ j) := Nat.two_pow_pos _
    by_cases h0 : y = 0
    · rw [if_pos (by omega)]
      obtain ⟨L, h1, h2, h3⟩ := ih k x m (by omega) (by rcases Nat.div_eq_zero_iff.1 (hy.trans h0) with h | h <;> omega) (by omega) (by omega)
      exact ⟨L, h1, h2, by rw [hs]; omega⟩
    · rw [if_neg (by omega), show wrap64 ((m : Int) + ((2 ^ j : Nat) : Int)) = ((m + 2 ^ j : Nat) : Int) from by unfold wrap64; omega]
      obtain ⟨L, h1, h2, h3⟩ := ih k y (m + 2 ^ j) (by omega) (by
        rw [← hy, Nat.div_lt_iff_lt_mul hP, ← Nat.pow_add, ← hs]; exact hx) (by omega) (by omega)
      exact ⟨L + 2 ^ j, by rw [h1]; congr 2; omega, IsLen.shift hy (by omega) h2, by rw [hs]; omega⟩
theorem len_spec (x k : Nat) (hx : x < 18446744073709551616) (hk : 6 < k) : ∃ L : Nat, wide_Len.f k (x : Int) = some (L : Int) ∧ IsLen x L ∧ L ≤ 64 := by
  obtain ⟨L, h1, h2, h3⟩ := len_l0 6 k x 0 hk (by simpa using hx) (by omega) (by simp)
  exact ⟨L, by rw [Nat.zero_add] at h1; exact h1, h2, by simpa using h3⟩

theorem zeros_zero (k : Nat) : wide_Zeros.f k 0 = some 64 := by
  unfold wide_Zeros.f
  rw [if_pos rfl]
theorem zeros_spec (x k : Nat) (h0 : 0 < x) (hx : x < 18446744073709551616) (hk : 6 < k) : ∃ z q : Nat, wide_Zeros.f k (x : Int) = some (z : Int) ∧ x = 2 ^ z * (2 * q + 1) ∧ z < 64 := by
  obtain ⟨z, q, e, hz, hb⟩ := neg_and x h0 hx
  have hp : 2 ^ z < 18446744073709551616 := by
    have := Nat.pow_lt_pow_right (a := 2) (by omega) hz
    simpa using this
  obtain ⟨L, h1, h2, h3⟩ := len_spec (2 ^ z) k hp hk
  have hL := h2.uniq (IsLen.pow z)
  subst hL
  refine ⟨z, q, ?_, e, hz⟩
  unfold wide_Zeros.f
  rw [if_neg (by omega), hb, h1]
  simp only [Option.bind_some, Option.some.injEq]
  unfold wrap64
  omega

def Held (n : Int) (m : Nat) : Prop := (n ≤ 0 ∧ m = 0) ∨ (0 ≤ n ∧ n ≤ 128 ∧ (m : Int) = n) ∨ (128 ≤ n ∧ m = 128)
theorem Held.le {n : Int} {m : Nat} (h : Held n m) : m ≤ 128 := by rcases h with h | h | h <;> omega
theorem within_spec {n : Int} {m : Nat} (h : Held n m) : wide_within.f n = some (m : Int) := by
  unfold wide_within.f mn mx
  rcases h with h | h | h
  · congr 1; repeat' split
    all_goals omega
  · congr 1; repeat' split
    all_goals omega
  · congr 1; repeat' split
    all_goals omega
theorem shl_spec (H L T : Nat) (n : Int) (m : Nat) (hL : L < 18446744073709551616) (hm : Held n m) (hT : T = (H * 18446744073709551616 + L) * 2 ^ m) :
    wide_Shl.f (H : Int) (L : Int) n = some (((T / 18446744073709551616 % 18446744073709551616 : Nat) : Int), ((T % 18446744073709551616 : Nat) : Int)) := by
  have hle := hm.le
  unfold wide_Shl.f
  rw [within_spec hm]
  simp only [Option.bind_some]
  by_cases h : 64 ≤ m
  · obtain ⟨e1, e2⟩ := shl_big_words H L m T h hT
    rw [if_pos (by omega), show wrap64 ((m : Int) - 64) = ((m - 64 : Nat) : Int) from by unfold wrap64; omega, if_pos (by omega), shlN L (m - 64) (by omega), e1, e2]
    rfl
  · obtain ⟨e1, e2, e3⟩ := shl_small_words H L m T hL (by omega) hT
    rw [if_neg (by omega), if_pos (by omega), show wrap64 (64 - (m : Int)) = ((64 - m : Nat) : Int) from by unfold wrap64; omega, if_pos (by omega), shlN H m (by omega), shrN L (64 - m) (by omega), shlN L m (by omega),
      left_mod H m (by omega), orN_add' _ _ _ (right_lt L m hL (by omega)) e3, e1, e2]
theorem shr_spec (H L T : Nat) (n : Int) (m : Nat) (hH : H < 18446744073709551616) (hL : L < 18446744073709551616) (hm : Held n m) (hT : T = (H * 18446744073709551616 + L) / 2 ^ m) :
    wide_Shr.f (H : Int) (L : Int) n = some (((T / 18446744073709551616 : Nat) : Int), ((T % 18446744073709551616 : Nat) : Int), decide ((H * 18446744073709551616 + L) % 2 ^ m ≠ 0)) := by
  have hle := hm.le
  unfold wide_Shr.f
  rw [within_spec hm]
  simp only [Option.bind_some]
  by_cases h : 64 ≤ m
  · obtain ⟨e1, e2⟩ := shr_big_words H L m T hL h hT
    have hTH : T ≤ H := by rw [e1]; exact Nat.div_le_self _ _
    rw [if_pos (by omega), show wrap64 ((m : Int) - 64) = ((m - 64 : Nat) : Int) from by unfold wrap64; omega, show wrap64 (128 - (m : Int)) = ((64 - (m - 64) : Nat) : Int) from by unfold wrap64; omega,
      shrN H (m - 64) (by omega), ← e1, Nat.div_eq_of_lt (show T < 18446744073709551616 by omega), Nat.mod_eq_of_lt (show T < 18446744073709551616 by omega), e2,
      shlN H (64 - (m - 64)) (by omega), left_mod H (64 - (m - 64)) (by omega), show 64 - (64 - (m - 64)) = m - 64 from by omega]
    have hp := Nat.two_pow_pos (64 - (m - 64))
    by_cases h0 : L = 0
    · rw [if_pos (by omega), if_pos (by omega), if_pos (by omega)]
      subst h0
      simp only [Option.some.injEq, Prod.mk.injEq, true_and, show ((0 : Nat) : Int) = 0 from rfl]
      by_cases hz : H % 2 ^ (m - 64) = 0
      · rw [hz]; simp
      · have hne : H % 2 ^ (m - 64) * 2 ^ (64 - (m - 64)) ≠ 0 := by
          intro e
          rcases Nat.mul_eq_zero.1 e with e | e <;> omega
        have : decide (0 + 18446744073709551616 * (H % 2 ^ (m - 64)) ≠ 0) = true := decide_eq_true (by omega)
        rw [this, bne_iff_ne]
        omega
    · rw [if_neg (by omega), if_pos (by omega)]
      have : decide (L + 18446744073709551616 * (H % 2 ^ (m - 64)) ≠ 0) = true := by simp; omega
      rw [this]; rfl
  · obtain ⟨e1, e2, e3⟩ := shr_small_words H L m T hL (by omega) hT
    have hbd := (left_word H (64 - m) (by omega)).2
    have hrl := right_lt L (64 - m) hL (by omega)
    rw [show 64 - (64 - m) = m from by omega] at hbd hrl
    rw [if_neg (by omega), if_pos (by omega), show wrap64 (64 - (m : Int)) = ((64 - m : Nat) : Int) from by unfold wrap64; omega, if_pos (by omega), shrN H m (by omega), shrN L m (by omega), shlN H (64 - m) (by omega), shlN L (64 - m) (by omega),
      left_mod H (64 - m) (by omega), left_mod L (64 - m) (by omega), show 64 - (64 - m) = m from by omega,
      orN_add _ _ _ hrl (by rw [Nat.mul_comm (2 ^ (64 - m))]; omega), e1, e2, e3]
    have hp := Nat.two_pow_pos (64 - m)
    congr 3
    by_cases hz : L % 2 ^ m = 0
    · rw [hz]; simp
    · have hne : L % 2 ^ m * 2 ^ (64 - m) ≠ 0 := by
        intro e
        rcases Nat.mul_eq_zero.1 e with e | e <;> omega
      have : decide (L % 2 ^ m ≠ 0) = true := by simp; exact hz
      rw [this, bne_iff_ne]
      omega

theorem law_chain {w a b : World} (h : Below w.heap.size w a) (k : Below a.heap.size a b) : Below w.heap.size w b := below_then h h.size k
set_option maxHeartbeats 4000000 in
set_option maxRecDepth 100000 in
theorem law_walk (hi lo n0 m a b c d k k2 p q u v r s h l one : Int) (lost gone any bu bv : Bool) (K : Nat) (w : World)
    (h0 : plumblaw01_held.f n0 = some m) (hm0 : 0 ≤ m) (hm1 : m ≤ 128)
    (h1 : wide_Shl.f hi lo m = some (a, b)) (h2 : wide_Shl.f a b 1 = some (c, d)) (h3 : wide_Shl.f hi lo (m + 1) = some (c, d))
    (h4 : wide_Add.f b b 0 = some (d, k)) (h5 : wide_Add.f a a k = some (c, k2)) (h6 : wide_Shr.f hi lo m = some (p, q, lost)) (h7 : wide_Shl.f p q m = some (u, v))
    (h8 : wide_Shr.f p q 1 = some (r, s, gone)) (h9 : wide_Shr.f hi lo (m + 1) = some (r, s, any)) (h10 : wide_Shl.f 0 1 m = some (h, l))
    (h11 : wide_Len.f K one = some (m % 64 + 1)) (h12 : wide_Zeros.f K one = some (m % 64)) (h13 : wide_Len.f K (one - 1) = some (m % 64)) (h14 : wide_Len.f K 0 = some 0) (h15 : wide_Zeros.f K 0 = some 64)
    (hbu : (u == hi) = bu) (hbv : (v == lo) = bv) (hb : lost = !(bu && bv)) (ha : any = (gone || lost)) (hg : (bits .and .u64 q 1 == 1) = gone)
    (hone : IntKind.u64.wrap (2 ^ (m % 64).toNat) = one) (ho1 : 1 ≤ one) (ho2 : one ≤ 9223372036854775808) (hcs : (m < 64 ∧ h = 0 ∧ l = one) ∨ (64 ≤ m ∧ m < 128 ∧ h = one ∧ l = 0) ∨ (m = 128 ∧ h = 0 ∧ l = 0)) :
    Calls Try.prog 11 #[.int .u64 hi, .int .u64 lo, .int .i64 n0] w fun e w' => e = .returned (.bool true) ∧ Below w.heap.size w w' := by
  have H0 := Aside0.mk h0
  have H1 := Aside0.mk h1
  have H2 := Aside0.mk h2
  have H3 := Aside0.mk h3
  have H4 := Aside0.mk h4
  have H5 := Aside0.mk h5
  have H6 := Aside0.mk h6
  have H7 := Aside0.mk h7
  have H8 := Aside0.mk h8
  have H9 := Aside0.mk h9
  have H10 := Aside0.mk h10
  have H11 := Aside0.mk h11
  have H12 := Aside0.mk h12
  have H13 := Aside0.mk h13
  have H14 := Aside0.mk h14
  have H15 := Aside0.mk h15
  clear h0 h1 h2 h3 h4 h5 h6 h7 h8 h9 h10 h11 h12 h13 h14 h15
  have hcase : (bu = false ∧ lost = true) ∨ (bu = true ∧ bv = false ∧ lost = true) ∨ (bu = true ∧ bv = true ∧ lost = false) := by
    cases bu <;> cases bv <;> simp at hb ⊢ <;> exact hb
  have HA := Aside0.mk ha
  have HG := Aside0.mk hg
  have HC := Aside0.mk hcase
  have HU := Aside0.mk hbu
  have HV := Aside0.mk hbv
  have HS := Aside0.mk hcs
  clear hb ha hg hcase hbu hbv hcs
  go_enter Try.func11, Try.ntmps11
  go_wp2_with fail
  refine (plumblaw01_held.calls _ _ _ H0.out).mono ?_
  rintro e0 w0 ⟨rfl, hb⟩
  have B0 := Aside0.mk (law_chain (Below.refl _ _) hb.below)
  clear hb
  go_wp2_with fail
  refine (wide_Shl.calls _ _ _ _ _ _ H1.out).mono ?_
  rintro e1 w1 ⟨rfl, hb⟩
  have B1 := Aside0.mk (law_chain B0.out hb)
  clear hb
  clear B0
  go_wp2_with fail
  refine (wide_Shl.calls _ _ _ _ _ _ H2.out).mono ?_
  rintro e2 w2 ⟨rfl, hb⟩
  have B2 := Aside0.mk (law_chain B1.out hb)
  clear hb
  clear B1
  go_wp2_with fail
  refine (wide_Shl.calls _ _ _ _ _ _ H3.out).mono ?_
  rintro e3 w3 ⟨rfl, hb⟩
  have B3 := Aside0.mk (law_chain B2.out hb)
  clear hb
  clear B2
  go_wp2_with fail
  refine (wide_Add.calls _ _ _ _ _ _ H4.out).mono ?_
  rintro e4 w4 ⟨rfl, hb⟩
  have B4 := Aside0.mk (law_chain B3.out hb.below)
  clear hb
  clear B3
  go_wp2_with fail
  refine (wide_Add.calls _ _ _ _ _ _ H5.out).mono ?_
  rintro e5 w5 ⟨rfl, hb⟩
  have B5 := Aside0.mk (law_chain B4.out hb.below)
  clear hb
  clear B4
  go_wp2_with fail
  refine (wide_Shr.calls _ _ _ _ _ _ _ H6.out).mono ?_
  rintro e6 w6 ⟨rfl, hb⟩
  have B6 := Aside0.mk (law_chain B5.out hb)
  clear hb
  clear B5
  go_wp2_with fail
  refine (wide_Shl.calls _ _ _ _ _ _ H7.out).mono ?_
  rintro e7 w7 ⟨rfl, hb⟩
  have B7 := Aside0.mk (law_chain B6.out hb)
  clear hb
  clear B6
  go_upto_region 11 with fail
  go_cut [109] (fun c wx => c = .bool false ∧ wx = w7)
  case first =>
    have hbu := HU.out
    have hbv := HV.out
    rcases HC.out with ⟨rfl, rfl⟩ | ⟨rfl, rfl, rfl⟩ | ⟨rfl, rfl, rfl⟩
    all_goals
      go_wp2
      go_meet
      exact ⟨rfl, rfl⟩
  case rest =>
  obtain ⟨rfl, rfl⟩ := hcut
  go_wp2_with fail
  refine (wide_Shr.calls _ _ _ _ _ _ _ H8.out).mono ?_
  rintro e8 w8 ⟨rfl, hb⟩
  have B8 := Aside0.mk (law_chain B7.out hb)
  clear hb
  clear B7
  go_wp2_with fail
  refine (wide_Shr.calls _ _ _ _ _ _ _ H9.out).mono ?_
  rintro e9 w9 ⟨rfl, hb⟩
  have B9 := Aside0.mk (law_chain B8.out hb)
  clear hb
  clear B8
  go_upto_region 15 with fail
  go_cut [148] (fun c wx => c = .bool false ∧ wx = w9)
  case first =>
    have hg := HG.out
    have ha := HA.out
    cases gone <;> cases lost <;> simp only [Bool.true_or, Bool.false_or] at ha <;> subst ha
    all_goals
      go_wp2
      go_meet
      exact ⟨rfl, rfl⟩
  case rest =>
  obtain ⟨rfl, rfl⟩ := hcut
  go_wp2_with fail
  refine (wide_Shl.calls _ _ _ _ _ _ H10.out).mono ?_
  rintro e10 w10 ⟨rfl, hb⟩
  have B10 := Aside0.mk (law_chain B9.out hb)
  clear hb
  clear B9
  go_upto_region 19 with fail
  go_cut [196] (fun c wx => c = .bool false ∧ wx = w10)
  case first =>
    rcases HS.out with ⟨c1, rfl, rfl⟩ | ⟨c1, c2, rfl, rfl⟩ | ⟨rfl, rfl, rfl⟩
    all_goals
      go_wp2
      go_meet
      exact ⟨rfl, rfl⟩
  case rest =>
  obtain ⟨rfl, rfl⟩ := hcut
  go_wp2_with fail
  refine (wide_Len.calls K _ _ _ H11.out).mono ?_
  rintro e11 w11 ⟨rfl, hb⟩
  have B11 := Aside0.mk (law_chain B10.out hb.below)
  clear hb
  clear B10
  go_wp2_with fail
  refine (wide_Zeros.calls K _ _ _ H12.out).mono ?_
  rintro e12 w12 ⟨rfl, hb⟩
  have B12 := Aside0.mk (law_chain B11.out hb.below)
  clear hb
  clear B11
  go_wp2_with fail
  refine (wide_Len.calls K _ _ _ H13.out).mono ?_
  rintro e13 w13 ⟨rfl, hb⟩
  have B13 := Aside0.mk (law_chain B12.out hb.below)
  clear hb
  clear B12
  go_wp2_with fail
  refine (wide_Len.calls K _ _ _ H14.out).mono ?_
  rintro e14 w14 ⟨rfl, hb⟩
  have B14 := Aside0.mk (law_chain B13.out hb.below)
  clear hb
  clear B13
  go_wp2_with fail
  refine (wide_Zeros.calls K _ _ _ H15.out).mono ?_
  rintro e15 w15 ⟨rfl, hb⟩
  have B15 := Aside0.mk (law_chain B14.out hb.below)
  clear hb
  clear B14
  go_wp2
  go_ret
  exact ⟨rfl, B15.out⟩

theorem held_spec {n : Int} {m : Nat} (h : Held n m) : plumblaw01_held.f n = some (m : Int) := by
  unfold plumblaw01_held.f
  rcases h with h | h | h <;> repeat' split
  all_goals (simp only [Option.some.injEq]; omega)
theorem held_of (n : Int) : ∃ m, Held n m := by
  by_cases h0 : n ≤ 0
  · exact ⟨0, .inl ⟨h0, rfl⟩⟩
  · by_cases h1 : n ≤ 128
    · exact ⟨n.toNat, .inr (.inl ⟨by omega, h1, by omega⟩)⟩
    · exact ⟨128, .inr (.inr ⟨by omega, rfl⟩)⟩
/-- Two words of a number. -/
theorem words_mod (T : Nat) : T / 18446744073709551616 % 18446744073709551616 * 18446744073709551616 + T % 18446744073709551616 = T % 340282366920938463463374607431768211456 := by omega
theorem zero_words (N T : Nat) (h : T = N * 340282366920938463463374607431768211456) : T / 18446744073709551616 % 18446744073709551616 = 0 ∧ T % 18446744073709551616 = 0 ∧
    T * 2 / 18446744073709551616 % 18446744073709551616 = 0 ∧ T * 2 % 18446744073709551616 = 0 := by
  have e1 : T = N * 18446744073709551616 * 18446744073709551616 := by rw [h, Nat.mul_assoc]
  have e2 : T * 2 = N * 2 * 18446744073709551616 * 18446744073709551616 := by rw [e1, Nat.mul_right_comm _ _ 2, Nat.mul_right_comm N _ 2]
  rw [e2, Nat.mul_div_cancel _ (by omega), Nat.mul_mod_left, Nat.mul_mod_left, e1, Nat.mul_div_cancel _ (by omega), Nat.mul_mod_left, Nat.mul_mod_left]
  exact ⟨rfl, rfl, rfl, rfl⟩
theorem WideShifts (hi lo n0 : Int) (hhi : (Lit.int .u64 hi).wf = true) (hlo : (Lit.int .u64 lo).wf = true) (w : World) :
    Calls Try.prog 11 #[.int .u64 hi, .int .u64 lo, .int .i64 n0] w fun e w' => e = .returned (.bool true) ∧ Below w.heap.size w w' := by
  obtain ⟨H, rfl, hH⟩ := u64_nat hhi
  obtain ⟨L, rfl, hL⟩ := u64_nat hlo
  obtain ⟨m, hm⟩ := held_of n0
  have hle := hm.le
  obtain ⟨N, hN⟩ : ∃ N, H * 18446744073709551616 + L = N := ⟨_, rfl⟩
  have hN2 : N < 340282366920938463463374607431768211456 := by omega
  have hp := Nat.two_pow_pos m
  -- to the left by m, by one more
  have hm' : Held (m : Int) m := .inr (.inl ⟨by omega, by omega, rfl⟩)
  have h1 := shl_spec H L (N * 2 ^ m) (m : Int) m hL hm' (by rw [hN])
  obtain ⟨T, hT⟩ : ∃ T, N * 2 ^ m = T := ⟨_, rfl⟩
  rw [hT] at h1
  obtain ⟨a, ea⟩ : ∃ a, T / 18446744073709551616 % 18446744073709551616 = a := ⟨_, rfl⟩
  obtain ⟨b, eb⟩ : ∃ b, T % 18446744073709551616 = b := ⟨_, rfl⟩
  rw [ea, eb] at h1
  have h2 := shl_spec a b ((a * 18446744073709551616 + b) * 2 ^ 1) 1 1 (by omega) (.inr (.inl ⟨by omega, by omega, rfl⟩)) rfl
  have hw : (a * 18446744073709551616 + b) * 2 ^ 1 / 18446744073709551616 % 18446744073709551616 = T * 2 / 18446744073709551616 % 18446744073709551616 ∧ (a * 18446744073709551616 + b) * 2 ^ 1 % 18446744073709551616 = T * 2 % 18446744073709551616 := by
    have := words_mod T
    rw [ea, eb] at this
    rw [this]
    omega
  rw [hw.1, hw.2] at h2
  obtain ⟨c, ec⟩ : ∃ a, T * 2 / 18446744073709551616 % 18446744073709551616 = a := ⟨_, rfl⟩
  obtain ⟨d, ed⟩ : ∃ b, T * 2 % 18446744073709551616 = b := ⟨_, rfl⟩
  rw [ec, ed] at h2
  have h3 : wide_Shl.f (H : Int) (L : Int) ((m : Int) + 1) = some ((c : Int), (d : Int)) := by
    rcases Nat.lt_or_ge m 128 with h | h
    · have := shl_spec H L (T * 2) ((m : Int) + 1) (m + 1) hL (.inr (.inl ⟨by omega, by omega, by omega⟩)) (by rw [hN, Nat.pow_succ, ← Nat.mul_assoc, hT])
      rw [ec, ed] at this
      exact this
    · obtain rfl : m = 128 := by omega
      have := shl_spec H L T (((128 : Nat) : Int) + 1) 128 hL (.inr (.inr ⟨by omega, rfl⟩)) (by rw [hN, hT])
      have e : T = N * 340282366920938463463374607431768211456 := hT.symm
      obtain ⟨z1, z2, z3, z4⟩ := zero_words N T e
      rw [z1, z2] at this
      rw [z3] at ec
      rw [z4] at ed
      rw [← ec, ← ed]
      exact this
  have hadd1 := add_spec b b 0 (by omega) (by omega) (by omega)
  rw [show (b + b + 0 % 2) % 18446744073709551616 = d from by omega, show ((0 : Nat) : Int) = 0 from rfl] at hadd1
  obtain ⟨k, ek⟩ : ∃ k, (b + b + 0 % 2) / 18446744073709551616 = k := ⟨_, rfl⟩
  rw [ek] at hadd1
  have hadd2 := add_spec a a k (by omega) (by omega) (by omega)
  rw [show (a + a + k % 2) % 18446744073709551616 = c from by omega] at hadd2
  -- to the right
  have h6 := shr_spec H L (N / 2 ^ m) (m : Int) m hH hL hm' (by rw [hN])
  rw [hN] at h6
  obtain ⟨M, hM⟩ : ∃ M, N / 2 ^ m = M := ⟨_, rfl⟩
  have hMN : M ≤ N := by rw [← hM]; exact Nat.div_le_self _ _
  rw [hM] at h6
  obtain ⟨p, ep⟩ : ∃ a, M / 18446744073709551616 = a := ⟨_, rfl⟩
  obtain ⟨q, eq⟩ : ∃ b, M % 18446744073709551616 = b := ⟨_, rfl⟩
  rw [ep, eq] at h6
  have epq : p * 18446744073709551616 + q = M := by rw [← ep, ← eq]; exact Nat.div_add_mod' M _
  have h7 := shl_spec p q (M * 2 ^ m) (m : Int) m (by omega) hm' (by rw [epq])
  have hdm := Nat.div_add_mod N (2 ^ m)
  rw [hM, Nat.mul_comm] at hdm
  obtain ⟨V, hV⟩ : ∃ V, M * 2 ^ m = V := ⟨_, rfl⟩
  rw [hV] at h7 hdm
  obtain ⟨u, eu⟩ : ∃ a, V / 18446744073709551616 % 18446744073709551616 = a := ⟨_, rfl⟩
  obtain ⟨v, ev⟩ : ∃ b, V % 18446744073709551616 = b := ⟨_, rfl⟩
  rw [eu, ev] at h7
  have h8 := shr_spec p q (M / 2 ^ 1) 1 1 (by omega) (by omega) (.inr (.inl ⟨by omega, by omega, rfl⟩)) (by rw [epq])
  rw [epq] at h8
  have h9 : wide_Shr.f (H : Int) (L : Int) ((m : Int) + 1) = some (((M / 2 ^ 1 / 18446744073709551616 : Nat) : Int), ((M / 2 ^ 1 % 18446744073709551616 : Nat) : Int), (decide (M % 2 ^ 1 ≠ 0) || decide (N % 2 ^ m ≠ 0))) := by
    rcases Nat.lt_or_ge m 128 with h | h
    · have := shr_spec H L (N / 2 ^ (m + 1)) ((m : Int) + 1) (m + 1) hH hL (.inr (.inl ⟨by omega, by omega, by omega⟩)) (by rw [hN])
      have e1 : N / 2 ^ (m + 1) = M / 2 ^ 1 := by rw [Nat.pow_succ, ← Nat.div_div_eq_div_mul, hM]
      have e2 := Nat.mod_mul (x := N) (a := 2 ^ m) (b := 2)
      rw [hM] at e2
      rw [e1, hN] at this
      rw [this]
      congr 3
      rw [Nat.pow_succ, e2]
      by_cases z1 : M % 2 = 0
      · rw [z1]; simp
      · have : M % 2 = 1 := by omega
        rw [this]
        have z2 : decide (N % 2 ^ m + 2 ^ m * 1 ≠ 0) = true := decide_eq_true (by omega)
        rw [z2]; simp
    · obtain rfl : m = 128 := by omega
      have := shr_spec H L (N / 2 ^ 128) (((128 : Nat) : Int) + 1) 128 hH hL (.inr (.inr ⟨by omega, rfl⟩)) (by rw [hN])
      have e : M = 0 := by rw [← hM]; exact Nat.div_eq_of_lt (by rw [show (2 : Nat) ^ 128 = 340282366920938463463374607431768211456 from rfl]; exact hN2)
      rw [hM, hN] at this
      rw [this]
      subst e
      simp
  -- bits alone
  obtain ⟨z, ez⟩ : ∃ z, m % 64 = z := ⟨_, rfl⟩
  have hz : z < 64 := by omega
  have hz63 : 2 ^ z ≤ 9223372036854775808 := by
    have := Nat.pow_le_pow_right (n := 2) (by omega) (show z ≤ 63 by omega)
    simpa using this
  have hz0 := Nat.two_pow_pos z
  have h10 := shl_spec 0 1 (2 ^ m) (m : Int) m (by omega) hm' (by omega)
  obtain ⟨K, hK⟩ : ∃ K : Nat, 6 < K := ⟨7, by omega⟩
  obtain ⟨L1, h11, i1, j1⟩ := len_spec (2 ^ z) K (by omega) hK
  obtain rfl := i1.uniq (IsLen.pow z)
  obtain ⟨z', q', h12, i2, j2⟩ := zeros_spec (2 ^ z) K hz0 (by omega) hK
  have hzz : z' = z := by
    have k1 : IsLen (2 ^ z) (z + 1) := IsLen.pow z
    rcases Nat.eq_zero_or_pos q' with h | h
    · subst h
      rw [Nat.mul_zero, Nat.zero_add, Nat.mul_one] at i2
      have k2 := (IsLen.pow z').uniq (i2 ▸ k1)
      omega
    · exfalso
      have hlt : z' < z := by
        have h1 : 2 ^ z' * 1 < 2 ^ z' * (2 * q' + 1) := Nat.mul_lt_mul_of_pos_left (by omega) (Nat.two_pow_pos z')
        rw [← i2, Nat.mul_one] at h1
        exact (Nat.pow_lt_pow_iff_right (a := 2) (by omega)).1 h1
      have e : 2 ^ z = 2 ^ z' * (2 * 2 ^ (z - z' - 1)) := by rw [Nat.mul_left_comm, ← Nat.pow_add, ← Nat.pow_succ']; congr 1; omega
      rw [e] at i2
      have := Nat.eq_of_mul_eq_mul_left (Nat.two_pow_pos z') i2
      omega
  subst hzz
  obtain ⟨L3, h13, i3, j3⟩ := len_spec (2 ^ z' - 1) K (by omega) hK
  have e3 := i3.uniq (IsLen.pred z')
  subst e3
  obtain ⟨L4, h14, i4, j4⟩ := len_spec 0 K (by omega) hK
  have e4 := i4.uniq IsLen.zero
  subst e4
  have em : (m : Int) % 64 = (L3 : Int) := by omega
  have hq1 : M % 2 ^ 1 = q % 2 := by omega
  have hcs : ((m : Int) < 64 ∧ ((2 ^ m / 18446744073709551616 % 18446744073709551616 : Nat) : Int) = 0 ∧ ((2 ^ m % 18446744073709551616 : Nat) : Int) = ((2 ^ L3 : Nat) : Int)) ∨
      (64 ≤ (m : Int) ∧ (m : Int) < 128 ∧ ((2 ^ m / 18446744073709551616 % 18446744073709551616 : Nat) : Int) = ((2 ^ L3 : Nat) : Int) ∧ ((2 ^ m % 18446744073709551616 : Nat) : Int) = 0) ∨
      ((m : Int) = 128 ∧ ((2 ^ m / 18446744073709551616 % 18446744073709551616 : Nat) : Int) = 0 ∧ ((2 ^ m % 18446744073709551616 : Nat) : Int) = 0) := by
    rcases Nat.lt_or_ge m 64 with h | h
    · refine .inl ⟨by omega, ?_⟩
      obtain rfl : L3 = m := by omega
      omega
    · have e : (2 : Nat) ^ m = 2 ^ (m - 64) * 18446744073709551616 := by
        rw [show (18446744073709551616 : Nat) = 2 ^ 64 from rfl, ← Nat.pow_add]; congr 1; omega
      rcases Nat.lt_or_ge m 128 with h' | h'
      · refine .inr (.inl ⟨by omega, by omega, ?_⟩)
        obtain rfl : L3 = m - 64 := by omega
        rw [e]
        omega
      · obtain rfl : m = 128 := by omega
        exact .inr (.inr ⟨rfl, rfl, rfl⟩)
  refine law_walk (H : Int) (L : Int) n0 (m : Int) a b c d k _ p q u v _ _ _ _ ((2 ^ L3 : Nat) : Int) _ _ _ _ _ K w
    (held_spec hm) (by omega) (by omega) h1 h2 h3 hadd1 hadd2 h6 h7 h8 h9 h10
    (by rw [em]; exact h11) (by rw [em]; exact h12) (by rw [em, show ((2 ^ L3 : Nat) : Int) - 1 = ((2 ^ L3 - 1 : Nat) : Int) from by omega]; exact h13) h14 (zeros_zero K)
    rfl rfl ?_ rfl ?_ (by rw [em, show (2 : Int) ^ (L3 : Int).toNat = ((2 ^ L3 : Nat) : Int) from by simp, wrapN _ (by omega)]) (by omega) (by omega) hcs
  · by_cases hr : N % 2 ^ m = 0
    · rw [hr]
      have e1 : V = N := by omega
      have f1 : u = H := by omega
      have f2 : v = L := by omega
      rw [f1, f2]; simp
    · have hlt : V < N := by omega
      have : ¬ ((u : Int) = (H : Int) ∧ (v : Int) = (L : Int)) := by omega
      have e1 : decide (N % 2 ^ m ≠ 0) = true := decide_eq_true hr
      rw [e1]
      by_cases g1 : (u : Int) = (H : Int)
      · have g2 : ¬ (v : Int) = (L : Int) := fun g => this ⟨g1, g⟩
        simp [g2]
      · simp [g1]
  · rw [andN1 q (by omega), hq1]
    rcases Nat.mod_two_eq_zero_or_one q with h | h <;> rw [h] <;> rfl

end Go.Proofs.Ythinhdnbhkppgaa.Pure
