/- The law F64Turns: the walk along its one road, with what its functions compute. No condition. -/
import Derived.Test.YtpnndhbeahajkaaPF64Ordersx2
import Derived.Test.YtpnndhbeahajkaaMath
import Derived.Test.YtpnndhbeahajkaaMathBits
import Derived.Test.YtpnndhbeahajkaaMathF64
namespace Go.Proofs.Ytpnndhbeahajkaa.Pure
open Go.RowKit Go.Proofs.Ytpnndhbeahajkaa.PF64Orders Go.Proofs.YtpnndhbeahajkaaW.PrintWords Go.Proofs.YtpnndhbeahajkaaW.PrintLast Go.Proofs.YtpnndhbeahajkaaW.PrintMore Go.Proofs.Ytpnndhbeahajkaa.Math

theorem law_chain {w a b : World} (h : Below w.heap.size w a) (k : Below a.heap.size a b) : Below w.heap.size w b := below_then h h.size k
set_option maxHeartbeats 4000000 in
set_option maxRecDepth 100000 in
theorem law_walk (a b n e p na nb cl c g r i s : Int) (K : Nat) (w : World)
    (h0 : f64_Next.f K a = some (n, e)) (h1 : f64_Neg.f a = some na) (h2 : f64_Prev.f K na = some (p, e)) (h3 : plumblaw06_alive.f K = some true) (h4 : f64_Neg.f na = some a) (h5 : na ≠ a)
    (h6 : f64_Class.f K na = some cl) (h7 : f64_Class.f K a = some cl) (h8 : e = 0 → f64_Neg.f n = some p) (h9 : f64_Cmp.f K a b = some (c, g)) (h10 : f64_Neg.f b = some nb) (h11 : f64_Cmp.f K nb na = some (c, g))
    (h12 : f64_Rank.f K a = some (r, i)) (h13 : f64_Rank.f K na = some (s, i)) (h14 : wrap64 (-s) = r) :
    Calls Try.prog 7 #[.int .u64 a, .int .u64 b] w fun e w' => e = .returned (.bool true) ∧ Below w.heap.size w w' := by
  have H0 := Aside0.mk h0
  have H1 := Aside0.mk h1
  have H2 := Aside0.mk h2
  have H3 := Aside0.mk h3
  have H4 := Aside0.mk h4
  have H6 := Aside0.mk h6
  have H7 := Aside0.mk h7
  have H8 := Aside0.mk h8
  have H9 := Aside0.mk h9
  have H10 := Aside0.mk h10
  have H11 := Aside0.mk h11
  have H12 := Aside0.mk h12
  have H13 := Aside0.mk h13
  have H14 := Aside0.mk h14
  clear h0 h1 h2 h3 h4 h6 h7 h8 h9 h10 h11 h12 h13 h14
  go_enter Try.func7, Try.ntmps7
  go_wp2_with fail
  refine (f64_Next.calls _ _ _ _ _ H0.out).mono ?_
  rintro e0 w0 ⟨rfl, hb⟩
  have B0 := Aside0.mk (law_chain (Below.refl _ _) hb.below)
  clear hb
  go_wp2_with fail
  refine (f64_Neg.calls _ _ _ H1.out).mono ?_
  rintro e1 w1 ⟨rfl, hb⟩
  have B1 := Aside0.mk (law_chain B0.out hb.below)
  clear hb
  clear B0
  go_wp2_with fail
  refine (f64_Prev.calls _ _ _ _ _ H2.out).mono ?_
  rintro e2 w2 ⟨rfl, hb⟩
  have B2 := Aside0.mk (law_chain B1.out hb.below)
  clear hb
  clear B1
  go_wp2_with fail
  refine (plumblaw06_alive.calls _ _ _ H3.out).mono ?_
  rintro e3 w3 ⟨rfl, hb⟩
  have B3 := Aside0.mk (law_chain B2.out hb)
  clear hb
  clear B2
  have q1 : (na == a) = false := beq_eq_false_iff_ne.mpr h5
  have q2 : (na != a) = true := bne_iff_ne.mpr h5
  go_wp2_with fail
  refine (f64_Neg.calls _ _ _ H1.out).mono ?_
  rintro e4 w4 ⟨rfl, hb⟩
  have B4 := Aside0.mk (law_chain B3.out hb.below)
  clear hb
  clear B3
  go_wp2_with fail
  refine (f64_Neg.calls _ _ _ H4.out).mono ?_
  rintro e5 w5 ⟨rfl, hb⟩
  have B5 := Aside0.mk (law_chain B4.out hb.below)
  clear hb
  clear B4
  go_wp2_with fail
  refine (f64_Neg.calls _ _ _ H1.out).mono ?_
  rintro e6 w6 ⟨rfl, hb⟩
  have B6 := Aside0.mk (law_chain B5.out hb.below)
  clear hb
  clear B5
  go_wp2_with fail
  refine (f64_Neg.calls _ _ _ H1.out).mono ?_
  rintro e7 w7 ⟨rfl, hb⟩
  have B7 := Aside0.mk (law_chain B6.out hb.below)
  clear hb
  clear B6
  go_wp2_with fail
  refine (f64_Class.calls _ _ _ _ H6.out).mono ?_
  rintro e8 w8 ⟨rfl, hb⟩
  have B8 := Aside0.mk (law_chain B7.out hb.below)
  clear hb
  clear B7
  go_wp2_with fail
  refine (f64_Class.calls _ _ _ _ H7.out).mono ?_
  rintro e9 w9 ⟨rfl, hb⟩
  have B9 := Aside0.mk (law_chain B8.out hb.below)
  clear hb
  clear B8
  by_cases he : e = 0
  · subst he
    have h8 := H8.out rfl
    go_wp2_with fail
    refine (f64_Neg.calls _ _ _ h8).mono ?_
    rintro e10 w10 ⟨rfl, hb⟩
    have B10 := Aside0.mk (law_chain B9.out hb.below)
    clear hb
    clear B9
    go_wp2_with fail
    refine (f64_Cmp.calls _ _ _ _ _ _ H9.out).mono ?_
    rintro e11 w11 ⟨rfl, hb⟩
    have B11 := Aside0.mk (law_chain B10.out hb.below)
    clear hb
    clear B10
    go_wp2_with fail
    refine (f64_Neg.calls _ _ _ H10.out).mono ?_
    rintro e12 w12 ⟨rfl, hb⟩
    have B12 := Aside0.mk (law_chain B11.out hb.below)
    clear hb
    clear B11
    go_wp2_with fail
    refine (f64_Neg.calls _ _ _ H1.out).mono ?_
    rintro e13 w13 ⟨rfl, hb⟩
    have B13 := Aside0.mk (law_chain B12.out hb.below)
    clear hb
    clear B12
    go_wp2_with fail
    refine (f64_Cmp.calls _ _ _ _ _ _ H11.out).mono ?_
    rintro e14 w14 ⟨rfl, hb⟩
    have B14 := Aside0.mk (law_chain B13.out hb.below)
    clear hb
    clear B13
    go_wp2_with fail
    refine (f64_Rank.calls _ _ _ _ _ H12.out).mono ?_
    rintro e15 w15 ⟨rfl, hb⟩
    have B15 := Aside0.mk (law_chain B14.out hb.below)
    clear hb
    clear B14
    go_wp2_with fail
    refine (f64_Neg.calls _ _ _ H1.out).mono ?_
    rintro e16 w16 ⟨rfl, hb⟩
    have B16 := Aside0.mk (law_chain B15.out hb.below)
    clear hb
    clear B15
    go_wp2_with fail
    refine (f64_Rank.calls _ _ _ _ _ H13.out).mono ?_
    rintro e17 w17 ⟨rfl, hb⟩
    have B17 := Aside0.mk (law_chain B16.out hb.below)
    clear hb
    clear B16
    have h14 := H14.out
    have q5 : (r == wrap64 (-s)) = true := beq_iff_eq.mpr h14.symm
    go_wp2_with fail
    go_ret
    exact ⟨by first | rfl | (simp [*] <;> rfl), B17.out⟩
  · have q3 : (e == 0) = false := beq_eq_false_iff_ne.mpr he
    have q4 : (e != 0) = true := bne_iff_ne.mpr he
    go_wp2_with fail
    refine (f64_Cmp.calls _ _ _ _ _ _ H9.out).mono ?_
    rintro e10 w10 ⟨rfl, hb⟩
    have B10 := Aside0.mk (law_chain B9.out hb.below)
    clear hb
    clear B9
    go_wp2_with fail
    refine (f64_Neg.calls _ _ _ H10.out).mono ?_
    rintro e11 w11 ⟨rfl, hb⟩
    have B11 := Aside0.mk (law_chain B10.out hb.below)
    clear hb
    clear B10
    go_wp2_with fail
    refine (f64_Neg.calls _ _ _ H1.out).mono ?_
    rintro e12 w12 ⟨rfl, hb⟩
    have B12 := Aside0.mk (law_chain B11.out hb.below)
    clear hb
    clear B11
    go_wp2_with fail
    refine (f64_Cmp.calls _ _ _ _ _ _ H11.out).mono ?_
    rintro e13 w13 ⟨rfl, hb⟩
    have B13 := Aside0.mk (law_chain B12.out hb.below)
    clear hb
    clear B12
    go_wp2_with fail
    refine (f64_Rank.calls _ _ _ _ _ H12.out).mono ?_
    rintro e14 w14 ⟨rfl, hb⟩
    have B14 := Aside0.mk (law_chain B13.out hb.below)
    clear hb
    clear B13
    go_wp2_with fail
    refine (f64_Neg.calls _ _ _ H1.out).mono ?_
    rintro e15 w15 ⟨rfl, hb⟩
    have B15 := Aside0.mk (law_chain B14.out hb.below)
    clear hb
    clear B14
    go_wp2_with fail
    refine (f64_Rank.calls _ _ _ _ _ H13.out).mono ?_
    rintro e16 w16 ⟨rfl, hb⟩
    have B16 := Aside0.mk (law_chain B15.out hb.below)
    clear hb
    clear B15
    have h14 := H14.out
    have q5 : (r == wrap64 (-s)) = true := beq_iff_eq.mpr h14.symm
    go_wp2_with fail
    go_ret
    exact ⟨by first | rfl | (simp [*] <;> rfl), B16.out⟩

def halfOf : Nat → Nat
  | 0 => 0
  | j + 1 => 2 ^ j
theorem halfOf_half (j : Nat) : ((halfOf (j + 1) : Nat) : Int) / 2 = ((halfOf j : Nat) : Int) := by
  cases j with
  | zero => simp [halfOf]
  | succ j => simp only [halfOf, Nat.pow_succ]; omega
theorem len_l0 (j : Nat) : ∀ (k x m : Nat), j < k → x < 2 ^ (2 ^ j) → j ≤ 6 → m + 2 ^ j ≤ 64 →
    ∃ L : Nat, wide_Len.l0 k (x : Int) (m : Int) ((halfOf j : Nat) : Int) = some (((m + L : Nat)) : Int) ∧ IsLen x L ∧ L ≤ 2 ^ j := by
  induction j with
  | zero =>
    intro k x m hk hx hj hm
    obtain ⟨k, rfl⟩ : ∃ m, k = m + 1 := ⟨k - 1, by omega⟩
    have hx2 : x < 2 := by simpa using hx
    refine ⟨x, ?_, ?_, by simp; omega⟩
    · simp only [wide_Len.l0]
      rw [show ((halfOf 0 : Nat) : Int) = 0 from rfl, if_neg (by omega)]
      simp only [Option.some.injEq]
      unfold wrap64
      have : m ≤ 63 := by simpa using hm
      omega
    · rcases Nat.lt_or_ge x 1 with h | h
      · obtain rfl : x = 0 := by omega
        exact IsLen.zero
      · obtain rfl : x = 1 := by omega
        exact ⟨by simp, fun _ => by simp⟩
  | succ j ih =>
    intro k x m hk hx hj hm
    obtain ⟨k, rfl⟩ : ∃ m, k = m + 1 := ⟨k - 1, by omega⟩
    have hp : 0 < 2 ^ j := Nat.two_pow_pos j
    have h32 : 2 ^ j ≤ 2 ^ 5 := Nat.pow_le_pow_right (by omega) (by omega)
    have hs : (2 : Nat) ^ (j + 1) = 2 ^ j + 2 ^ j := by rw [Nat.pow_succ]; omega
    rw [hs] at hm
    simp only [wide_Len.l0]
    rw [halfOf_half j, show halfOf (j + 1) = 2 ^ j from rfl]
    rw [if_pos (by omega), if_pos (by omega), shrN x (2 ^ j) (by omega)]
    obtain ⟨y, hy⟩ : ∃ y, x / 2 ^ (2 ^ j) = y := ⟨_, rfl⟩
    rw [hy]
    have hP : 0 < 2 ^ (2 ^ j) := Nat.two_pow_pos _
    by_cases h0 : y = 0
    · rw [if_pos (by omega)]
      obtain ⟨L, h1, h2, h3⟩ := ih k x m (by omega) (by rcases Nat.div_eq_zero_iff.1 (hy.trans h0) with h | h <;> omega) (by omega) (by omega)
      exact ⟨L, h1, h2, by rw [hs]; omega⟩
    · rw [if_neg (by omega), show wrap64 ((m : Int) + ((2 ^ j : Nat) : Int)) = ((m + 2 ^ j : Nat) : Int) from by unfold wrap64; omega]
      obtain ⟨L, h1, h2, h3⟩ := ih k y (m + 2 ^ j) (by omega) (by
        rw [← hy, Nat.div_lt_iff_lt_mul hP, ← Nat.pow_add, ← hs]; exact hx) (by omega) (by omega)
      exact ⟨L + 2 ^ j, by rw [h1]; congr 2; omega, IsLen.shift hy (by omega) h2, by rw [hs]; omega⟩
theorem len_spec (x k : Nat) (hx : x < 18446744073709551616) (hk : 6 < k) : ∃ L : Nat, wide_Len.f k (x : Int) = some (L : Int) ∧ IsLen x L ∧ L ≤ 64 := by
  obtain ⟨L, h1, h2, h3⟩ := len_l0 6 k x 0 hk (by simpa using hx) (by omega) (by simp)
  exact ⟨L, by rw [Nat.zero_add] at h1; exact h1, h2, by simpa using h3⟩

theorem zeros_zero (k : Nat) : wide_Zeros.f k 0 = some 64 := by
  unfold wide_Zeros.f
  rw [if_pos rfl]
theorem zeros_spec (x k : Nat) (h0 : 0 < x) (hx : x < 18446744073709551616) (hk : 6 < k) : ∃ z q : Nat, wide_Zeros.f k (x : Int) = some (z : Int) ∧ x = 2 ^ z * (2 * q + 1) ∧ z < 64 := by
  obtain ⟨z, q, e, hz, hb⟩ := neg_and x h0 hx
  have hp : 2 ^ z < 18446744073709551616 := by
    have := Nat.pow_lt_pow_right (a := 2) (by omega) hz
    simpa using this
  obtain ⟨L, h1, h2, h3⟩ := len_spec (2 ^ z) k hp hk
  have hL := h2.uniq (IsLen.pow z)
  subst hL
  refine ⟨z, q, ?_, e, hz⟩
  unfold wide_Zeros.f
  rw [if_neg (by omega), hb, h1]
  simp only [Option.bind_some, Option.some.injEq]
  unfold wrap64
  omega

/-- The class of a pattern. -/
def cls (b : Nat) : Int :=
  if b % 9223372036854775808 = 0 then 0 else if b % 9223372036854775808 < 4503599627370496 then 1 else if b % 9223372036854775808 < 9218868437227405312 then 2
  else if b % 9223372036854775808 = 9218868437227405312 then 3 else 4
theorem fields_spec (b : Nat) (hb : b < 18446744073709551616) : ∃ e f : Nat, f64_fields.f (b : Int) = some ((e : Int), (f : Int)) ∧ b % 9223372036854775808 = e * 4503599627370496 + f ∧ e < 2048 ∧ f < 4503599627370496 := by
  refine ⟨b / 4503599627370496 % 2048, b % 4503599627370496, ?_, by omega, by omega, by omega⟩
  unfold f64_fields.f
  rw [show (b : Int) / 4503599627370496 = ((b / 4503599627370496 : Nat) : Int) from by omega, and2047 _ (by omega), and52 b hb, show wrap64 ((b / 4503599627370496 % 2048 : Nat) : Int) = ((b / 4503599627370496 % 2048 : Nat) : Int) from by unfold wrap64; omega]
theorem class_spec (b k : Nat) (hb : b < 18446744073709551616) (hk : 0 < k) : f64_Class.f k (b : Int) = some (cls b) := by
  obtain ⟨k, rfl⟩ : ∃ m, k = m + 1 := ⟨k - 1, by omega⟩
  obtain ⟨e, f, h, he, h1, h2⟩ := fields_spec b hb
  unfold f64_Class.f cls
  rw [h]
  simp only [Option.bind_some, f64_Class.j0]
  by_cases c1 : e = 0
  · rw [if_pos (by omega)]
    by_cases c2 : f = 0
    · rw [if_pos (by rw [beq_iff_eq]; omega), if_pos (by omega)]
    · rw [if_neg (by rw [beq_iff_eq]; omega), if_pos (by omega), if_neg (by omega), if_pos (by omega)]
  · rw [if_neg (by omega), if_neg (by simp), if_neg (by omega)]
    by_cases c2 : e < 2047
    · rw [if_pos (by omega), if_neg (by omega), if_neg (by omega), if_pos (by omega)]
    · rw [if_neg (by omega)]
      by_cases c3 : f = 0
      · rw [if_pos (by omega), if_neg (by omega), if_neg (by omega), if_neg (by omega), if_pos (by omega)]
      · rw [if_neg (by omega), if_neg (by omega), if_neg (by omega), if_neg (by omega), if_neg (by omega)]
theorem cls_fin (b : Nat) : (cls b = 3 ∨ cls b = 4 ↔ 9218868437227405312 ≤ b % 9223372036854775808) ∧ 0 ≤ cls b ∧ cls b ≤ 4 ∧ (3 ≤ cls b ↔ 9218868437227405312 ≤ b % 9223372036854775808) := by
  unfold cls
  repeat' split
  all_goals omega
def mantN (b : Nat) : Nat := if b % 9223372036854775808 < 4503599627370496 then b % 9223372036854775808 else 4503599627370496 + b % 4503599627370496
def expN (b : Nat) : Int := if b % 9223372036854775808 < 4503599627370496 then -1074 else ((b % 9223372036854775808 / 4503599627370496 : Nat) : Int) - 1075
/-- Sign, mantissa, exponent. -/
theorem split_spec (b k : Nat) (hb : b < 18446744073709551616) (hk : 0 < k) (h : b % 9223372036854775808 < 9218868437227405312) :
    f64_Split.f k (b : Int) = some (decide (9223372036854775808 ≤ b), (mantN b : Int), expN b, 0) := by
  obtain ⟨e, f, h0, he, h1, h2⟩ := fields_spec b hb
  have hs : (bits .and .u64 (b : Int) 9223372036854775808 != 0) = decide (9223372036854775808 ≤ b) := by
    rw [and63 b hb, Bool.eq_iff_iff, bne_iff_ne, decide_eq_true_iff]; omega
  unfold f64_Split.f mantN expN
  rw [h0, class_spec b k hb hk]
  simp only [Option.bind_some, hs]
  have hc : cls b = if b % 9223372036854775808 = 0 then 0 else if b % 9223372036854775808 < 4503599627370496 then 1 else 2 := by
    unfold cls
    repeat' split
    all_goals omega
  rw [hc]
  by_cases c1 : b % 9223372036854775808 = 0
  · rw [if_pos c1, if_pos rfl, if_pos (by omega), if_pos (by omega), show b % 9223372036854775808 = f from by omega]
  · rw [if_neg c1]
    by_cases c2 : b % 9223372036854775808 < 4503599627370496
    · rw [if_pos c2, if_neg (by omega), if_pos rfl, if_pos c2, if_pos c2, show b % 9223372036854775808 = f from by omega]
    · rw [if_neg c2, if_neg (by omega), if_neg (by omega), if_pos rfl, if_neg c2, if_neg c2, or52 f h2, show wrap64 ((e : Int) - 1075) = (e : Int) - 1075 from by unfold wrap64; omega,
        show b % 4503599627370496 = f from by omega, show b % 9223372036854775808 / 4503599627370496 = e from by omega]
theorem split_no (b k : Nat) (hb : b < 18446744073709551616) (hk : 0 < k) (h : 9218868437227405312 ≤ b % 9223372036854775808) : f64_Split.f k (b : Int) = some (false, 0, 0, 60) := by
  obtain ⟨e, f, h0, he, h1, h2⟩ := fields_spec b hb
  have hc := (cls_fin b).2.2.2.2 h
  unfold f64_Split.f
  rw [h0, class_spec b k hb hk]
  simp only [Option.bind_some]
  rw [if_neg (by omega), if_neg (by omega), if_neg (by omega)]

theorem finite_spec (b k : Nat) (hb : b < 18446744073709551616) (hk : 0 < k) : f64_finite.f k (b : Int) = some (decide (b % 9223372036854775808 < 9218868437227405312)) := by
  unfold f64_finite.f
  rw [class_spec b k hb hk]
  simp only [Option.bind_some]
  have hc := (cls_fin b).1
  by_cases h : 9218868437227405312 ≤ b % 9223372036854775808
  · rw [show decide (b % 9223372036854775808 < 9218868437227405312) = false from decide_eq_false (by omega)]
    rcases hc.2 h with h' | h' <;> rw [h'] <;> rfl
  · have hn : ¬ (cls b = 3 ∨ cls b = 4) := fun x => h (hc.1 x)
    rw [if_neg (fun x => hn (.inl x)), if_neg (fun x => hn (.inr x)), show decide (b % 9223372036854775808 < 9218868437227405312) = true from decide_eq_true (by omega)]

/-- The next pattern. -/
def nextN (b : Nat) : Nat := if b = 9223372036854775808 then 1 else if b < 9223372036854775808 then b + 1 else b - 1
theorem next_spec (b k : Nat) (hb : b < 18446744073709551616) (hk : 0 < k) (h : b % 9223372036854775808 < 9218868437227405312) (h2 : b ≠ 9218868437227405311) : f64_Next.f k (b : Int) = some ((nextN b : Int), 0) := by
  unfold f64_Next.f nextN
  rw [finite_spec b k hb hk, show decide (b % 9223372036854775808 < 9218868437227405312) = true from decide_eq_true h]
  simp only [Option.bind_some, if_true]
  rw [if_neg (by omega), and63 b hb]
  by_cases c1 : b = 9223372036854775808
  · rw [if_pos (by omega), if_pos c1]; rfl
  · rw [if_neg (by omega), if_neg c1]
    by_cases c2 : b < 9223372036854775808
    · rw [if_pos (by omega), if_pos c2, show IntKind.u64.wrap ((b : Int) + 1) = ((b + 1 : Nat) : Int) from by rw [wrapI]; omega]
    · rw [if_neg (by omega), if_neg c2, show IntKind.u64.wrap ((b : Int) - 1) = ((b - 1 : Nat) : Int) from by rw [wrapI]; omega]
theorem next_last (b k : Nat) (hb : b = 9218868437227405311) (hk : 0 < k) : f64_Next.f k (b : Int) = some (0, 62) := by
  unfold f64_Next.f
  rw [finite_spec b k (by omega) hk, show decide (b % 9223372036854775808 < 9218868437227405312) = true from decide_eq_true (by omega)]
  simp only [Option.bind_some, if_true]
  rw [if_pos (by omega)]
theorem next_no (b k : Nat) (hb : b < 18446744073709551616) (hk : 0 < k) (h : 9218868437227405312 ≤ b % 9223372036854775808) : f64_Next.f k (b : Int) = some (0, 60) := by
  unfold f64_Next.f
  rw [finite_spec b k hb hk, show decide (b % 9223372036854775808 < 9218868437227405312) = false from decide_eq_false (by omega)]
  rfl

/-- What Join answers of an odd part o of L bits at the exponent X, the sign s. -/
structure Joined (o L : Nat) (X : Int) (up : Nat) (m : Nat) (x : Int) : Prop where
  len : IsLen o L
  l0 : 0 < L
  l1 : L ≤ 53
  hi : X + L ≤ 1024
  lo : -1074 ≤ X
  u0 : up ≤ 53 - L
  u1 : (up : Int) ≤ X + 1074
  u2 : up = 53 - L ∨ (up : Int) = X + 1074
  em : m = o * 2 ^ up
  ex : x = X - up
theorem Joined.lt {o L up m : Nat} {X x : Int} (h : Joined o L X up m x) : m < 9007199254740992 := by
  have h1 := Nat.mul_lt_mul_of_pos_right h.len.1 (Nat.two_pow_pos up)
  rw [← Nat.pow_add, ← h.em] at h1
  have h2 : 2 ^ (L + up) ≤ 2 ^ 53 := Nat.pow_le_pow_right (by omega) (by have := h.u0; have := h.l1; omega)
  have h3 : m < 2 ^ 53 := Nat.lt_of_lt_of_le h1 h2
  exact h3
theorem Joined.full {o L up m : Nat} {X x : Int} (h : Joined o L X up m x) (hu : up = 53 - L) : 4503599627370496 ≤ m := by
  have h1 := Nat.mul_le_mul_right (2 ^ up) (h.len.2 h.l0)
  rw [← Nat.pow_add, ← h.em] at h1
  have e : L - 1 + up = 52 := by have := h.l1; have := h.l0; omega
  rw [e] at h1
  exact h1
theorem Joined.ge {o L up m : Nat} {X x : Int} (h : Joined o L X up m x) (hm : 4503599627370496 ≤ m) : -1074 ≤ x ∧ x ≤ 971 := by
  have h1 := Nat.mul_lt_mul_of_pos_right h.len.1 (Nat.two_pow_pos up)
  rw [← Nat.pow_add, ← h.em] at h1
  have h2 : 52 < L + up := by
    rcases Nat.lt_or_ge 52 (L + up) with h' | h'
    · exact h'
    · exfalso
      have := Nat.pow_le_pow_right (n := 2) (by omega) h'
      have h3 : m < 2 ^ 52 := Nat.lt_of_lt_of_le h1 this
      exact absurd h3 (Nat.not_lt.2 hm)
  have := h.u0
  have := h.u1
  have := h.hi
  have := h.ex
  have := h.l1
  omega
theorem Joined.half {o L up m : Nat} {X x : Int} (h : Joined o L X up m x) (hu : 0 < up) : o * 2 ^ (up - 1) < 4503599627370496 := by
  have h1 := Nat.mul_lt_mul_of_pos_right h.len.1 (Nat.two_pow_pos (up - 1))
  rw [← Nat.pow_add] at h1
  have h2 : 2 ^ (L + (up - 1)) ≤ 2 ^ 52 := Nat.pow_le_pow_right (by omega) (by have := h.u0; have := h.l1; omega)
  have h3 : o * 2 ^ (up - 1) < 2 ^ 52 := Nat.lt_of_lt_of_le h1 h2
  exact h3
/-- The pattern of a mantissa and an exponent that stand as a pattern has them. -/
def pat (s m : Nat) (x : Int) : Nat := if m < 4503599627370496 then s + m else s + (x + 1075).toNat * 4503599627370496 + (m - 4503599627370496)
theorem joined_of (o L : Nat) (X : Int) (h : IsLen o L) (h0 : 0 < L) (h1 : L ≤ 53) (h2 : X + L ≤ 1024) (h3 : -1074 ≤ X) : ∃ up m x, Joined o L X up m x := by
  rcases Int.le_total ((53 - L : Nat) : Int) (X + 1074) with h' | h'
  · exact ⟨53 - L, _, _, ⟨h, h0, h1, h2, h3, by omega, by omega, .inl rfl, rfl, rfl⟩⟩
  · exact ⟨(X + 1074).toNat, _, _, ⟨h, h0, h1, h2, h3, by omega, by omega, .inr (by omega), rfl, rfl⟩⟩
theorem join_j2 (s o L up m k : Nat) (X x : Int) (hs : s = 0 ∨ s = 9223372036854775808) (h : Joined o L X up m x) : f64_Join.j2 (k + 1) (o : Int) X (s : Int) (L : Int) false = some ((pat s m x : Int), 0) := by
  have hl0 := h.l0; have hl1 := h.l1; have hhi := h.hi; have hlo := h.lo; have hu0 := h.u0; have hu1 := h.u1; have hex := h.ex
  have hlt := h.lt
  have hmn : mn (wrap64 (53 - (L : Int))) (wrap64 (X + 1074)) = (up : Int) := by
    have e1 : wrap64 (53 - (L : Int)) = 53 - (L : Int) := by unfold wrap64; omega
    have e2 : wrap64 (X + 1074) = X + 1074 := by unfold wrap64; omega
    rw [e1, e2]
    unfold mn
    rcases h.u2 with h' | h' <;> split <;> omega
  have hshl : shl .u64 (o : Int) (up : Int) = (m : Int) := by
    rw [shlN o up (by omega), ← h.em, Nat.mod_eq_of_lt (by omega)]
  simp only [f64_Join.j2]
  rw [hmn, hshl, if_neg (by simp), if_pos (by omega)]
  unfold pat
  by_cases c : m < 4503599627370496
  · rw [if_pos (by omega), if_pos c, or_sign s m hs (by omega)]
  · have hge := h.ge (by omega)
    rw [if_neg (by omega), if_neg c]
    have e3 : wrap64 (wrap64 (X - (up : Int)) + 1075) = ((x + 1075).toNat : Int) := by
      have e1 : wrap64 (X - (up : Int)) = X - (up : Int) := by unfold wrap64; omega
      rw [e1]
      unfold wrap64; omega
    rw [e3]
    obtain ⟨E, hE⟩ : ∃ E, (x + 1075).toNat = E := ⟨_, rfl⟩
    rw [hE]
    have hE1 : E ≤ 2046 := by omega
    have e4 : IntKind.u64.wrap (IntKind.u64.wrap (E : Int) * 4503599627370496) = ((E * 4503599627370496 : Nat) : Int) := by rw [wrapI, wrapI]; omega
    rw [e4, or_sign s (E * 4503599627370496) hs (by omega), and52 m (by omega)]
    have e5 : m % 4503599627370496 = m - 4503599627370496 := by omega
    rw [e5]
    have e6 : ∃ S2, s = S2 * 4503599627370496 ∧ S2 ≤ 2048 := by
      rcases hs with h' | h'
      · exact ⟨0, by omega, by omega⟩
      · exact ⟨2048, by omega, by omega⟩
    obtain ⟨S2, hS2, hS3⟩ := e6
    have e7 := orN_add' (m - 4503599627370496) (S2 + E) 52 (show m - 4503599627370496 < 4503599627370496 by omega) (by omega)
    have e8 : ((s + E * 4503599627370496 : Nat) : Int) = (((S2 + E) * 2 ^ 52 : Nat) : Int) := congrArg (fun n : Nat => (n : Int)) (by omega)
    rw [e8, e7]
    refine congrArg some (Prod.ext ?_ rfl)
    exact congrArg (fun n : Nat => (n : Int)) (by omega)
/-- Join of a mantissa that is not 0. -/
theorem join_spec (neg : Bool) (M o z L : Nat) (x : Int) (k : Nat) (hM : M < 18446744073709551616) (e : M = 2 ^ z * o) (ho : o % 2 = 1) (hL : IsLen o L) (hz : z < 64) (hx0 : -9223372036854775808 ≤ x) (hx1 : x ≤ 9223372036854775807) (hk : 12 < k) :
    ((53 < L ∨ 1024 < x + z + L ∨ x + z < -1074) → f64_Join.f k neg (M : Int) x = some (0, 61)) ∧
    (∀ up m x', Joined o L (x + z) up m x' → f64_Join.f k neg (M : Int) x = some ((pat (if neg then 9223372036854775808 else 0) m x' : Int), 0)) := by
  obtain ⟨k, rfl⟩ : ∃ m, k = m + 1 + 1 + 1 := ⟨k - 3, by omega⟩
  have hp := Nat.two_pow_pos z
  have hM0 : 0 < M := by
    rcases Nat.eq_zero_or_pos M with h | h
    · rw [h] at e
      rcases Nat.mul_eq_zero.1 e.symm with h' | h' <;> omega
    · exact h
  have hL0 : 0 < L := by
    rcases Nat.eq_zero_or_pos L with h' | h'
    · subst h'; have := hL.1; simp at this; omega
    · exact h'
  have hod : o ≤ M := by rw [e]; exact Nat.le_mul_of_pos_left _ hp
  obtain ⟨s, hs0, hs⟩ : ∃ s : Nat, (if neg then 9223372036854775808 else 0 : Nat) = s ∧ (s = 0 ∨ s = 9223372036854775808) := by
    cases neg
    · exact ⟨0, rfl, .inl rfl⟩
    · exact ⟨9223372036854775808, rfl, .inr rfl⟩
  have hf : f64_Join.f (k + 1 + 1 + 1) neg (M : Int) x = f64_Join.j0 (k + 1 + 1 + 1) (M : Int) x (s : Int) := by
    unfold f64_Join.f
    cases neg
    · rw [← hs0]; rfl
    · rw [← hs0]; rfl
  have hj : f64_Join.j0 (k + 1 + 1 + 1) (M : Int) x (s : Int) = if x < -1137 ∨ 1023 < x then some (0, 61) else f64_Join.j1 (k + 1 + 1) (M : Int) x (s : Int) false := by
    simp only [f64_Join.j0]
    rw [if_neg (by omega)]
    by_cases c1 : x < -1137
    · rw [if_pos c1, if_pos (.inl c1)]; rfl
    · rw [if_neg c1]
      by_cases c2 : 1023 < x
      · rw [if_pos (.inr c2), show decide (x > 1023) = true from decide_eq_true c2]; rfl
      · rw [if_neg (by omega), show decide (x > 1023) = false from decide_eq_false c2]
  rw [hf, hj, hs0]
  clear hf hj
  by_cases cx : x < -1137 ∨ 1023 < x
  · rw [if_pos cx]
    refine ⟨fun _ => rfl, fun up m x' h => ?_⟩
    exfalso
    have := h.hi
    have := h.lo
    omega
  · rw [if_neg cx]
    have hj1 : f64_Join.j1 (k + 1 + 1) (M : Int) x (s : Int) false = f64_Join.j2 (k + 1) (o : Int) (x + z) (s : Int) (L : Int) (decide (53 < L ∨ 1024 < x + z + L ∨ x + z < -1074)) := by
      obtain ⟨z', q', hz1, hz2, hz3⟩ := zeros_spec M (k + 1) hM0 hM (by omega)
      have hzz : z' = z ∧ 2 * q' + 1 = o := by
        rcases Nat.lt_trichotomy z' z with h | h | h
        · exfalso
          have e2 : 2 ^ z = 2 ^ z' * (2 * 2 ^ (z - z' - 1)) := by rw [Nat.mul_left_comm, ← Nat.pow_add, ← Nat.pow_succ']; congr 1; omega
          rw [e, e2, Nat.mul_assoc] at hz2
          have := Nat.eq_of_mul_eq_mul_left (Nat.two_pow_pos z') hz2
          rw [Nat.mul_assoc] at this
          omega
        · subst h
          rw [e] at hz2
          exact ⟨rfl, (Nat.eq_of_mul_eq_mul_left hp hz2).symm⟩
        · exfalso
          have e2 : 2 ^ z' = 2 ^ z * (2 * 2 ^ (z' - z - 1)) := by rw [Nat.mul_left_comm, ← Nat.pow_add, ← Nat.pow_succ']; congr 1; omega
          rw [e, e2, Nat.mul_assoc] at hz2
          have := Nat.eq_of_mul_eq_mul_left hp hz2
          rw [Nat.mul_assoc] at this
          omega
      obtain ⟨rfl, ho2⟩ := hzz
      have hsh : shr .u64 (M : Int) (z' : Int) = (o : Int) := by rw [shrN M z' (by omega), e, Nat.mul_div_cancel_left _ hp]
      obtain ⟨L', hl1, hl2, hl3⟩ := len_spec o (k + 1) (by omega) (by omega)
      obtain rfl := hl2.uniq hL
      simp only [f64_Join.j1]
      rw [if_neg (by simp), hz1, obind, if_pos (by omega), hsh, hl1, obind]
      rw [show wrap64 (x + (z' : Int)) = x + (z' : Int) from by unfold wrap64; omega, show wrap64 (x + (z' : Int) + (L' : Int)) = x + (z' : Int) + (L' : Int) from by unfold wrap64; omega]
      by_cases c1 : 53 < L'
      · rw [if_pos (by omega), decide_eq_true (.inl c1)]
      · rw [if_neg (by omega)]
        by_cases c2 : 1024 < x + z' + L'
        · rw [if_pos c2, decide_eq_true (.inr (.inl c2))]
        · rw [if_neg c2]
          congr 1
          rw [decide_eq_decide]; omega
    rw [hj1]
    refine ⟨fun h => ?_, fun up m x' h => ?_⟩
    · rw [decide_eq_true h]; rfl
    · rw [decide_eq_false (by have := h.l1; have := h.hi; have := h.lo; omega)]
      exact join_j2 s o L up m k (x + z) x' hs h
theorem join_zero (neg : Bool) (x : Int) (k : Nat) (hk : 0 < k) : f64_Join.f k neg 0 x = some ((((if neg then 9223372036854775808 else 0 : Nat)) : Int), 0) := by
  obtain ⟨k, rfl⟩ : ∃ m, k = m + 1 := ⟨k - 1, by omega⟩
  unfold f64_Join.f
  cases neg
  · simp only [f64_Join.j0]; rfl
  · simp only [f64_Join.j0]; rfl

theorem alive_spec (k : Nat) (hk : 12 < k) : plumblaw06_alive.f k = some true := by
  obtain ⟨b, hb⟩ : ∃ b : Nat, b = 4607182418800017408 := ⟨_, rfl⟩
  have h1 := split_spec b k (by omega) (by omega) (by omega)
  have h3 := next_spec b k (by omega) (by omega) (by omega) (by omega)
  have hn : nextN b = 4607182418800017409 := by unfold nextN; rw [if_neg (by omega), if_pos (by omega)]; omega
  have hl : IsLen 3 2 := ⟨by omega, fun _ => by omega⟩
  have h4 := (join_spec true 3 3 0 2 (-1) k (by omega) (by omega) (by omega) hl (by omega) (by omega) (by omega) hk).2 51 6755399441055744 (-52)
    ⟨hl, by omega, by omega, by omega, by omega, by omega, by omega, .inl rfl, by omega, by omega⟩
  obtain ⟨c, hc⟩ : ∃ c, pat (if true = true then 9223372036854775808 else 0) 6755399441055744 (-52) = c := ⟨_, rfl⟩
  have hc2 : c = 13832806255468478464 := by
    rw [← hc]; unfold pat
    rw [if_pos rfl, if_neg (by omega), show ((-52 : Int) + 1075).toNat = 1023 from by omega]
  rw [hc] at h4
  rw [hn] at h3
  have e1 : decide (9223372036854775808 ≤ b) = false := decide_eq_false (by omega)
  have e2 : (mantN b : Int) = 4503599627370496 := by unfold mantN; rw [if_neg (by omega)]; omega
  have e3 : expN b = -52 := by unfold expN; rw [if_neg (by omega)]; omega
  rw [e1, e2, e3] at h1
  have eb : (b : Int) = 4607182418800017408 := by omega
  rw [eb] at h1 h3
  have ec : (c : Int) = 13832806255468478464 := by omega
  have h5 : f64_Join.f k true 3 (-1) = some (13832806255468478464, 0) := by rw [← ec]; exact h4
  have h6 : f64_Next.f k 4607182418800017408 = some (4607182418800017409, 0) := h3
  unfold plumblaw06_alive.f
  rw [h1, obind, h6, obind, h5, obind]
  rw [if_neg (by simp), if_pos rfl, if_pos rfl, if_pos rfl, if_pos rfl, if_pos rfl, if_pos rfl]
  rfl

/-- A pattern's place in the order of all. -/
def rnk (b : Nat) : Int := if b < 9223372036854775808 then (b : Int) else 9223372036854775808 - (b : Int)
theorem rank_spec (b k : Nat) (hb : b < 18446744073709551616) (hk : 0 < k) (h : b % 9223372036854775808 < 9218868437227405312) : f64_Rank.f k (b : Int) = some (rnk b, 0) := by
  unfold f64_Rank.f rnk
  rw [finite_spec b k hb hk, show decide (b % 9223372036854775808 < 9218868437227405312) = true from decide_eq_true h]
  simp only [Option.bind_some, if_true]
  rw [and63 b hb, andNot63 b hb, show wrap64 ((b % 9223372036854775808 : Nat) : Int) = ((b % 9223372036854775808 : Nat) : Int) from by unfold wrap64; omega]
  by_cases c : b < 9223372036854775808
  · rw [if_pos (by omega), if_pos c, Nat.mod_eq_of_lt c]
  · rw [if_neg (by omega), if_neg c, show wrap64 (-((b % 9223372036854775808 : Nat) : Int)) = 9223372036854775808 - (b : Int) from by unfold wrap64; omega]
theorem rank_no (b k : Nat) (hb : b < 18446744073709551616) (hk : 0 < k) (h : 9218868437227405312 ≤ b % 9223372036854775808) : f64_Rank.f k (b : Int) = some (0, 60) := by
  unfold f64_Rank.f
  rw [finite_spec b k hb hk, show decide (b % 9223372036854775808 < 9218868437227405312) = false from decide_eq_false (by omega)]
  rfl

/-- The order of two ranks. -/
def ord (r s : Int) : Int := if r < s then -1 else if r > s then 1 else 0
theorem cmp_spec (a b k : Nat) (ha : a < 18446744073709551616) (hb : b < 18446744073709551616) (hk : 1 < k) (h1 : a % 9223372036854775808 < 9218868437227405312) (h2 : b % 9223372036854775808 < 9218868437227405312) :
    f64_Cmp.f k (a : Int) (b : Int) = some (ord (rnk a) (rnk b), 0) := by
  obtain ⟨k, rfl⟩ : ∃ m, k = m + 1 := ⟨k - 1, by omega⟩
  unfold f64_Cmp.f ord
  rw [rank_spec a (k + 1) ha (by omega) h1, rank_spec b (k + 1) hb (by omega) h2]
  simp only [Option.bind_some, if_true, f64_Cmp.j0, bne_self_eq_false, Bool.false_eq_true, if_false]
  repeat' split
  all_goals rfl
theorem cmp_no (a b k : Nat) (ha : a < 18446744073709551616) (hb : b < 18446744073709551616) (hk : 1 < k) (h : 9218868437227405312 ≤ a % 9223372036854775808 ∨ 9218868437227405312 ≤ b % 9223372036854775808) :
    f64_Cmp.f k (a : Int) (b : Int) = some (0, 60) := by
  obtain ⟨k, rfl⟩ : ∃ m, k = m + 1 := ⟨k - 1, by omega⟩
  unfold f64_Cmp.f
  rcases Nat.lt_or_ge (a % 9223372036854775808) 9218868437227405312 with h1 | h1
  · rw [rank_spec a (k + 1) ha (by omega) h1, rank_no b (k + 1) hb (by omega) (by omega)]
    rfl
  · rw [rank_no a (k + 1) ha (by omega) h1]
    rcases Nat.lt_or_ge (b % 9223372036854775808) 9218868437227405312 with h2 | h2
    · rw [rank_spec b (k + 1) hb (by omega) h2]; rfl
    · rw [rank_no b (k + 1) hb (by omega) h2]; rfl

/-- The pattern with the other sign. -/
def negN (b : Nat) : Nat := if b < 9223372036854775808 then b + 9223372036854775808 else b - 9223372036854775808
theorem negN_lt (b : Nat) (hb : b < 18446744073709551616) : negN b < 18446744073709551616 := by unfold negN; split <;> omega
theorem negN_mod (b : Nat) (hb : b < 18446744073709551616) : negN b % 9223372036854775808 = b % 9223372036854775808 := by unfold negN; split <;> omega
theorem negN_negN (b : Nat) (hb : b < 18446744073709551616) : negN (negN b) = b := by
  unfold negN
  repeat' split
  all_goals omega
theorem neg_spec (b : Nat) (hb : b < 18446744073709551616) : f64_Neg.f (b : Int) = some (negN b : Int) := by
  unfold f64_Neg.f negN
  rw [xor63 b hb]
  simp only [Option.some.injEq]
  split <;> omega

theorem prev_of (b c d k : Nat) (hb : b < 18446744073709551616) (hc : negN b = c) (hd : d < 18446744073709551616) (h : f64_Next.f k (c : Int) = some ((d : Int), 0)) : f64_Prev.f k (b : Int) = some ((negN d : Int), 0) := by
  unfold f64_Prev.f
  rw [neg_spec b hb, hc]
  rw [obind]
  rw [h]
  rw [obind, if_pos rfl]
  rw [neg_spec d hd]
  rw [obind]
theorem prev_err (b c k : Nat) (e : Int) (hb : b < 18446744073709551616) (hc : negN b = c) (he : ¬ e = 0) (h : f64_Next.f k (c : Int) = some (0, e)) : f64_Prev.f k (b : Int) = some (0, e) := by
  unfold f64_Prev.f
  rw [neg_spec b hb, hc]
  rw [obind]
  rw [h]
  rw [obind]
  rw [if_neg he]
theorem nextN_lt (c : Nat) (hc : c < 18446744073709551616) (_h : c ≠ 18446744073709551615) : nextN c < 18446744073709551616 := by
  unfold nextN
  repeat' split
  all_goals omega
theorem neg_facts (b c : Nat) (hb : b < 18446744073709551616) (hc : negN b = c) : c < 18446744073709551616 ∧ c % 9223372036854775808 = b % 9223372036854775808 ∧ (c = 9218868437227405311 ↔ b = 18442240474082181119) := by
  subst hc
  unfold negN
  split <;> omega
theorem prev_spec (b k : Nat) (hb : b < 18446744073709551616) (hk : 0 < k) (h : b % 9223372036854775808 < 9218868437227405312) (h2 : b ≠ 18442240474082181119) : f64_Prev.f k (b : Int) = some ((negN (nextN (negN b)) : Int), 0) := by
  obtain ⟨c, hc⟩ : ∃ c, negN b = c := ⟨_, rfl⟩
  obtain ⟨h3, h4, h5⟩ := neg_facts b c hb hc
  rw [hc]
  exact prev_of b c (nextN c) k hb hc (nextN_lt c h3 (by omega)) (next_spec c k h3 hk (by omega) (fun e => h2 (h5.1 e)))
theorem prev_last (b k : Nat) (hb : b = 18442240474082181119) (hk : 0 < k) : f64_Prev.f k (b : Int) = some (0, 62) := by
  obtain ⟨c, hc⟩ : ∃ c, negN b = c := ⟨_, rfl⟩
  obtain ⟨h3, h4, h5⟩ := neg_facts b c (by omega) hc
  exact prev_err b c k 62 (by omega) hc (by omega) (next_last c k (h5.2 hb) hk)
theorem prev_no (b k : Nat) (hb : b < 18446744073709551616) (hk : 0 < k) (h : 9218868437227405312 ≤ b % 9223372036854775808) : f64_Prev.f k (b : Int) = some (0, 60) := by
  obtain ⟨c, hc⟩ : ∃ c, negN b = c := ⟨_, rfl⟩
  obtain ⟨h3, h4, h5⟩ := neg_facts b c hb hc
  exact prev_err b c k 60 hb hc (by omega) (next_no c k h3 hk (by omega))

theorem cls_neg (b : Nat) (hb : b < 18446744073709551616) : cls (negN b) = cls b := by
  unfold cls
  rw [negN_mod b hb]
theorem rnk_neg' (b : Nat) (hb : b < 18446744073709551616) : rnk (negN b) = - rnk b := by
  obtain ⟨n, hn⟩ : ∃ n, negN b = n := ⟨_, rfl⟩
  rw [hn]
  unfold negN at hn
  unfold rnk
  split at hn
  · rw [if_neg (by omega), if_pos (by omega)]; omega
  · rw [if_pos (by omega), if_neg (by omega)]; omega
theorem ord_neg (r s : Int) : ord (-s) (-r) = ord r s := by
  unfold ord
  repeat' split
  all_goals omega
theorem turns_next (A k : Nat) (hA : A < 18446744073709551616) (hk : 0 < k) : ∃ n e p : Int, f64_Next.f k (A : Int) = some (n, e) ∧ f64_Prev.f k (negN A : Int) = some (p, e) ∧ (e = 0 → f64_Neg.f n = some p) := by
  have h1 := negN_lt A hA
  have h2 := negN_negN A hA
  rcases Nat.lt_or_ge (A % 9223372036854775808) 9218868437227405312 with h | h
  · by_cases hl : A = 9218868437227405311
    · have := next_last A k hl hk
      exact ⟨_, _, _, this, prev_err (negN A) A k 62 h1 h2 (by omega) this, fun h => absurd h (by omega)⟩
    · have := next_spec A k hA hk h hl
      have hn := nextN_lt A hA (by omega)
      exact ⟨_, _, _, this, prev_of (negN A) A (nextN A) k h1 h2 hn this, fun _ => neg_spec _ hn⟩
  · have := next_no A k hA hk h
    exact ⟨_, _, _, this, prev_err (negN A) A k 60 h1 h2 (by omega) this, fun h => absurd h (by omega)⟩
theorem turns_cmp (A B k : Nat) (hA : A < 18446744073709551616) (hB : B < 18446744073709551616) (hk : 1 < k) : ∃ c g : Int, f64_Cmp.f k (A : Int) (B : Int) = some (c, g) ∧ f64_Cmp.f k (negN B : Int) (negN A : Int) = some (c, g) := by
  have h1 := negN_lt A hA
  have h2 := negN_lt B hB
  have h3 := negN_mod A hA
  have h4 := negN_mod B hB
  by_cases h : 9218868437227405312 ≤ A % 9223372036854775808 ∨ 9218868437227405312 ≤ B % 9223372036854775808
  · exact ⟨_, _, cmp_no A B k hA hB hk h, cmp_no (negN B) (negN A) k h2 h1 hk (by rw [h3, h4]; exact h.symm)⟩
  · refine ⟨_, _, cmp_spec A B k hA hB hk (by omega) (by omega), ?_⟩
    rw [cmp_spec (negN B) (negN A) k h2 h1 hk (by omega) (by omega), rnk_neg' A hA, rnk_neg' B hB, ord_neg]
theorem turns_rank (A k : Nat) (hA : A < 18446744073709551616) (hk : 0 < k) : ∃ r i s : Int, f64_Rank.f k (A : Int) = some (r, i) ∧ f64_Rank.f k (negN A : Int) = some (s, i) ∧ wrap64 (-s) = r := by
  have h1 := negN_lt A hA
  have h3 := negN_mod A hA
  rcases Nat.lt_or_ge (A % 9223372036854775808) 9218868437227405312 with h | h
  · refine ⟨_, _, _, rank_spec A k hA hk h, rank_spec (negN A) k h1 hk (by omega), ?_⟩
    rw [rnk_neg' A hA]
    have : -9218868437227405311 ≤ rnk A ∧ rnk A ≤ 9218868437227405311 := by unfold rnk; split <;> omega
    unfold wrap64; omega
  · exact ⟨_, _, _, rank_no A k hA hk h, rank_no (negN A) k h1 hk (by omega), by unfold wrap64; omega⟩
theorem F64Turns (a b : Int) (ha : (Lit.int .u64 a).wf = true) (hb : (Lit.int .u64 b).wf = true) (w : World) :
    Calls Try.prog 7 #[.int .u64 a, .int .u64 b] w fun e w' => e = .returned (.bool true) ∧ Below w.heap.size w w' := by
  obtain ⟨A, rfl, hA⟩ := u64_nat ha
  obtain ⟨B, rfl, hB⟩ := u64_nat hb
  obtain ⟨k, hk⟩ : ∃ k : Nat, 200 < k := ⟨201, by omega⟩
  obtain ⟨n, e, p, h0, h2, h8⟩ := turns_next A k hA (by omega)
  obtain ⟨c, g, h9, h11⟩ := turns_cmp A B k hA hB (by omega)
  obtain ⟨r, i, s, h12, h13, h14⟩ := turns_rank A k hA (by omega)
  have h4 := neg_spec (negN A) (negN_lt A hA)
  rw [negN_negN A hA] at h4
  have h6 := class_spec (negN A) k (negN_lt A hA) (by omega)
  rw [cls_neg A hA] at h6
  exact law_walk A B n e p (negN A) (negN B) (cls A) c g r i s k w h0 (neg_spec A hA) h2 (alive_spec k (by omega)) h4 (by unfold negN; split <;> omega) h6 (class_spec A k hA (by omega)) h8 h9 (neg_spec B hB) h11 h12 h13 h14

end Go.Proofs.Ytpnndhbeahajkaa.Pure
