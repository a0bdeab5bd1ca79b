/- The law plumblaw06.F64Exact, told as a function over whole numbers and lists, answers true at every bool, word of 64 bits and int. No condition. -/
import Derived.Test.YtpnndhbeahajkaaPF64Exactx4
import Derived.Test.YtpnndhbeahajkaaMath
import Derived.Test.YtpnndhbeahajkaaMathBits
import Derived.Test.YtpnndhbeahajkaaMathF64
namespace Go.Proofs.Ytpnndhbeahajkaa.Pure
open Go.RowKit Go.Proofs.Ytpnndhbeahajkaa.PF64Exact Go.Proofs.YtpnndhbeahajkaaW.PrintWords Go.Proofs.YtpnndhbeahajkaaW.PrintLast Go.Proofs.YtpnndhbeahajkaaW.PrintMore Go.Proofs.Ytpnndhbeahajkaa.Math

def halfOf : Nat → Nat
  | 0 => 0
  | j + 1 => 2 ^ j
theorem halfOf_half (j : Nat) : ((halfOf (j + 1) : Nat) : Int) / 2 = ((halfOf j : Nat) : Int) := by
  cases j with
  | zero => simp [halfOf]
  | succ j => simp only [halfOf, Nat.pow_succ]; omega
theorem len_l0 (j : Nat) : ∀ (k x m : Nat), j < k → x < 2 ^ (2 ^ j) → j ≤ 6 → m + 2 ^ j ≤ 64 →
    ∃ L : Nat, wide_Len.l0 k (x : Int) (m : Int) ((halfOf j : Nat) : Int) = some (((m + L : Nat)) : Int) ∧ IsLen x L ∧ L ≤ 2 ^ j := by
  induction j with
  | zero =>
    intro k x m hk hx hj hm
    obtain ⟨k, rfl⟩ : ∃ m, k = m + 1 := ⟨k - 1, by omega⟩
    have hx2 : x < 2 := by simpa using hx
    refine ⟨x, ?_, ?_, by simp; omega⟩
    · simp only [wide_Len.l0]
      rw [show ((halfOf 0 : Nat) : Int) = 0 from rfl, if_neg (by omega)]
      simp only [Option.some.injEq]
      unfold wrap64
      have : m ≤ 63 := by simpa using hm
      omega
    · rcases Nat.lt_or_ge x 1 with h | h
      · obtain rfl : x = 0 := by omega
        exact IsLen.zero
      · obtain rfl : x = 1 := by omega
        exact ⟨by simp, fun _ => by simp⟩
  | succ j ih =>
    intro k x m hk hx hj hm
    obtain ⟨k, rfl⟩ : ∃ m, k = m + 1 := ⟨k - 1, by omega⟩
    have hp : 0 < 2 ^ j := Nat.two_pow_pos j
    have h32 : 2 ^ j ≤ 2 ^ 5 := Nat.pow_le_pow_right (by omega) (by omega)
    have hs : (2 : Nat) ^ (j + 1) = 2 ^ j + 2 ^ j := by rw [Nat.pow_succ]; omega
    rw [hs] at hm
    simp only [wide_Len.l0]
    rw [halfOf_half j, show halfOf (j + 1) = 2 ^ j from rfl]
    rw [if_pos (by omega), if_pos (by omega), shrN x (2 ^ j) (by omega)]
    obtain ⟨y, hy⟩ : ∃ y, x / 2 ^ (2 ^ j) = y := ⟨_, rfl⟩
    rw [hy]
    have hP : 0 < 2 ^ (2 ^ j) := Nat.two_pow_pos _
    by_cases h0 : y = 0
    · rw [if_pos (by omega)]
      obtain ⟨L, h1, h2, h3⟩ := ih k x m (by omega) (by rcases Nat.div_eq_zero_iff.1 (hy.trans h0) with h | h <;> omega) (by omega) (by omega)
      exact ⟨L, h1, h2, by rw [hs]; omega⟩
    · rw [if_neg (by omega), show wrap64 ((m : Int) + ((2 ^ j : Nat) : Int)) = ((m + 2 ^ j : Nat) : Int) from by unfold wrap64; omega]
      obtain ⟨L, h1, h2, h3⟩ := ih k y (m + 2 ^ j) (by omega) (by
        rw [← hy, Nat.div_lt_iff_lt_mul hP, ← Nat.pow_add, ← hs]; exact hx) (by omega) (by omega)
      exact ⟨L + 2 ^ j, by rw [h1]; congr 2; omega, IsLen.shift hy (by omega) h2, by rw [hs]; omega⟩
theorem len_spec (x k : Nat) (hx : x < 18446744073709551616) (hk : 6 < k) : ∃ L : Nat, wide_Len.f k (x : Int) = some (L : Int) ∧ IsLen x L ∧ L ≤ 64 := by
  obtain ⟨L, h1, h2, h3⟩ := len_l0 6 k x 0 hk (by simpa using hx) (by omega) (by simp)
  exact ⟨L, by rw [Nat.zero_add] at h1; exact h1, h2, by simpa using h3⟩

theorem zeros_zero (k : Nat) : wide_Zeros.f k 0 = some 64 := by
  unfold wide_Zeros.f
  rw [if_pos rfl]
theorem zeros_spec (x k : Nat) (h0 : 0 < x) (hx : x < 18446744073709551616) (hk : 6 < k) : ∃ z q : Nat, wide_Zeros.f k (x : Int) = some (z : Int) ∧ x = 2 ^ z * (2 * q + 1) ∧ z < 64 := by
  obtain ⟨z, q, e, hz, hb⟩ := neg_and x h0 hx
  have hp : 2 ^ z < 18446744073709551616 := by
    have := Nat.pow_lt_pow_right (a := 2) (by omega) hz
    simpa using this
  obtain ⟨L, h1, h2, h3⟩ := len_spec (2 ^ z) k hp hk
  have hL := h2.uniq (IsLen.pow z)
  subst hL
  refine ⟨z, q, ?_, e, hz⟩
  unfold wide_Zeros.f
  rw [if_neg (by omega), hb, h1]
  simp only [Option.bind_some, Option.some.injEq]
  unfold wrap64
  omega

theorem odd_len (M : Nat) (h0 : 0 < M) (hM : M < 18446744073709551616) : ∃ o z L, M = 2 ^ z * o ∧ o % 2 = 1 ∧ IsLen o L ∧ z < 64 ∧ 0 < L := by
  obtain ⟨z, q, e, hz, _⟩ := neg_and M h0 hM
  have hod : 2 * q + 1 ≤ M := by rw [e]; exact Nat.le_mul_of_pos_left _ (Nat.two_pow_pos z)
  obtain ⟨L, _, hL, _⟩ := len_spec (2 * q + 1) 7 (by omega) (by omega)
  refine ⟨2 * q + 1, z, L, e, by omega, hL, hz, ?_⟩
  rcases Nat.eq_zero_or_pos L with h' | h'
  · subst h'; have := hL.1; simp at this
  · exact h'

/-- The class of a pattern. -/
def cls (b : Nat) : Int :=
  if b % 9223372036854775808 = 0 then 0 else if b % 9223372036854775808 < 4503599627370496 then 1 else if b % 9223372036854775808 < 9218868437227405312 then 2
  else if b % 9223372036854775808 = 9218868437227405312 then 3 else 4
theorem fields_spec (b : Nat) (hb : b < 18446744073709551616) : ∃ e f : Nat, f64_fields.f (b : Int) = some ((e : Int), (f : Int)) ∧ b % 9223372036854775808 = e * 4503599627370496 + f ∧ e < 2048 ∧ f < 4503599627370496 := by
  refine ⟨b / 4503599627370496 % 2048, b % 4503599627370496, ?_, by omega, by omega, by omega⟩
  unfold f64_fields.f
  rw [show (b : Int) / 4503599627370496 = ((b / 4503599627370496 : Nat) : Int) from by omega, and2047 _ (by omega), and52 b hb, show wrap64 ((b / 4503599627370496 % 2048 : Nat) : Int) = ((b / 4503599627370496 % 2048 : Nat) : Int) from by unfold wrap64; omega]
theorem class_spec (b k : Nat) (hb : b < 18446744073709551616) (hk : 0 < k) : f64_Class.f k (b : Int) = some (cls b) := by
  obtain ⟨k, rfl⟩ : ∃ m, k = m + 1 := ⟨k - 1, by omega⟩
  obtain ⟨e, f, h, he, h1, h2⟩ := fields_spec b hb
  unfold f64_Class.f cls
  rw [h]
  simp only [Option.bind_some, f64_Class.j0]
  by_cases c1 : e = 0
  · rw [if_pos (by omega)]
    by_cases c2 : f = 0
    · rw [if_pos (by rw [beq_iff_eq]; omega), if_pos (by omega)]
    · rw [if_neg (by rw [beq_iff_eq]; omega), if_pos (by omega), if_neg (by omega), if_pos (by omega)]
  · rw [if_neg (by omega), if_neg (by simp), if_neg (by omega)]
    by_cases c2 : e < 2047
    · rw [if_pos (by omega), if_neg (by omega), if_neg (by omega), if_pos (by omega)]
    · rw [if_neg (by omega)]
      by_cases c3 : f = 0
      · rw [if_pos (by omega), if_neg (by omega), if_neg (by omega), if_neg (by omega), if_pos (by omega)]
      · rw [if_neg (by omega), if_neg (by omega), if_neg (by omega), if_neg (by omega), if_neg (by omega)]
theorem cls_fin (b : Nat) : (cls b = 3 ∨ cls b = 4 ↔ 9218868437227405312 ≤ b % 9223372036854775808) ∧ 0 ≤ cls b ∧ cls b ≤ 4 ∧ (3 ≤ cls b ↔ 9218868437227405312 ≤ b % 9223372036854775808) := by
  unfold cls
  repeat' split
  all_goals omega
def mantN (b : Nat) : Nat := if b % 9223372036854775808 < 4503599627370496 then b % 9223372036854775808 else 4503599627370496 + b % 4503599627370496
def expN (b : Nat) : Int := if b % 9223372036854775808 < 4503599627370496 then -1074 else ((b % 9223372036854775808 / 4503599627370496 : Nat) : Int) - 1075
/-- Sign, mantissa, exponent. -/
theorem split_spec (b k : Nat) (hb : b < 18446744073709551616) (hk : 0 < k) (h : b % 9223372036854775808 < 9218868437227405312) :
    f64_Split.f k (b : Int) = some (decide (9223372036854775808 ≤ b), (mantN b : Int), expN b, 0) := by
  obtain ⟨e, f, h0, he, h1, h2⟩ := fields_spec b hb
  have hs : (bits .and .u64 (b : Int) 9223372036854775808 != 0) = decide (9223372036854775808 ≤ b) := by
    rw [and63 b hb, Bool.eq_iff_iff, bne_iff_ne, decide_eq_true_iff]; omega
  unfold f64_Split.f mantN expN
  rw [h0, class_spec b k hb hk]
  simp only [Option.bind_some, hs]
  have hc : cls b = if b % 9223372036854775808 = 0 then 0 else if b % 9223372036854775808 < 4503599627370496 then 1 else 2 := by
    unfold cls
    repeat' split
    all_goals omega
  rw [hc]
  by_cases c1 : b % 9223372036854775808 = 0
  · rw [if_pos c1, if_pos rfl, if_pos (by omega), if_pos (by omega), show b % 9223372036854775808 = f from by omega]
  · rw [if_neg c1]
    by_cases c2 : b % 9223372036854775808 < 4503599627370496
    · rw [if_pos c2, if_neg (by omega), if_pos rfl, if_pos c2, if_pos c2, show b % 9223372036854775808 = f from by omega]
    · rw [if_neg c2, if_neg (by omega), if_neg (by omega), if_pos rfl, if_neg c2, if_neg c2, or52 f h2, show wrap64 ((e : Int) - 1075) = (e : Int) - 1075 from by unfold wrap64; omega,
        show b % 4503599627370496 = f from by omega, show b % 9223372036854775808 / 4503599627370496 = e from by omega]
theorem split_no (b k : Nat) (hb : b < 18446744073709551616) (hk : 0 < k) (h : 9218868437227405312 ≤ b % 9223372036854775808) : f64_Split.f k (b : Int) = some (false, 0, 0, 60) := by
  obtain ⟨e, f, h0, he, h1, h2⟩ := fields_spec b hb
  have hc := (cls_fin b).2.2.2.2 h
  unfold f64_Split.f
  rw [h0, class_spec b k hb hk]
  simp only [Option.bind_some]
  rw [if_neg (by omega), if_neg (by omega), if_neg (by omega)]

theorem finite_spec (b k : Nat) (hb : b < 18446744073709551616) (hk : 0 < k) : f64_finite.f k (b : Int) = some (decide (b % 9223372036854775808 < 9218868437227405312)) := by
  unfold f64_finite.f
  rw [class_spec b k hb hk]
  simp only [Option.bind_some]
  have hc := (cls_fin b).1
  by_cases h : 9218868437227405312 ≤ b % 9223372036854775808
  · rw [show decide (b % 9223372036854775808 < 9218868437227405312) = false from decide_eq_false (by omega)]
    rcases hc.2 h with h' | h' <;> rw [h'] <;> rfl
  · have hn : ¬ (cls b = 3 ∨ cls b = 4) := fun x => h (hc.1 x)
    rw [if_neg (fun x => hn (.inl x)), if_neg (fun x => hn (.inr x)), show decide (b % 9223372036854775808 < 9218868437227405312) = true from decide_eq_true (by omega)]

/-- The next pattern. -/
def nextN (b : Nat) : Nat := if b = 9223372036854775808 then 1 else if b < 9223372036854775808 then b + 1 else b - 1
theorem next_spec (b k : Nat) (hb : b < 18446744073709551616) (hk : 0 < k) (h : b % 9223372036854775808 < 9218868437227405312) (h2 : b ≠ 9218868437227405311) : f64_Next.f k (b : Int) = some ((nextN b : Int), 0) := by
  unfold f64_Next.f nextN
  rw [finite_spec b k hb hk, show decide (b % 9223372036854775808 < 9218868437227405312) = true from decide_eq_true h]
  simp only [Option.bind_some, if_true]
  rw [if_neg (by omega), and63 b hb]
  by_cases c1 : b = 9223372036854775808
  · rw [if_pos (by omega), if_pos c1]; rfl
  · rw [if_neg (by omega), if_neg c1]
    by_cases c2 : b < 9223372036854775808
    · rw [if_pos (by omega), if_pos c2, show IntKind.u64.wrap ((b : Int) + 1) = ((b + 1 : Nat) : Int) from by rw [wrapI]; omega]
    · rw [if_neg (by omega), if_neg c2, show IntKind.u64.wrap ((b : Int) - 1) = ((b - 1 : Nat) : Int) from by rw [wrapI]; omega]
theorem next_last (b k : Nat) (hb : b = 9218868437227405311) (hk : 0 < k) : f64_Next.f k (b : Int) = some (0, 62) := by
  unfold f64_Next.f
  rw [finite_spec b k (by omega) hk, show decide (b % 9223372036854775808 < 9218868437227405312) = true from decide_eq_true (by omega)]
  simp only [Option.bind_some, if_true]
  rw [if_pos (by omega)]
theorem next_no (b k : Nat) (hb : b < 18446744073709551616) (hk : 0 < k) (h : 9218868437227405312 ≤ b % 9223372036854775808) : f64_Next.f k (b : Int) = some (0, 60) := by
  unfold f64_Next.f
  rw [finite_spec b k hb hk, show decide (b % 9223372036854775808 < 9218868437227405312) = false from decide_eq_false (by omega)]
  rfl

/-- What Join answers of an odd part o of L bits at the exponent X, the sign s. -/
structure Joined (o L : Nat) (X : Int) (up : Nat) (m : Nat) (x : Int) : Prop where
  len : IsLen o L
  l0 : 0 < L
  l1 : L ≤ 53
  hi : X + L ≤ 1024
  lo : -1074 ≤ X
  u0 : up ≤ 53 - L
  u1 : (up : Int) ≤ X + 1074
  u2 : up = 53 - L ∨ (up : Int) = X + 1074
  em : m = o * 2 ^ up
  ex : x = X - up
theorem Joined.lt {o L up m : Nat} {X x : Int} (h : Joined o L X up m x) : m < 9007199254740992 := by
  have h1 := Nat.mul_lt_mul_of_pos_right h.len.1 (Nat.two_pow_pos up)
  rw [← Nat.pow_add, ← h.em] at h1
  have h2 : 2 ^ (L + up) ≤ 2 ^ 53 := Nat.pow_le_pow_right (by omega) (by have := h.u0; have := h.l1; omega)
  have h3 : m < 2 ^ 53 := Nat.lt_of_lt_of_le h1 h2
  exact h3
theorem Joined.full {o L up m : Nat} {X x : Int} (h : Joined o L X up m x) (hu : up = 53 - L) : 4503599627370496 ≤ m := by
  have h1 := Nat.mul_le_mul_right (2 ^ up) (h.len.2 h.l0)
  rw [← Nat.pow_add, ← h.em] at h1
  have e : L - 1 + up = 52 := by have := h.l1; have := h.l0; omega
  rw [e] at h1
  exact h1
theorem Joined.ge {o L up m : Nat} {X x : Int} (h : Joined o L X up m x) (hm : 4503599627370496 ≤ m) : -1074 ≤ x ∧ x ≤ 971 := by
  have h1 := Nat.mul_lt_mul_of_pos_right h.len.1 (Nat.two_pow_pos up)
  rw [← Nat.pow_add, ← h.em] at h1
  have h2 : 52 < L + up := by
    rcases Nat.lt_or_ge 52 (L + up) with h' | h'
    · exact h'
    · exfalso
      have := Nat.pow_le_pow_right (n := 2) (by omega) h'
      have h3 : m < 2 ^ 52 := Nat.lt_of_lt_of_le h1 this
      exact absurd h3 (Nat.not_lt.2 hm)
  have := h.u0
  have := h.u1
  have := h.hi
  have := h.ex
  have := h.l1
  omega
theorem Joined.half {o L up m : Nat} {X x : Int} (h : Joined o L X up m x) (hu : 0 < up) : o * 2 ^ (up - 1) < 4503599627370496 := by
  have h1 := Nat.mul_lt_mul_of_pos_right h.len.1 (Nat.two_pow_pos (up - 1))
  rw [← Nat.pow_add] at h1
  have h2 : 2 ^ (L + (up - 1)) ≤ 2 ^ 52 := Nat.pow_le_pow_right (by omega) (by have := h.u0; have := h.l1; omega)
  have h3 : o * 2 ^ (up - 1) < 2 ^ 52 := Nat.lt_of_lt_of_le h1 h2
  exact h3
/-- The pattern of a mantissa and an exponent that stand as a pattern has them. -/
def pat (s m : Nat) (x : Int) : Nat := if m < 4503599627370496 then s + m else s + (x + 1075).toNat * 4503599627370496 + (m - 4503599627370496)
theorem joined_of (o L : Nat) (X : Int) (h : IsLen o L) (h0 : 0 < L) (h1 : L ≤ 53) (h2 : X + L ≤ 1024) (h3 : -1074 ≤ X) : ∃ up m x, Joined o L X up m x := by
  rcases Int.le_total ((53 - L : Nat) : Int) (X + 1074) with h' | h'
  · exact ⟨53 - L, _, _, ⟨h, h0, h1, h2, h3, by omega, by omega, .inl rfl, rfl, rfl⟩⟩
  · exact ⟨(X + 1074).toNat, _, _, ⟨h, h0, h1, h2, h3, by omega, by omega, .inr (by omega), rfl, rfl⟩⟩
theorem join_j2 (s o L up m k : Nat) (X x : Int) (hs : s = 0 ∨ s = 9223372036854775808) (h : Joined o L X up m x) : f64_Join.j2 (k + 1) (o : Int) X (s : Int) (L : Int) false = some ((pat s m x : Int), 0) := by
  have hl0 := h.l0; have hl1 := h.l1; have hhi := h.hi; have hlo := h.lo; have hu0 := h.u0; have hu1 := h.u1; have hex := h.ex
  have hlt := h.lt
  have hmn : mn (wrap64 (53 - (L : Int))) (wrap64 (X + 1074)) = (up : Int) := by
    have e1 : wrap64 (53 - (L : Int)) = 53 - (L : Int) := by unfold wrap64; omega
    have e2 : wrap64 (X + 1074) = X + 1074 := by unfold wrap64; omega
    rw [e1, e2]
    unfold mn
    rcases h.u2 with h' | h' <;> split <;> omega
  have hshl : shl .u64 (o : Int) (up : Int) = (m : Int) := by
    rw [shlN o up (by omega), ← h.em, Nat.mod_eq_of_lt (by omega)]
  simp only [f64_Join.j2]
  rw [hmn, hshl, if_neg (by simp), if_pos (by omega)]
  unfold pat
  by_cases c : m < 4503599627370496
  · rw [if_pos (by omega), if_pos c, or_sign s m hs (by omega)]
  · have hge := h.ge (by omega)
    rw [if_neg (by omega), if_neg c]
    have e3 : wrap64 (wrap64 (X - (up : Int)) + 1075) = ((x + 1075).toNat : Int) := by
      have e1 : wrap64 (X - (up : Int)) = X - (up : Int) := by unfold wrap64; omega
      rw [e1]
      unfold wrap64; omega
    rw [e3]
    obtain ⟨E, hE⟩ : ∃ E, (x + 1075).toNat = E := ⟨_, rfl⟩
    rw [hE]
    have hE1 : E ≤ 2046 := by omega
    have e4 : IntKind.u64.wrap (IntKind.u64.wrap (E : Int) * 4503599627370496) = ((E * 4503599627370496 : Nat) : Int) := by rw [wrapI, wrapI]; omega
    rw [e4, or_sign s (E * 4503599627370496) hs (by omega), and52 m (by omega)]
    have e5 : m % 4503599627370496 = m - 4503599627370496 := by omega
    rw [e5]
    have e6 : ∃ S2, s = S2 * 4503599627370496 ∧ S2 ≤ 2048 := by
      rcases hs with h' | h'
      · exact ⟨0, by omega, by omega⟩
      · exact ⟨2048, by omega, by omega⟩
    obtain ⟨S2, hS2, hS3⟩ := e6
    have e7 := orN_add' (m - 4503599627370496) (S2 + E) 52 (show m - 4503599627370496 < 4503599627370496 by omega) (by omega)
    have e8 : ((s + E * 4503599627370496 : Nat) : Int) = (((S2 + E) * 2 ^ 52 : Nat) : Int) := congrArg (fun n : Nat => (n : Int)) (by omega)
    rw [e8, e7]
    refine congrArg some (Prod.ext ?_ rfl)
    exact congrArg (fun n : Nat => (n : Int)) (by omega)
/-- Join of a mantissa that is not 0. -/
theorem join_spec (neg : Bool) (M o z L : Nat) (x : Int) (k : Nat) (hM : M < 18446744073709551616) (e : M = 2 ^ z * o) (ho : o % 2 = 1) (hL : IsLen o L) (hz : z < 64) (hx0 : -9223372036854775808 ≤ x) (hx1 : x ≤ 9223372036854775807) (hk : 12 < k) :
    ((53 < L ∨ 1024 < x + z + L ∨ x + z < -1074) → f64_Join.f k neg (M : Int) x = some (0, 61)) ∧
    (∀ up m x', Joined o L (x + z) up m x' → f64_Join.f k neg (M : Int) x = some ((pat (if neg then 9223372036854775808 else 0) m x' : Int), 0)) := by
  obtain ⟨k, rfl⟩ : ∃ m, k = m + 1 + 1 + 1 := ⟨k - 3, by omega⟩
  have hp := Nat.two_pow_pos z
  have hM0 : 0 < M := by
    rcases Nat.eq_zero_or_pos M with h | h
    · rw [h] at e
      rcases Nat.mul_eq_zero.1 e.symm with h' | h' <;> omega
    · exact h
  have hL0 : 0 < L := by
    rcases Nat.eq_zero_or_pos L with h' | h'
    · subst h'; have := hL.1; simp at this; omega
    · exact h'
  have hod : o ≤ M := by rw [e]; exact Nat.le_mul_of_pos_left _ hp
  obtain ⟨s, hs0, hs⟩ : ∃ s : Nat, (if neg then 9223372036854775808 else 0 : Nat) = s ∧ (s = 0 ∨ s = 9223372036854775808) := by
    cases neg
    · exact ⟨0, rfl, .inl rfl⟩
    · exact ⟨9223372036854775808, rfl, .inr rfl⟩
  have hf : f64_Join.f (k + 1 + 1 + 1) neg (M : Int) x = f64_Join.j0 (k + 1 + 1 + 1) (M : Int) x (s : Int) := by
    unfold f64_Join.f
    cases neg
    · rw [← hs0]; rfl
    · rw [← hs0]; rfl
  have hj : f64_Join.j0 (k + 1 + 1 + 1) (M : Int) x (s : Int) = if x < -1137 ∨ 1023 < x then some (0, 61) else f64_Join.j1 (k + 1 + 1) (M : Int) x (s : Int) false := by
    simp only [f64_Join.j0]
    rw [if_neg (by omega)]
    by_cases c1 : x < -1137
    · rw [if_pos c1, if_pos (.inl c1)]; rfl
    · rw [if_neg c1]
      by_cases c2 : 1023 < x
      · rw [if_pos (.inr c2), show decide (x > 1023) = true from decide_eq_true c2]; rfl
      · rw [if_neg (by omega), show decide (x > 1023) = false from decide_eq_false c2]
  rw [hf, hj, hs0]
  clear hf hj
  by_cases cx : x < -1137 ∨ 1023 < x
  · rw [if_pos cx]
    refine ⟨fun _ => rfl, fun up m x' h => ?_⟩
    exfalso
    have := h.hi
    have := h.lo
    omega
  · rw [if_neg cx]
    have hj1 : f64_Join.j1 (k + 1 + 1) (M : Int) x (s : Int) false = f64_Join.j2 (k + 1) (o : Int) (x + z) (s : Int) (L : Int) (decide (53 < L ∨ 1024 < x + z + L ∨ x + z < -1074)) := by
      obtain ⟨z', q', hz1, hz2, hz3⟩ := zeros_spec M (k + 1) hM0 hM (by omega)
      have hzz : z' = z ∧ 2 * q' + 1 = o := by
        rcases Nat.lt_trichotomy z' z with h | h | h
        · exfalso
          have e2 : 2 ^ z = 2 ^ z' * (2 * 2 ^ (z - z' - 1)) := by rw [Nat.mul_left_comm, ← Nat.pow_add, ← Nat.pow_succ']; congr 1; omega
          rw [e, e2, Nat.mul_assoc] at hz2
          have := Nat.eq_of_mul_eq_mul_left (Nat.two_pow_pos z') hz2
          rw [Nat.mul_assoc] at this
          omega
        · subst h
          rw [e] at hz2
          exact ⟨rfl, (Nat.eq_of_mul_eq_mul_left hp hz2).symm⟩
        · exfalso
          have e2 : 2 ^ z' = 2 ^ z * (2 * 2 ^ (z' - z - 1)) := by rw [Nat.mul_left_comm, ← Nat.pow_add, ← Nat.pow_succ']; congr 1; omega
          rw [e, e2, Nat.mul_assoc] at hz2
          have := Nat.eq_of_mul_eq_mul_left hp hz2
          rw [Nat.mul_assoc] at this
          omega
      obtain ⟨rfl, ho2⟩ := hzz
      have hsh : shr .u64 (M : Int) (z' : Int) = (o : Int) := by rw [shrN M z' (by omega), e, Nat.mul_div_cancel_left _ hp]
      obtain ⟨L', hl1, hl2, hl3⟩ := len_spec o (k + 1) (by omega) (by omega)
      obtain rfl := hl2.uniq hL
      simp only [f64_Join.j1]
      rw [if_neg (by simp), hz1, obind, if_pos (by omega), hsh, hl1, obind]
      rw [show wrap64 (x + (z' : Int)) = x + (z' : Int) from by unfold wrap64; omega, show wrap64 (x + (z' : Int) + (L' : Int)) = x + (z' : Int) + (L' : Int) from by unfold wrap64; omega]
      by_cases c1 : 53 < L'
      · rw [if_pos (by omega), decide_eq_true (.inl c1)]
      · rw [if_neg (by omega)]
        by_cases c2 : 1024 < x + z' + L'
        · rw [if_pos c2, decide_eq_true (.inr (.inl c2))]
        · rw [if_neg c2]
          congr 1
          rw [decide_eq_decide]; omega
    rw [hj1]
    refine ⟨fun h => ?_, fun up m x' h => ?_⟩
    · rw [decide_eq_true h]; rfl
    · rw [decide_eq_false (by have := h.l1; have := h.hi; have := h.lo; omega)]
      exact join_j2 s o L up m k (x + z) x' hs h
theorem join_zero (neg : Bool) (x : Int) (k : Nat) (hk : 0 < k) : f64_Join.f k neg 0 x = some ((((if neg then 9223372036854775808 else 0 : Nat)) : Int), 0) := by
  obtain ⟨k, rfl⟩ : ∃ m, k = m + 1 := ⟨k - 1, by omega⟩
  unfold f64_Join.f
  cases neg
  · simp only [f64_Join.j0]; rfl
  · simp only [f64_Join.j0]; rfl

theorem alive_spec (k : Nat) (hk : 12 < k) : plumblaw06_alive.f k = some true := by
  obtain ⟨b, hb⟩ : ∃ b : Nat, b = 4607182418800017408 := ⟨_, rfl⟩
  have h1 := split_spec b k (by omega) (by omega) (by omega)
  have h3 := next_spec b k (by omega) (by omega) (by omega) (by omega)
  have hn : nextN b = 4607182418800017409 := by unfold nextN; rw [if_neg (by omega), if_pos (by omega)]; omega
  have hl : IsLen 3 2 := ⟨by omega, fun _ => by omega⟩
  have h4 := (join_spec true 3 3 0 2 (-1) k (by omega) (by omega) (by omega) hl (by omega) (by omega) (by omega) hk).2 51 6755399441055744 (-52)
    ⟨hl, by omega, by omega, by omega, by omega, by omega, by omega, .inl rfl, by omega, by omega⟩
  obtain ⟨c, hc⟩ : ∃ c, pat (if true = true then 9223372036854775808 else 0) 6755399441055744 (-52) = c := ⟨_, rfl⟩
  have hc2 : c = 13832806255468478464 := by
    rw [← hc]; unfold pat
    rw [if_pos rfl, if_neg (by omega), show ((-52 : Int) + 1075).toNat = 1023 from by omega]
  rw [hc] at h4
  rw [hn] at h3
  have e1 : decide (9223372036854775808 ≤ b) = false := decide_eq_false (by omega)
  have e2 : (mantN b : Int) = 4503599627370496 := by unfold mantN; rw [if_neg (by omega)]; omega
  have e3 : expN b = -52 := by unfold expN; rw [if_neg (by omega)]; omega
  rw [e1, e2, e3] at h1
  have eb : (b : Int) = 4607182418800017408 := by omega
  rw [eb] at h1 h3
  have ec : (c : Int) = 13832806255468478464 := by omega
  have h5 : f64_Join.f k true 3 (-1) = some (13832806255468478464, 0) := by rw [← ec]; exact h4
  have h6 : f64_Next.f k 4607182418800017408 = some (4607182418800017409, 0) := h3
  unfold plumblaw06_alive.f
  rw [h1, obind, h6, obind, h5, obind]
  rw [if_neg (by simp), if_pos rfl, if_pos rfl, if_pos rfl, if_pos rfl, if_pos rfl, if_pos rfl]
  rfl

/-- The number that words of 64 bits tell, the lowest first. -/
def nval : List Nat → Nat
  | [] => 0
  | a :: l => a + 18446744073709551616 * nval l
def cmpI (a b : Nat) : Int := if a < b then -1 else if a = b then 0 else 1
theorem nval_append : ∀ (a b : List Nat), nval (a ++ b) = nval a + 18446744073709551616 ^ a.length * nval b
  | [], b => by simp [nval]
  | x :: a, b => by
    have ih := nval_append a b
    rw [List.cons_append, nval, ih, nval, List.length_cons, Nat.pow_succ, Nat.mul_add, ← Nat.mul_assoc, Nat.mul_comm 18446744073709551616 (18446744073709551616 ^ a.length)]
    omega
theorem nval_lt : ∀ (l : List Nat), (∀ a ∈ l, a < 18446744073709551616) → nval l < 18446744073709551616 ^ l.length
  | [], _ => by simp [nval]
  | x :: l, h => by
    have ih := nval_lt l (fun a ha => h a (List.mem_cons_of_mem _ ha))
    have hx := h x List.mem_cons_self
    rw [nval, List.length_cons, Nat.pow_succ]
    omega
theorem nval_zeros (q : Nat) : nval (List.replicate q 0) = 0 := by
  induction q with
  | zero => rfl
  | succ q ih => rw [List.replicate_succ, nval, ih]
theorem nval_take (l : List Nat) (i : Nat) (hi : i < l.length) : nval (l.take (i + 1)) = nval (l.take i) + 18446744073709551616 ^ i * l.getD i 0 := by
  rw [List.take_add_one, nval_append, List.length_take, Nat.min_eq_left (by omega), List.getElem?_eq_getElem hi, List.getD_eq_getElem?_getD, List.getElem?_eq_getElem hi]
  simp [nval]
def casts (l : List Nat) : List Int := l.map (fun (n : Nat) => (n : Int))
theorem casts_length (l : List Nat) : (casts l).length = l.length := by simp [casts]
theorem rd_cast (l : List Nat) (i : Nat) : rd (casts l) (i : Int) = ((l.getD i 0 : Nat) : Int) := by
  unfold rd casts
  rw [Int.toNat_natCast, List.getD_eq_getElem?_getD, List.getElem?_map, List.getD_eq_getElem?_getD]
  cases l[i]? <;> simp
theorem wide_cmp_spec (a b k : Nat) (hk : 0 < k) : wide_Cmp.f k 0 (a : Int) 0 (b : Int) = some (cmpI a b) := by
  obtain ⟨k, rfl⟩ : ∃ m, k = m + 1 := ⟨k - 1, by omega⟩
  unfold wide_Cmp.f cmpI
  rw [if_neg (by omega), if_pos rfl, wide_Cmp.j0]
  by_cases h : a < b
  · rw [if_pos (by simp; omega), if_pos h]
  · rw [if_neg (by simp; omega), if_neg h, if_pos rfl]
    by_cases e : a = b
    · rw [if_pos (by omega), if_pos e]
    · rw [if_neg (by omega), if_neg e]
theorem cmpI_self (a : Nat) : cmpI a a = 0 := by unfold cmpI; rw [if_neg (by omega), if_pos rfl]
theorem cmp_digit (P x y a b : Nat) (hx : x < P) (hy : y < P) : cmpI (x + P * a) (y + P * b) = if cmpI a b = 0 then cmpI x y else cmpI a b := by
  unfold cmpI
  rcases Nat.lt_trichotomy a b with h | h | h
  · have : P * (a + 1) ≤ P * b := Nat.mul_le_mul_left P h
    rw [Nat.mul_add] at this
    have hl : x + P * a < y + P * b := by omega
    simp only [if_pos hl, if_pos h, if_neg (show ¬ ((-1 : Int) = 0) by omega)]
  · subst h
    rw [if_neg (by omega : ¬ a < a), if_pos rfl, if_pos rfl]
    by_cases c : x < y
    · rw [if_pos (by omega), if_pos c]
    · rw [if_neg (by omega), if_neg c]
      by_cases e : x = y
      · rw [if_pos (by omega), if_pos e]
      · rw [if_neg (by omega), if_neg e]
  · have : P * (b + 1) ≤ P * a := Nat.mul_le_mul_left P h
    rw [Nat.mul_add] at this
    rw [if_neg (by omega : ¬ a < b), if_neg (by omega : ¬ a = b), if_neg (by omega : ¬ ((1 : Int) = 0)), if_neg (by omega), if_neg (by omega)]
theorem cmp_l0 (X Y : List Nat) (hX : ∀ a ∈ X, a < 18446744073709551616) (hY : ∀ a ∈ Y, a < 18446744073709551616) (hl : X.length = Y.length) (h2 : X.length ≤ 1000) :
    ∀ (i k : Nat), i ≤ X.length → i + 2 < k → nat_Cmp.l0 k (casts X) (casts Y) ((i : Int) - 1) = some (cmpI (nval (X.take i)) (nval (Y.take i))) := by
  intro i
  induction i with
  | zero =>
    intro k _ hk
    obtain ⟨k, rfl⟩ : ∃ m, k = m + 1 := ⟨k - 1, by omega⟩
    rw [nat_Cmp.l0, if_neg (by omega)]
    simp [nval, cmpI]
  | succ i ih =>
    intro k hi hk
    obtain ⟨k, rfl⟩ : ∃ m, k = m + 1 := ⟨k - 1, by omega⟩
    rw [show ((i + 1 : Nat) : Int) - 1 = (i : Int) from by omega, nat_Cmp.l0, if_pos (by omega), if_pos (by omega), casts_length, casts_length, if_pos (by omega), if_pos (by omega), rd_cast, rd_cast, wide_cmp_spec _ _ k (by omega), Option.bind_some,
      show wrap64 ((i : Int) - 1) = (i : Int) - 1 from by unfold wrap64; omega, ih k (by omega) (by omega), nval_take X i (by omega), nval_take Y i (by omega)]
    have hx := nval_lt (X.take i) (fun a ha => hX a (List.mem_of_mem_take ha))
    have hy := nval_lt (Y.take i) (fun a ha => hY a (List.mem_of_mem_take ha))
    rw [List.length_take, Nat.min_eq_left (by omega)] at hx hy
    rw [cmp_digit _ _ _ _ _ hx hy]
    split <;> rfl
/-- No zeros at the high end. -/
structure Norm (X : List Nat) : Prop where
  lt : ∀ a ∈ X, a < 18446744073709551616
  len : X.length ≤ 1000
  top : 0 < X.length → X.getD (X.length - 1) 0 ≠ 0
theorem norm_size {X : List Nat} (h : Norm X) (k : Nat) (hk : 0 < k) : nat_size.f k (casts X) = some ((X.length : Nat) : Int) := by
  obtain ⟨k, rfl⟩ : ∃ m, k = m + 1 := ⟨k - 1, by omega⟩
  have hl := h.len
  unfold nat_size.f
  rw [casts_length]
  rcases Nat.eq_zero_or_pos X.length with h0 | h0
  · rw [h0]
    exact nat_Shl.size_end k (casts X)
  · rw [nat_Shl.size_step k (casts X) _ (by omega) (by rw [casts_length]; omega) (by omega), show ((X.length : Nat) : Int) - 1 = ((X.length - 1 : Nat) : Int) from by omega, rd_cast, if_neg (by have := h.top h0; omega)]
theorem norm_ge {X : List Nat} (h : Norm X) (h0 : 0 < X.length) : 18446744073709551616 ^ (X.length - 1) ≤ nval X := by
  have e := nval_take X (X.length - 1) (by omega)
  rw [show X.length - 1 + 1 = X.length from by omega, List.take_length] at e
  have h1 := h.top h0
  have h2 := Nat.mul_le_mul_left (18446744073709551616 ^ (X.length - 1)) (show 1 ≤ X.getD (X.length - 1) 0 by omega)
  rw [Nat.mul_one] at h2
  rw [e]
  exact Nat.le_trans h2 (Nat.le_add_left _ _)
theorem norm_short {X Y : List Nat} (hX : Norm X) (hY : Norm Y) (h : X.length < Y.length) : nval X < nval Y := by
  have h1 := nval_lt X hX.lt
  have h2 := norm_ge hY (by omega)
  have h3 := Nat.pow_le_pow_right (n := 18446744073709551616) (by omega) (show X.length ≤ Y.length - 1 by omega)
  exact Nat.lt_of_lt_of_le h1 (Nat.le_trans h3 h2)
theorem nat_cmp_spec {X Y : List Nat} (hX : Norm X) (hY : Norm Y) (k : Nat) (hk : 1005 < k) : nat_Cmp.f k (casts X) (casts Y) = some (cmpI (nval X) (nval Y)) := by
  have hl := hX.len
  unfold nat_Cmp.f
  rw [norm_size hX k (by omega), Option.bind_some, norm_size hY k (by omega), Option.bind_some]
  by_cases e : X.length = Y.length
  · rw [if_pos (by omega), show wrap64 (((X.length : Nat) : Int) - 1) = ((X.length : Nat) : Int) - 1 from by unfold wrap64; omega, cmp_l0 X Y hX.lt hY.lt e hl X.length k (Nat.le_refl _) (by omega), List.take_length, e, List.take_length]
  · rw [if_neg (by omega)]
    rcases Nat.lt_or_gt_of_ne e with h | h
    · have := norm_short hX hY h
      rw [if_pos (by omega)]
      unfold cmpI
      rw [if_pos this]
    · have := norm_short hY hX h
      rw [if_neg (by omega)]
      unfold cmpI
      rw [if_neg (by omega), if_neg (by omega)]
theorem casts_zeros (q : Nat) (l : List Nat) : casts (List.replicate q 0 ++ l) = List.replicate q 0 ++ casts l := by simp [casts]
theorem norm_zeros (q : Nat) (l : List Nat) (hq : q ≤ 900) (hl : l.length ≤ 2) (h0 : 0 < l.length) (h : ∀ a ∈ l, a < 18446744073709551616) (ht : l.getD (l.length - 1) 0 ≠ 0) : Norm (List.replicate q 0 ++ l) := by
  refine ⟨?_, by simp; omega, ?_⟩
  · intro a ha
    rcases List.mem_append.1 ha with ha | ha
    · rw [List.eq_of_mem_replicate ha]; omega
    · exact h a ha
  · intro _
    rw [List.length_append, List.length_replicate, List.getD_eq_getElem?_getD, List.getElem?_append_right (by simp; omega), List.length_replicate, show q + l.length - 1 - q = l.length - 1 from by omega, ← List.getD_eq_getElem?_getD]
    exact ht
theorem out_spec (m n : Nat) (hm : m < 18446744073709551616) (hn : n ≤ 6000) : ∃ X : List Nat, nat_Shl.f [(m : Int)] (n : Int) = some (casts X, 0) ∧ Norm X ∧ nval X = m * 2 ^ n := by
  simp only [nat_Shl.f]
  rw [if_pos ⟨⟨by omega, by omega⟩, by omega, by omega⟩]
  by_cases h0 : m = 0
  · refine ⟨[], ?_, ⟨by simp, by simp, by simp⟩, by simp [nval, h0]⟩
    unfold nat_Shl.out
    rw [if_pos (by omega)]
    rfl
  · obtain ⟨q, hq⟩ : ∃ q, n / 64 = q := ⟨_, rfl⟩
    obtain ⟨k, hk⟩ : ∃ k, n % 64 = k := ⟨_, rfl⟩
    have hk6 : k < 64 := by omega
    have hq9 : q ≤ 93 := by omega
    have hn2 : n = 64 * q + k := by omega
    have e1 : ((n : Int) / 64).toNat = q := by omega
    have e2 : (n : Int) % 64 = (k : Int) := by omega
    unfold nat_Shl.out
    rw [if_neg (by omega), e1, e2, shlN m k (by omega), show (64 : Int) - (k : Int) = ((64 - k : Nat) : Int) from by omega, shrN m (64 - k) (by omega)]
    obtain ⟨v, hv⟩ : ∃ v, m * 2 ^ k % 18446744073709551616 = v := ⟨_, rfl⟩
    obtain ⟨t, ht⟩ : ∃ t, m / 2 ^ (64 - k) = t := ⟨_, rfl⟩
    rw [hv, ht]
    have hs : (2 : Nat) ^ (64 - k) * 2 ^ k = 18446744073709551616 := by rw [← Nat.pow_add, show 64 - k + k = 64 from by omega]
    have ht2 : m * 2 ^ k / 18446744073709551616 = t := by rw [← hs, Nat.mul_div_mul_right _ _ (Nat.two_pow_pos k), ht]
    have hvt : v + 18446744073709551616 * t = m * 2 ^ k := by rw [← hv, ← ht2]; exact Nat.mod_add_div _ _
    have hv2 : v < 18446744073709551616 := by rw [← hv]; exact Nat.mod_lt _ (by omega)
    have htm : t ≤ m := by rw [← ht]; exact Nat.div_le_self _ _
    have hpos : 0 < m * 2 ^ k := Nat.mul_pos (by omega) (Nat.two_pow_pos k)
    have hB : (18446744073709551616 : Nat) ^ q = 2 ^ (64 * q) := by rw [Nat.pow_mul]
    have hval : 18446744073709551616 ^ q * (v + 18446744073709551616 * t) = m * 2 ^ n := by
      rw [hvt, hB, hn2, Nat.pow_add, Nat.mul_left_comm]
    by_cases c : t = 0
    · rw [if_pos (by omega)]
      refine ⟨List.replicate q 0 ++ [v], by rw [casts_zeros]; rfl, norm_zeros q [v] (by omega) (by simp) (by simp) (by simpa using hv2) (by simp; omega), ?_⟩
      rw [nval_append, nval_zeros, List.length_replicate, Nat.zero_add, ← hval, c]
      simp [nval]
    · rw [if_neg (by omega)]
      refine ⟨List.replicate q 0 ++ [v, t], by rw [casts_zeros]; rfl, norm_zeros q [v, t] (by omega) (by simp) (by simp) (by simp; omega) (by simpa using c), ?_⟩
      rw [nval_append, nval_zeros, List.length_replicate, Nat.zero_add, ← hval]
      simp [nval]

theorem odd_less (z d q q' : Nat) (h : 2 ^ (z + d + 1) * (2 * q' + 1) = 2 ^ z * (2 * q + 1)) : False := by
  rw [show z + d + 1 = z + (d + 1) from by omega, Nat.pow_add, Nat.mul_assoc] at h
  have h1 := Nat.eq_of_mul_eq_mul_left (Nat.two_pow_pos z) h
  rw [Nat.pow_succ, Nat.mul_right_comm] at h1
  omega
theorem odd_uniq (z' q' z q : Nat) (h : 2 ^ z' * (2 * q' + 1) = 2 ^ z * (2 * q + 1)) : z' = z := by
  rcases Nat.lt_trichotomy z' z with c | c | c
  · obtain ⟨d, rfl⟩ : ∃ d, z = z' + d + 1 := ⟨z - z' - 1, by omega⟩
    exact (odd_less z' d q' q h.symm).elim
  · exact c
  · obtain ⟨d, rfl⟩ : ∃ d, z' = z + d + 1 := ⟨z' - z - 1, by omega⟩
    exact (odd_less z d q q' h).elim
theorem zeros_one (m z q k : Nat) (h0 : 0 < m) (hm : m < 18446744073709551616) (e : m = 2 ^ z * (2 * q + 1)) (hz : z < 64) (hk : 10 < k) : nat_Zeros.f k [(m : Int)] = some (z : Int) := by
  obtain ⟨k, rfl⟩ : ∃ j, k = j + 1 := ⟨k - 1, by omega⟩
  obtain ⟨z', q', e1, e2, e3⟩ := zeros_spec m k h0 hm (by omega)
  have hzz : z' = z := odd_uniq z' q' z q (by rw [← e2, e])
  subst hzz
  unfold nat_Zeros.f
  have hl : ((([(m : Int)] : List Int).length : Nat) : Int) = 1 := rfl
  have hr : rd [(m : Int)] 0 = (m : Int) := rfl
  rw [hl, nat_Zeros.l0, if_pos (by omega), if_pos (by omega), hl, if_pos (by omega), hr, if_neg (by omega), e1, Option.bind_some]
  congr 1
  unfold wrap64
  omega
theorem bits_one (m L k : Nat) (h0 : 0 < m) (hm : m < 18446744073709551616) (hL : IsLen m L) (hL2 : L ≤ 64) (hk : 10 < k) : nat_Bits.f k [(m : Int)] = some (L : Int) := by
  obtain ⟨L', e1, e2, e3⟩ := len_spec m k hm (by omega)
  have := e2.uniq hL
  subst this
  have hN : Norm [m] := ⟨by simpa using hm, by simp, fun _ => by simp; omega⟩
  have hs := norm_size hN k (by omega)
  unfold nat_Bits.f
  rw [show casts [m] = [(m : Int)] from rfl] at hs
  rw [hs, Option.bind_some, show ((([m] : List Nat).length : Nat) : Int) = 1 from rfl, if_neg (by omega), show wrap64 ((1 : Int) - 1) = 0 from by unfold wrap64; omega, if_pos (by omega), if_pos (by simp), show rd [(m : Int)] 0 = (m : Int) from rfl, e1, Option.bind_some]
  congr 1
  unfold wrap64
  omega
theorem pat_split (s m : Nat) (x : Int) (hs : s = 0 ∨ s = 9223372036854775808) (hm : m < 9007199254740992) (h : (m < 4503599627370496 ∧ x = -1074) ∨ (4503599627370496 ≤ m ∧ -1074 ≤ x ∧ x ≤ 971)) :
    pat s m x < 18446744073709551616 ∧ pat s m x % 9223372036854775808 < 9218868437227405312 ∧ mantN (pat s m x) = m ∧ expN (pat s m x) = x ∧ (9223372036854775808 ≤ pat s m x ↔ s = 9223372036854775808) := by
  rcases h with ⟨h1, h2⟩ | ⟨h1, h2, h3⟩
  · have e : pat s m x = s + m := by unfold pat; rw [if_pos h1]
    rw [e]
    have e2 : (s + m) % 9223372036854775808 = m := by omega
    unfold mantN expN
    rw [e2, if_pos h1, if_pos h1]
    omega
  · obtain ⟨y, hy⟩ : ∃ y : Nat, x + 1075 = (y : Int) := ⟨(x + 1075).toNat, by omega⟩
    have e : pat s m x = s + y * 4503599627370496 + (m - 4503599627370496) := by unfold pat; rw [if_neg (by omega), hy, Int.toNat_natCast]
    rw [e]
    have e2 : (s + y * 4503599627370496 + (m - 4503599627370496)) % 9223372036854775808 = y * 4503599627370496 + (m - 4503599627370496) := by omega
    have e3 : (s + y * 4503599627370496 + (m - 4503599627370496)) % 4503599627370496 = m - 4503599627370496 := by omega
    have e4 : (y * 4503599627370496 + (m - 4503599627370496)) / 4503599627370496 = y := by omega
    unfold mantN expN
    rw [e2, e3, if_neg (by omega), if_neg (by omega), e4]
    omega
theorem exact_j1 (M m o z up : Nat) (X x : Int) (k : Nat) (hM : M < 18446744073709551616) (hm : m < 18446744073709551616) (e1 : M = 2 ^ z * o) (e2 : m = o * 2 ^ up) (hz : z < 64) (hup : up ≤ 53) (_hX : -5000 ≤ X ∧ X ≤ 5000) (hx : x = X + z - up) (hk : 1010 < k) :
    plumblaw06_F64Exact.j1 k (M : Int) X (m : Int) x false = some true := by
  obtain ⟨k, rfl⟩ : ∃ j, k = j + 1 := ⟨k - 1, by omega⟩
  rw [plumblaw06_F64Exact.j1, if_neg (by decide)]
  by_cases c : X < x
  · rw [if_pos c]
    obtain ⟨A, a1, a2, a3⟩ := out_spec M 0 hM (by omega)
    obtain ⟨B, b1, b2, b3⟩ := out_spec m (z - up) hm (by omega)
    rw [show wrap64 (X - X) = ((0 : Nat) : Int) from by unfold wrap64; omega, a1, Option.bind_some, show wrap64 (x - X) = ((z - up : Nat) : Int) from by unfold wrap64; omega, b1, Option.bind_some]
    show (nat_Cmp.f k (casts A) (casts B)).bind _ = _
    have hv : m * 2 ^ (z - up) = M * 2 ^ 0 := by
      rw [e2, Nat.mul_assoc, ← Nat.pow_add, show up + (z - up) = z from by omega, e1, Nat.mul_comm, Nat.pow_zero, Nat.mul_one]
    rw [nat_cmp_spec a2 b2 k (by omega), Option.bind_some, a3, b3, hv, cmpI_self]
    rfl
  · rw [if_neg c]
    obtain ⟨A, a1, a2, a3⟩ := out_spec M (up - z) hM (by omega)
    obtain ⟨B, b1, b2, b3⟩ := out_spec m 0 hm (by omega)
    rw [show wrap64 (x - x) = ((0 : Nat) : Int) from by unfold wrap64; omega, b1, show wrap64 (X - x) = ((up - z : Nat) : Int) from by unfold wrap64; omega, a1, Option.bind_some, Option.bind_some]
    show (nat_Cmp.f k (casts A) (casts B)).bind _ = _
    have hv : M * 2 ^ (up - z) = m * 2 ^ 0 := by
      rw [e1, e2, Nat.mul_right_comm, ← Nat.pow_add, show z + (up - z) = up from by omega, Nat.mul_comm, Nat.pow_zero, Nat.mul_one]
    rw [nat_cmp_spec a2 b2 k (by omega), Option.bind_some, a3, b3, hv, cmpI_self]
    rfl
theorem F64Exact : plumblaw06_F64Exact.Pure := by
  intro neg a x ha hx
  obtain ⟨M, rfl, hM⟩ := u64_nat ha
  have hxb := bounds_i64 hx
  have hx0 : -9223372036854775808 ≤ x := by omega
  have hx1 : x ≤ 9223372036854775807 := by omega
  obtain ⟨k, hk⟩ : ∃ k : Nat, 1100 < k := ⟨1101, by omega⟩
  refine ⟨k + 1, ?_⟩
  unfold plumblaw06_F64Exact.f
  by_cases h0 : M = 0
  · subst h0
    rw [show ((0 : Nat) : Int) = 0 from rfl, join_zero neg x (k + 1) (by omega), obind, alive_spec _ (by omega), obind, if_pos rfl, if_pos rfl, if_pos rfl]
    cases neg
    · show (if ((0 : Nat) : Int) = 0 then _ else _) = _
      rw [if_pos (show ((0 : Nat) : Int) = 0 by rfl), if_neg (by decide)]
    · show (if ((9223372036854775808 : Nat) : Int) = 0 then _ else if ((9223372036854775808 : Nat) : Int) = 9223372036854775808 then _ else _) = _
      rw [if_neg (by omega), if_pos (by omega)]
  · obtain ⟨o, z, L, e, ho, hL, hz, hL0⟩ := odd_len M (by omega) hM
    obtain ⟨hj1, hj2⟩ := join_spec neg M o z L x (k + 1) hM e ho hL hz hx0 hx1 (by omega)
    have hML : IsLen M (L + z) := IsLen.shift (y := o) (by rw [e, Nat.mul_div_cancel_left _ (Nat.two_pow_pos z)]) (by omega) hL
    have hLz : L + z ≤ 64 := by
      have h1 := hML.2 (by omega)
      by_cases c : L + z ≤ 64
      · exact c
      · have := Nat.pow_le_pow_right (n := 2) (by omega) (show 64 ≤ L + z - 1 by omega)
        omega
    have hzs := zeros_one M z (o / 2) (k + 1) (by omega) hM (by rw [show 2 * (o / 2) + 1 = o from by omega]; exact e) hz (by omega)
    have hbs := bits_one M (L + z) (k + 1) (by omega) hM hML hLz (by omega)
    have hmain : (53 < L ∨ 1024 < x + z + L ∨ x + z < -1074) ∨ ((-1200 ≤ x ∧ x ≤ 1100) ∧ L ≤ 53 ∧ x + z + L ≤ 1024 ∧ -1074 ≤ x + z) := by omega
    rcases hmain with hbad | ⟨hxr, hg1, hg2, hg3⟩
    · rw [hj1 hbad, obind, alive_spec _ (by omega), obind, if_pos rfl, if_neg (by omega), hzs, obind, hbs, obind]
      have hj0 : plumblaw06_F64Exact.j0 (k + 1) neg (M : Int) x 0 61 true = some true := by rw [plumblaw06_F64Exact.j0, if_pos rfl, if_pos rfl]; rfl
      by_cases c1 : x < -4000
      · rw [if_pos c1]; exact hj0
      · rw [if_neg c1]
        by_cases c2 : x > 4000
        · rw [if_pos c2]; exact hj0
        · rw [if_neg c2, show wrap64 (((L + z : Nat) : Int) - (z : Int)) = (L : Int) from by unfold wrap64; omega, show wrap64 (x + (z : Int)) = x + z from by unfold wrap64; omega, show wrap64 (x + ((L + z : Nat) : Int)) = x + z + L from by unfold wrap64; omega]
          by_cases c3 : (L : Int) > 53
          · rw [if_pos c3]; exact hj0
          · rw [if_neg c3]
            by_cases c4 : x + (z : Int) < -1074
            · rw [if_pos c4]; exact hj0
            · rw [if_neg c4, decide_eq_true (show x + (z : Int) + L > 1024 by omega)]; exact hj0
    · obtain ⟨up, m, x', hJ⟩ := joined_of o L (x + z) hL hL0 hg1 hg2 hg3
      have hm := hJ.lt
      have hr : (m < 4503599627370496 ∧ x' = -1074) ∨ (4503599627370496 ≤ m ∧ -1074 ≤ x' ∧ x' ≤ 971) := by
        rcases Nat.lt_or_ge m 4503599627370496 with h | h
        · left
          refine ⟨h, ?_⟩
          have h1 := hJ.u2
          have h2 := hJ.full
          have h3 := hJ.ex
          rcases h1 with h1 | h1
          · have := h2 h1; omega
          · omega
        · exact .inr ⟨h, hJ.ge h⟩
      obtain ⟨B, hB⟩ : ∃ B, pat (if neg then 9223372036854775808 else 0) m x' = B := ⟨_, rfl⟩
      obtain ⟨p1, p2, p3, p4, p5⟩ := pat_split (if neg then 9223372036854775808 else 0) m x' (by cases neg <;> simp) hm hr
      rw [hB] at p1 p2 p3 p4 p5
      have hj := hj2 up m x' hJ
      rw [hB] at hj
      have hup := hJ.u0
      have hex := hJ.ex
      rw [hj, obind, alive_spec _ (by omega), obind, if_pos rfl, if_neg (by omega), hzs, obind, hbs, obind, if_neg (by omega), if_neg (by omega),
        show wrap64 (((L + z : Nat) : Int) - (z : Int)) = (L : Int) from by unfold wrap64; omega, show wrap64 (x + (z : Int)) = x + z from by unfold wrap64; omega, show wrap64 (x + ((L + z : Nat) : Int)) = x + z + L from by unfold wrap64; omega,
        if_neg (by omega), if_neg (by omega), decide_eq_false (show ¬ x + (z : Int) + L > 1024 by omega), plumblaw06_F64Exact.j0, if_neg (by decide)]
      show (f64_Split.f k (B : Int)).bind _ = _
      have hd : decide (9223372036854775808 ≤ B) = neg := by
        cases neg
        · exact decide_eq_false (fun h => by have := p5.1 h; simp at this)
        · exact decide_eq_true (p5.2 rfl)
      rw [split_spec B k p1 (by omega) p2, obind, if_pos rfl, if_pos rfl, hd, p3, p4]
      show (if (neg != neg) = true then _ else plumblaw06_F64Exact.j1 k (M : Int) x (m : Int) x' (decide (x < wrap64 (x' - 64)))) = _
      rw [if_neg (by simp), decide_eq_false (show ¬ x < wrap64 (x' - 64) by unfold wrap64; omega)]
      exact exact_j1 M m o z up x x' k hM (by omega) e hJ.em hz (by omega) (by omega) (by omega) (by omega)

end Go.Proofs.Ytpnndhbeahajkaa.Pure
