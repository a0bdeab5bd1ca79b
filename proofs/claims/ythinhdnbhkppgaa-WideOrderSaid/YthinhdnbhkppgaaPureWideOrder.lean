/- The call of plumblaw01.WideOrder at any three pairs of words of 64 bits returns true and leaves what lay in memory as it was. No condition. -/
import Derived.Test.YthinhdnbhkppgaaPWideOrderx1
import Derived.Test.YthinhdnbhkppgaaMath
namespace Go.Proofs.Ythinhdnbhkppgaa.Pure
open Go.RowKit Go.Proofs.Ythinhdnbhkppgaa.PWideOrder Go.Proofs.YthinhdnbhkppgaaW.PrintWords Go.Proofs.YthinhdnbhkppgaaW.PrintLast Go.Proofs.YthinhdnbhkppgaaW.PrintMore Go.Proofs.Ythinhdnbhkppgaa.Math

theorem sub_spec (A B C : Nat) (hA : A < 18446744073709551616) (hB : B < 18446744073709551616) (hC : C < 18446744073709551616) :
    wide_Sub.f (A : Int) (B : Int) (C : Int) = some ((((A + 36893488147419103232 - B - C % 2) % 18446744073709551616 : Nat) : Int), (((if A < B + C % 2 then 1 else 0 : Nat)) : Int)) := by
  unfold wide_Sub.f
  simp only [wrapI, andN1 C hC]
  by_cases h : A < B + C % 2
  · rw [if_pos h]
    repeat' split
    all_goals (simp only [Option.some.injEq, Prod.mk.injEq]; omega)
  · rw [if_neg h]
    repeat' split
    all_goals (simp only [Option.some.injEq, Prod.mk.injEq]; omega)

theorem order_u29 : Try.prog.underlying 29 = some (.array 2 22) := by kernel_rfl
theorem order_s22 (w : World) : (sizeOf 22).run Try.prog w = .ok 1 w := by kernel_rfl
/-- Two arrays of two words are compared word by word. -/
theorem order_eq29 (d : Nat) (a0 a1 b0 b1 : Int) (w : World) : (Op.equalIn (d + 1 + 1) 29 (.agg #[.int .u64 a0, .int .u64 a1]) (.agg #[.int .u64 b0, .int .u64 b1])).run Try.prog w = .ok ((a0 == b0) && (a1 == b1)) w := by
  have h0 : (part 22 #[.int .u64 a0, .int .u64 a1] 0).run Try.prog w = .ok (.int .u64 a0) w := by kernel_rfl
  have h1 : (part 22 #[.int .u64 a0, .int .u64 a1] 1).run Try.prog w = .ok (.int .u64 a1) w := by kernel_rfl
  have h2 : (part 22 #[.int .u64 b0, .int .u64 b1] 0).run Try.prog w = .ok (.int .u64 b0) w := by kernel_rfl
  have h3 : (part 22 #[.int .u64 b0, .int .u64 b1] 1).run Try.prog w = .ok (.int .u64 b1) w := by kernel_rfl
  have e1 : ∀ x y : Int, (Op.equalIn (d + 1) 22 (.int .u64 x) (.int .u64 y)).run Try.prog w = .ok (x == y) w := fun x y => by
    unfold Op.equalIn; simp [run_underlying Try.underlying22]
  rw [Op.equalIn]
  simp only [Sem.run_bind, run_underlying order_u29, Result.andThen]
  simp only [order_s22, Std.Legacy.Range.forIn_eq_forIn_range']
  by_cases c0 : a0 = b0
  · subst c0
    by_cases c1 : a1 = b1
    · subst c1
      simp [List.range', h0, h1, e1, Result.andThen]
    · simp [List.range', h0, h1, h2, h3, e1, Result.andThen, c1]
  · simp [List.range', h0, h2, e1, Result.andThen, c0]
set_option maxHeartbeats 8000000 in
set_option maxRecDepth 100000 in
theorem order_walk (a0 a1 b0 b1 c0 c1 ab bc ac d1 k1 d2 k2 : Int) (k : Nat) (w : World) (h0 : wide_Cmp.f k a0 a1 b0 b1 = some ab) (h1 : wide_Cmp.f k b0 b1 c0 c1 = some bc) (h2 : wide_Cmp.f k a0 a1 c0 c1 = some ac)
    (h3 : wide_Sub.f a1 b1 0 = some (d1, k1)) (h4 : wide_Sub.f a0 b0 k1 = some (d2, k2)) (h5 : wide_Cmp.f k b0 b1 a0 a1 = some (-ab)) (h6 : wide_Cmp.f k 0 1 1 0 = some (-1))
    (hbc : bc = -1 ∨ bc = 0 ∨ bc = 1) (hac : ac = -1 ∨ ac = 0 ∨ ac = 1)
    (hab : (ab = -1 ∧ k2 = 1 ∧ ((a0 == b0) && (a1 == b1)) = false) ∨ (ab = 0 ∧ k2 = 0 ∧ ((a0 == b0) && (a1 == b1)) = true) ∨ (ab = 1 ∧ k2 = 0 ∧ ((a0 == b0) && (a1 == b1)) = false))
    (ht1 : ab ≤ 0 → bc ≤ 0 → ac ≤ 0) (ht2 : 0 ≤ ab → 0 ≤ bc → 0 ≤ ac) :
    Calls Try.prog 6 #[.agg #[.int .u64 a0, .int .u64 a1], .agg #[.int .u64 b0, .int .u64 b1], .agg #[.int .u64 c0, .int .u64 c1]] w fun e w' => e = .returned (.bool true) ∧ Below w.heap.size w w' := by
  have H0 := Aside0.mk h0
  have H1 := Aside0.mk h1
  have H2 := Aside0.mk h2
  have H3 := Aside0.mk h3
  have H4 := Aside0.mk h4
  have H5 := Aside0.mk h5
  have H6 := Aside0.mk h6
  clear h0 h1 h2 h3 h4 h5 h6
  rcases hab with ⟨rfl, rfl, hq⟩ | ⟨rfl, rfl, hq⟩ | ⟨rfl, rfl, hq⟩ <;> rcases hbc with rfl | rfl | rfl <;> rcases hac with rfl | rfl | rfl <;> first | (exfalso; simp at ht1 ht2; done) | skip
  all_goals
    have he : ∀ w, (Op.equalIn 10000 29 (.agg #[.int .u64 a0, .int .u64 a1]) (.agg #[.int .u64 b0, .int .u64 b1])).run Try.prog w = .ok ((a0 == b0) && (a1 == b1)) w := fun w => order_eq29 9998 a0 a1 b0 b1 w
    rw [hq] at he
    clear ht1 ht2 hq
    go_enter Try.func6, Try.ntmps6
    go_wp2_with fail
    refine (wide_Cmp.calls _ _ _ _ _ _ _  H0.out).mono ?_
    rintro e0 w0 ⟨rfl, ⟨n0, rfl⟩⟩
    go_wp2_with fail
    refine (wide_Cmp.calls _ _ _ _ _ _ _  H1.out).mono ?_
    rintro e1 w1 ⟨rfl, ⟨n1, rfl⟩⟩
    go_wp2_with fail
    refine (wide_Cmp.calls _ _ _ _ _ _ _  H2.out).mono ?_
    rintro e2 w2 ⟨rfl, ⟨n2, rfl⟩⟩
    go_wp2_with fail
    refine (wide_Sub.calls _ _ _ _ _ _  H3.out).mono ?_
    rintro e3 w3 ⟨rfl, ⟨n3, rfl⟩⟩
    go_wp2_with fail
    refine (wide_Sub.calls _ _ _ _ _ _  H4.out).mono ?_
    rintro e4 w4 ⟨rfl, ⟨n4, rfl⟩⟩
    go_wp2_with fail
    refine (wide_Cmp.calls _ _ _ _ _ _ _  H5.out).mono ?_
    rintro e5 w5 ⟨rfl, ⟨n5, rfl⟩⟩
    go_wp2_with fail
    refine (wide_Cmp.calls _ _ _ _ _ _ _  H6.out).mono ?_
    rintro e6 w6 ⟨rfl, ⟨n6, rfl⟩⟩
    go_wp2
    go_ret
    exact ⟨rfl, by repeat (with_reducible first | exact Below.refl _ _ | refine Below.alloc ?_ (by simp <;> omega) _ | refine pw_below_drewN ?_ _)⟩
theorem cmp_fact (k : Nat) (a b c d : Int) (hk : 0 < k) : ∃ r, wide_Cmp.f k a b c d = some r ∧ ((r = -1 ∧ (a < c ∨ a = c ∧ b < d)) ∨ (r = 0 ∧ a = c ∧ b = d) ∨ (r = 1 ∧ (c < a ∨ a = c ∧ d < b))) := by
  obtain ⟨k, rfl⟩ : ∃ m, k = m + 1 := ⟨k - 1, by omega⟩
  unfold wide_Cmp.f
  simp only [wide_Cmp.j0]
  by_cases h1 : a < c
  · rw [if_pos h1]
    exact ⟨_, rfl, .inl ⟨rfl, .inl h1⟩⟩
  · rw [if_neg h1]
    by_cases h2 : a = c
    · rw [if_pos h2]
      by_cases h3 : b < d
      · rw [if_pos (by simpa using h3)]
        exact ⟨_, rfl, .inl ⟨rfl, .inr ⟨h2, h3⟩⟩⟩
      · rw [if_neg (by simpa using h3), if_pos h2]
        by_cases h4 : b = d
        · rw [if_pos h4]
          exact ⟨_, rfl, .inr (.inl ⟨rfl, h2, h4⟩)⟩
        · rw [if_neg h4]
          exact ⟨_, rfl, .inr (.inr ⟨rfl, .inr ⟨h2, by omega⟩⟩)⟩
    · rw [if_neg h2, if_neg (by simp), if_neg h2]
      exact ⟨_, rfl, .inr (.inr ⟨rfl, .inl (by omega)⟩)⟩
theorem WideOrder (a0 a1 b0 b1 c0 c1 : Int) (ha0 : (Lit.int .u64 a0).wf = true) (ha1 : (Lit.int .u64 a1).wf = true) (hb0 : (Lit.int .u64 b0).wf = true) (hb1 : (Lit.int .u64 b1).wf = true) (_hc0 : (Lit.int .u64 c0).wf = true) (_hc1 : (Lit.int .u64 c1).wf = true) (w : World) :
    Calls Try.prog 6 #[.agg #[.int .u64 a0, .int .u64 a1], .agg #[.int .u64 b0, .int .u64 b1], .agg #[.int .u64 c0, .int .u64 c1]] w fun e w' => e = .returned (.bool true) ∧ Below w.heap.size w w' := by
  obtain ⟨A0, rfl, hA0⟩ := u64_nat ha0
  obtain ⟨A1, rfl, hA1⟩ := u64_nat ha1
  obtain ⟨B0, rfl, hB0⟩ := u64_nat hb0
  obtain ⟨B1, rfl, hB1⟩ := u64_nat hb1
  obtain ⟨k, hk⟩ : ∃ k : Nat, 0 < k := ⟨1, by omega⟩
  obtain ⟨ab, h0, f0⟩ := cmp_fact k (A0 : Int) (A1 : Int) (B0 : Int) (B1 : Int) hk
  obtain ⟨bc, h1, f1⟩ := cmp_fact k (B0 : Int) (B1 : Int) c0 c1 hk
  obtain ⟨ac, h2, f2⟩ := cmp_fact k (A0 : Int) (A1 : Int) c0 c1 hk
  obtain ⟨ba, h5, f5⟩ := cmp_fact k (B0 : Int) (B1 : Int) (A0 : Int) (A1 : Int) hk
  obtain ⟨z, h6, f6⟩ := cmp_fact k 0 1 1 0 hk
  have e5 : ba = -ab := by omega
  have e6 : z = -1 := by omega
  rw [e5] at h5
  rw [e6] at h6
  have h3 := sub_spec A1 B1 0 hA1 hB1 (by omega)
  obtain ⟨b, hb⟩ : ∃ b : Nat, (if A1 < B1 + 0 % 2 then 1 else 0 : Nat) = b := ⟨_, rfl⟩
  have hb' : (A1 < B1 ∧ b = 1) ∨ (¬ A1 < B1 ∧ b = 0) := by
    by_cases h : A1 < B1
    · rw [if_pos (by omega)] at hb; omega
    · rw [if_neg (by omega)] at hb; omega
  rw [hb] at h3
  have h4 := sub_spec A0 B0 b hA0 hB0 (by omega)
  obtain ⟨c, hc⟩ : ∃ b' : Nat, (if A0 < B0 + b % 2 then 1 else 0 : Nat) = b' := ⟨_, rfl⟩
  have hc' : (A0 < B0 + b % 2 ∧ c = 1) ∨ (¬ A0 < B0 + b % 2 ∧ c = 0) := by
    by_cases h : A0 < B0 + b % 2
    · rw [if_pos h] at hc; omega
    · rw [if_neg h] at hc; omega
  rw [hc] at h4
  refine order_walk A0 A1 B0 B1 c0 c1 ab bc ac _ b _ c k w h0 h1 h2 h3 h4 h5 h6 (by omega) (by omega) ?_ (by omega) (by omega)
  rcases f0 with f | f | f
  · refine .inl ⟨f.1, by omega, ?_⟩
    rw [Bool.and_eq_false_iff, beq_eq_false_iff_ne, beq_eq_false_iff_ne]; omega
  · refine .inr (.inl ⟨f.1, by omega, ?_⟩)
    rw [Bool.and_eq_true, beq_iff_eq, beq_iff_eq]; omega
  · refine .inr (.inr ⟨f.1, by omega, ?_⟩)
    rw [Bool.and_eq_false_iff, beq_eq_false_iff_ne, beq_eq_false_iff_ne]; omega

end Go.Proofs.Ythinhdnbhkppgaa.Pure
