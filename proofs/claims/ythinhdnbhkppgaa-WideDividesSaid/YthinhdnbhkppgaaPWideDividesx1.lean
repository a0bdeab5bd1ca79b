/- Go functions as Lean functions and their contracts: each call comes to what the Lean function says; or a law's row out of them. No conditions. Written by this session's wip/hprint.py (the kit's print with contracts and repairs of my own). -/
import Derived.Test.YthinhdnbhkppgaaPWideDividesx0
namespace Go.Proofs.Ythinhdnbhkppgaa.PWideDivides
open Go.RowKit Go.Proofs.YthinhdnbhkppgaaW.PrintWords Go.Proofs.YthinhdnbhkppgaaW.PrintLast Go.Proofs.YthinhdnbhkppgaaW.PrintMore
attribute [local go_sem] max2_int min2_int max_two min_two max_three min_three max_four min_four   -- for this text's walks alone
set_option linter.unusedVariables false
set_option linter.unusedSimpArgs false

/-! ### wide_Add: function 14 -/
def wide_Add.f (a0 : Int) (a1 : Int) (a2 : Int) : Option (Int × Int) := if (IntKind.u64.wrap (a0 + a1)) < a0 then (some (IntKind.u64.wrap ((IntKind.u64.wrap (a0 + a1)) + (Go.bits .and .u64 a2 1)), 1)) else (if (IntKind.u64.wrap ((IntKind.u64.wrap (a0 + a1)) + (Go.bits .and .u64 a2 1))) < (IntKind.u64.wrap (a0 + a1)) then (some (IntKind.u64.wrap ((IntKind.u64.wrap (a0 + a1)) + (Go.bits .and .u64 a2 1)), 1)) else (some (IntKind.u64.wrap ((IntKind.u64.wrap (a0 + a1)) + (Go.bits .and .u64 a2 1)), 0)))
set_option maxHeartbeats 8000000 in
set_option maxRecDepth 100000 in
theorem wide_Add.calls (a0 : Int) (a1 : Int) (a2 : Int) (r1 : Int) (r2 : Int) (w : World) (h : wide_Add.f a0 a1 a2 = some (r1, r2)) :
    Calls Try.prog 14 #[.int .u64 a0, .int .u64 a1, .int .u64 a2] w fun e w' => e = .returned (.tuple #[.int .u64 r1, .int .u64 r2]) ∧ Drawn0 w w' := by
  have H : (if (IntKind.u64.wrap (a0 + a1)) < a0 then (some (IntKind.u64.wrap ((IntKind.u64.wrap (a0 + a1)) + (Go.bits .and .u64 a2 1)), 1)) else (if (IntKind.u64.wrap ((IntKind.u64.wrap (a0 + a1)) + (Go.bits .and .u64 a2 1))) < (IntKind.u64.wrap (a0 + a1)) then (some (IntKind.u64.wrap ((IntKind.u64.wrap (a0 + a1)) + (Go.bits .and .u64 a2 1)), 1)) else (some (IntKind.u64.wrap ((IntKind.u64.wrap (a0 + a1)) + (Go.bits .and .u64 a2 1)), 0)))) = some (r1, r2) := h
  clear h
  by_cases c4 : (IntKind.u64.wrap (a0 + a1)) < a0
  · rw [if_pos c4] at H
    have c4b0 : decide ((IntKind.u64.wrap (a0 + a1)) < a0) = true := decide_eq_true c4
    clear c4
    simp only [Option.some.injEq, Prod.mk.injEq] at H
    obtain ⟨rfl, rfl⟩ := H
    go_enter Try.func14, Try.ntmps14
    go_wp2
    go_ret2
    exact ⟨by first | rfl | (simp; done) | (simp [*]; done), by repeat (first | exact Drawn0.refl _ | apply Drawn0.step)⟩
  · rw [if_neg c4] at H
    have c4b0 : decide ((IntKind.u64.wrap (a0 + a1)) < a0) = false := decide_eq_false c4
    clear c4
    by_cases c5 : (IntKind.u64.wrap ((IntKind.u64.wrap (a0 + a1)) + (Go.bits .and .u64 a2 1))) < (IntKind.u64.wrap (a0 + a1))
    · rw [if_pos c5] at H
      have c5b0 : decide ((IntKind.u64.wrap ((IntKind.u64.wrap (a0 + a1)) + (Go.bits .and .u64 a2 1))) < (IntKind.u64.wrap (a0 + a1))) = true := decide_eq_true c5
      clear c5
      simp only [Option.some.injEq, Prod.mk.injEq] at H
      obtain ⟨rfl, rfl⟩ := H
      go_enter Try.func14, Try.ntmps14
      go_wp2
      go_ret2
      exact ⟨by first | rfl | (simp; done) | (simp [*]; done), by repeat (first | exact Drawn0.refl _ | apply Drawn0.step)⟩
    · rw [if_neg c5] at H
      have c5b0 : decide ((IntKind.u64.wrap ((IntKind.u64.wrap (a0 + a1)) + (Go.bits .and .u64 a2 1))) < (IntKind.u64.wrap (a0 + a1))) = false := decide_eq_false c5
      clear c5
      simp only [Option.some.injEq, Prod.mk.injEq] at H
      obtain ⟨rfl, rfl⟩ := H
      go_enter Try.func14, Try.ntmps14
      go_wp2
      go_ret2
      exact ⟨by first | rfl | (simp; done) | (simp [*]; done), by repeat (first | exact Drawn0.refl _ | apply Drawn0.step)⟩

/-! ### wide_Mul: function 18, by hand -/
def wide_Mul.f (a0 a1 : Int) : Option (Int × Int) := if 0 ≤ a0 ∧ a0 ≤ 18446744073709551615 ∧ 0 ≤ a1 ∧ a1 ≤ 18446744073709551615 then some (a0 * a1 / 18446744073709551616, a0 * a1 % 18446744073709551616) else none
theorem hand_blk_new_at (w : World) (o : Obj) (g : Nat) (hg : g = w.heap.size) : (w.alloc o).heap[g]? = some o := by rw [hg]; exact blk_new w o
theorem hand_wp_world {P : Program} {c : Code} {Q : Exit → Act → World → Prop} {a : Act} {W0 : World} (R : World → Prop) (h0 : R W0) (h : ∀ W, R W → c.wp P Q a W) : c.wp P Q a W0 := h W0 h0

theorem hand_and32 {a : Int} (h0 : 0 ≤ a) (h1 : a ≤ 18446744073709551615) : bits BinOp.and IntKind.u64 a 4294967295 = a % 4294967296 := by
  obtain ⟨n, rfl⟩ := Int.eq_ofNat_of_zero_le h0
  have := u64_and_nat n 4294967295 (by omega) (by omega)
  rw [show ((4294967295 : Nat) : Int) = 4294967295 from rfl] at this
  rw [this, show (4294967295 : Nat) = 2 ^ 32 - 1 from rfl, Nat.and_two_pow_sub_one_eq_mod]
  omega
theorem hand_or32 {a b : Int} (h0 : 0 ≤ a) (h1 : a < 4294967296) (h2 : 0 ≤ b) (h3 : b < 4294967296) : bits BinOp.or IntKind.u64 (a * 4294967296) b = a * 4294967296 + b := by
  obtain ⟨n, rfl⟩ := Int.eq_ofNat_of_zero_le h0
  obtain ⟨m, rfl⟩ := Int.eq_ofNat_of_zero_le h2
  have := u64_or_nat (n * 4294967296) m (by omega) (by omega)
  rw [show (n : Int) * 4294967296 = ((n * 4294967296 : Nat) : Int) from by omega, this]
  have h := Nat.two_pow_add_eq_or_of_lt (i := 32) (b := m) (by omega) n
  rw [show n * 4294967296 = 2 ^ 32 * n from by omega, ← h]
  omega
theorem hand_mulB {x y : Int} (hx0 : 0 ≤ x) (hx1 : x ≤ 4294967295) (hy0 : 0 ≤ y) (hy1 : y ≤ 4294967295) : 0 ≤ x * y ∧ x * y ≤ 18446744065119617025 := by
  refine ⟨Int.mul_nonneg hx0 hy0, ?_⟩
  have h1 : x * y ≤ 4294967295 * y := Int.mul_le_mul_of_nonneg_right hx1 hy0
  omega

set_option maxHeartbeats 1000000 in
set_option maxRecDepth 100000 in
theorem wide_Mul.any (a b : Int) (w : World) (ha0 : 0 ≤ a) (ha1 : a ≤ 18446744073709551615) (hb0 : 0 ≤ b) (hb1 : b ≤ 18446744073709551615) :
    Calls Try.prog 18 #[.int .u64 a, .int .u64 b] w fun e w' => e = .returned (.tuple #[.int .u64 (a * b / 18446744073709551616), .int .u64 (a * b % 18446744073709551616)]) ∧ Below w.heap.size w w' := by
  obtain ⟨x0, hx0⟩ : ∃ x, bits BinOp.and IntKind.u64 a 4294967295 = x := ⟨_, rfl⟩
  obtain ⟨x1, hx1⟩ : ∃ x, a / 4294967296 = x := ⟨_, rfl⟩
  obtain ⟨y0, hy0⟩ : ∃ x, bits BinOp.and IntKind.u64 b 4294967295 = x := ⟨_, rfl⟩
  obtain ⟨y1, hy1⟩ : ∃ x, b / 4294967296 = x := ⟨_, rfl⟩
  have ex0 : a % 4294967296 = x0 := (hand_and32 ha0 ha1).symm.trans hx0
  have ey0 : b % 4294967296 = y0 := (hand_and32 hb0 hb1).symm.trans hy0
  obtain ⟨p00, h00⟩ : ∃ p, x0 * y0 = p := ⟨_, rfl⟩
  obtain ⟨p01, h01⟩ : ∃ p, x0 * y1 = p := ⟨_, rfl⟩
  obtain ⟨p10, h10⟩ : ∃ p, x1 * y0 = p := ⟨_, rfl⟩
  obtain ⟨p11, h11⟩ : ∃ p, x1 * y1 = p := ⟨_, rfl⟩
  have b00 : 0 ≤ p00 ∧ p00 ≤ 18446744065119617025 := h00 ▸ hand_mulB (by omega) (by omega) (by omega) (by omega)
  have b01 : 0 ≤ p01 ∧ p01 ≤ 18446744065119617025 := h01 ▸ hand_mulB (by omega) (by omega) (by omega) (by omega)
  have b10 : 0 ≤ p10 ∧ p10 ≤ 18446744065119617025 := h10 ▸ hand_mulB (by omega) (by omega) (by omega) (by omega)
  have b11 : 0 ≤ p11 ∧ p11 ≤ 18446744065119617025 := h11 ▸ hand_mulB (by omega) (by omega) (by omega) (by omega)
  have hab : a * b = p00 + 4294967296 * p01 + 4294967296 * p10 + 18446744073709551616 * p11 := by
    have e1 : a = x0 + 4294967296 * x1 := by omega
    have e2 : b = y0 + 4294967296 * y1 := by omega
    rw [e1, e2, ← h00, ← h01, ← h10, ← h11, Int.add_mul, Int.mul_add, Int.mul_add, Int.mul_left_comm x0, Int.mul_assoc, Int.mul_assoc, Int.mul_left_comm x1]
    omega
  have HAB := Aside0.mk hab
  clear hab
  obtain ⟨l0, hl0⟩ : ∃ x, bits BinOp.and IntKind.u64 p00 4294967295 = x := ⟨_, rfl⟩
  have el0 : p00 % 4294967296 = l0 := (hand_and32 (by omega) (by omega)).symm.trans hl0
  obtain ⟨c0, hc0⟩ : ∃ x, p00 / 4294967296 = x := ⟨_, rfl⟩
  have bc0 : 0 ≤ c0 ∧ c0 ≤ 4294967295 := by omega
  obtain ⟨s1, hs1⟩ : ∃ x, p01 + c0 = x := ⟨_, rfl⟩
  have bs1 : 0 ≤ s1 ∧ s1 ≤ 18446744073709551615 := by omega
  obtain ⟨l1, hl1⟩ : ∃ x, bits BinOp.and IntKind.u64 s1 4294967295 = x := ⟨_, rfl⟩
  have el1 : s1 % 4294967296 = l1 := (hand_and32 (by omega) (by omega)).symm.trans hl1
  obtain ⟨c1, hc1⟩ : ∃ x, s1 / 4294967296 = x := ⟨_, rfl⟩
  have bc1 : 0 ≤ c1 ∧ c1 ≤ 4294967295 := by omega
  have bl1 : 0 ≤ l1 ∧ l1 ≤ 4294967295 := by omega
  obtain ⟨s2, hs2⟩ : ∃ x, p10 + l1 = x := ⟨_, rfl⟩
  have bs2 : 0 ≤ s2 ∧ s2 ≤ 18446744073709551615 := by omega
  obtain ⟨l2, hl2⟩ : ∃ x, bits BinOp.and IntKind.u64 s2 4294967295 = x := ⟨_, rfl⟩
  have el2 : s2 % 4294967296 = l2 := (hand_and32 (by omega) (by omega)).symm.trans hl2
  obtain ⟨c2, hc2⟩ : ∃ x, s2 / 4294967296 = x := ⟨_, rfl⟩
  have bc2 : 0 ≤ c2 ∧ c2 ≤ 4294967295 := by omega
  obtain ⟨s3, hs3⟩ : ∃ x, p11 + c1 = x := ⟨_, rfl⟩
  have bs3 : 0 ≤ s3 ∧ s3 ≤ 18446744069414584320 := by omega
  obtain ⟨s4, hs4⟩ : ∃ x, s3 + c2 = x := ⟨_, rfl⟩
  have bs4 : 0 ≤ s4 ∧ s4 ≤ 18446744073709551615 := by omega
  obtain ⟨l3, hl3⟩ : ∃ x, bits BinOp.and IntKind.u64 s4 4294967295 = x := ⟨_, rfl⟩
  have el3 : s4 % 4294967296 = l3 := (hand_and32 (by omega) (by omega)).symm.trans hl3
  obtain ⟨c3, hc3⟩ : ∃ x, s4 / 4294967296 = x := ⟨_, rfl⟩
  have bc3 : 0 ≤ c3 ∧ c3 ≤ 4294967295 := by omega
  have bl0 : 0 ≤ l0 ∧ l0 ≤ 4294967295 := by omega
  have bl2 : 0 ≤ l2 ∧ l2 ≤ 4294967295 := by omega
  have bl3 : 0 ≤ l3 ∧ l3 ≤ 4294967295 := by omega
  have fin1 : c3 * 4294967296 + l3 = a * b / 18446744073709551616 := by rw [HAB.out]; omega
  have fin2 : l2 * 4294967296 + l0 = a * b % 18446744073709551616 := by rw [HAB.out]; omega
  have FIN1 := Aside0.mk fin1
  have FIN2 := Aside0.mk fin2
  clear fin1 fin2 HAB ex0 ey0 el0 el1 el2 el3
  have bb0 : bits BinOp.or IntKind.u64 (c3 * 4294967296) l3 = c3 * 4294967296 + l3 := hand_or32 (by omega) (by omega) (by omega) (by omega)
  have bb1 : bits BinOp.or IntKind.u64 (l2 * 4294967296) l0 = l2 * 4294967296 + l0 := hand_or32 (by omega) (by omega) (by omega) (by omega)
  have bq1 := b00.1; have bq2 := b00.2; have bq3 := b01.1; have bq4 := b01.2; have bq5 := b10.1; have bq6 := b10.2; have bq7 := b11.1; have bq8 := b11.2
  go_enter Try.func18, Try.ntmps18
  go_wp2
  refine wp_loop_rounds 3 ?_
  rw [rounds_succ]
  go_wp2
  refine wp_loop_rounds 3 ?_
  rw [rounds_succ]
  go_wp2
  go_quiet (fail)
  go_wp2
  rw [rounds_succ]
  go_wp2
  go_quiet (fail)
  go_wp2
  rw [rounds_succ]
  go_wp2
  rw [rounds_succ]
  go_wp2
  refine wp_loop_rounds 3 ?_
  rw [rounds_succ]
  go_wp2
  go_quiet (fail)
  go_wp2
  rw [rounds_succ]
  go_wp2
  go_quiet (fail)
  go_wp2
  rw [rounds_succ]
  go_wp2
  rw [rounds_succ]
  go_wp2
  refine hand_wp_world (fun W => W.heap[w.heap.size + 1 + 1]? = some (.cells #[.int .u64 l0, .int .u64 l2, .int .u64 l3, .int .u64 c3] 50 (0, 0)) ∧ Below w.heap.size w W) ?_ ?_
  · refine ⟨?_, ?_⟩
    · refine blk_put (cs := #[.int .u64 l0, .int .u64 l2, .int .u64 l3, .int .u64 0]) ?_ 3 _ rfl
      refine blk_put (cs := #[.int .u64 l0, .int .u64 l2, .int .u64 c1, .int .u64 0]) ?_ 2 _ rfl
      refine blk_drewN ?_ _
      refine blk_put (cs := #[.int .u64 l0, .int .u64 l1, .int .u64 c1, .int .u64 0]) ?_ 1 _ rfl
      refine blk_drewN ?_ _
      refine blk_put (cs := #[.int .u64 l0, .int .u64 l1, .int .u64 0, .int .u64 0]) ?_ 2 _ rfl
      refine blk_put (cs := #[.int .u64 l0, .int .u64 0, .int .u64 0, .int .u64 0]) ?_ 1 _ rfl
      refine blk_drewN ?_ _
      refine blk_put (cs := #[.int .u64 0, .int .u64 0, .int .u64 0, .int .u64 0]) ?_ 0 _ rfl
      refine blk_drewN ?_ _
      exact hand_blk_new_at _ _ _ (by simp)
    · repeat (with_reducible first | exact Below.refl _ _ | refine Below.alloc ?_ (by simp <;> omega) _ | refine pw_below_drewN ?_ _ | refine Below.setCell ?_ (by simp <;> omega) _)
  · rintro W ⟨HC, HB⟩
    have q0 := blk_cell HC 0
    have q1 := blk_cell HC 1
    have q2 := blk_cell HC 2
    have q3 := blk_cell HC 3
    clear HC
    simp only [List.getElem?_toArray, List.getElem?_cons_zero, List.getElem?_cons_succ] at q0 q1 q2 q3
    go_region
    go_wp2
    go_ret2
    exact ⟨by rw [← FIN1.out, ← FIN2.out]; rfl, HB.drew⟩
theorem wide_Mul.calls (a0 a1 r1 r2 : Int) (w : World) (h : wide_Mul.f a0 a1 = some (r1, r2)) :
    Calls Try.prog 18 #[.int .u64 a0, .int .u64 a1] w fun e w' => e = .returned (.tuple #[.int .u64 r1, .int .u64 r2]) ∧ Below w.heap.size w w' := by
  unfold wide_Mul.f at h
  split at h
  · rename_i hb
    obtain ⟨h0, h1, h2, h3⟩ := hb
    simp only [Option.some.injEq, Prod.mk.injEq] at h
    obtain ⟨rfl, rfl⟩ := h
    exact wide_Mul.any a0 a1 w h0 h1 h2 h3
  · cases h

/-! ### wide_Len: function 20 -/
def wide_Len.l0 : Nat → Int → Int → Int → Option (Int)
  | 0, _, _, _ => none
  | k + 1, x0, x3, x4 => if x4 > 0 then (if 0 ≤ x4 then (if (shr .u64 x0 x4) = 0 then (wide_Len.l0 k x0 x3 (x4 / 2)) else (wide_Len.l0 k (shr .u64 x0 x4) (wrap64 (x3 + x4)) (x4 / 2))) else (none)) else (some (wrap64 (x3 + (wrap64 (x0)))))
def wide_Len.f (k : Nat) (a0 : Int) : Option (Int) := wide_Len.l0 k a0 0 32
theorem wide_Len.mono_l : ∀ k, (∀ y0 y1 y2, LeO (wide_Len.l0 k y0 y1 y2) (wide_Len.l0 (k + 1) y0 y1 y2))
  | 0 => fun _ _ _ r h => by simp [wide_Len.l0] at h
  | k + 1 => by
    have ih0 := wide_Len.mono_l k
    · intro y0 y1 y2
      unfold wide_Len.l0
      repeat' first
      | (with_reducible exact ih0 _ _ _)
      | (with_reducible exact LeO.refl _)
      | (with_reducible exact LeO.none _)
      | (with_reducible refine LeO.ite ?_ ?_)
      | (with_reducible refine LeO.bind ?_ (fun _ => ?_))
      | exact ih0 _ _ _
      | exact LeO.none _
      | refine LeO.ite ?_ ?_
      | refine LeO.bind ?_ (fun _ => ?_)
theorem wide_Len.mono : ∀ a0 k, LeO (wide_Len.f k a0) (wide_Len.f (k + 1) a0) := by
  intro a0 k
  have ih0 := wide_Len.mono_l k
  unfold wide_Len.f
  repeat' first
      | (with_reducible exact ih0 _ _ _)
      | (with_reducible exact LeO.refl _)
      | (with_reducible exact LeO.none _)
      | (with_reducible refine LeO.ite ?_ ?_)
      | (with_reducible refine LeO.bind ?_ (fun _ => ?_))
      | exact ih0 _ _ _
      | exact LeO.none _
      | refine LeO.ite ?_ ?_
      | refine LeO.bind ?_ (fun _ => ?_)
set_option maxHeartbeats 8000000 in
set_option maxRecDepth 100000 in
theorem wide_Len.calls (k : Nat) (a0 : Int) (r : Int) (w : World) (h : wide_Len.f k a0 = some r) :
    Calls Try.prog 20 #[.int .u64 a0] w fun e w' => e = .returned (.int .i64 r) ∧ Drawn0 w w' := by
  have H : (wide_Len.l0 k a0 0 32) = some r := h
  clear h
  have H' := Aside0.mk H
  clear H
  go_enter Try.func20, Try.ntmps20
  go_wp2
  go_loopg [0, 3, 4] k (fun kq v0 v3 v4 w' => ∃ (x0_1 : Int) (x3_1 : Int) (x4_1 : Int), v0 = .int .u64 x0_1 ∧ v3 = .int .i64 x3_1 ∧ v4 = .int .i64 x4_1 ∧ Aside0 (wide_Len.l0 kq x0_1 x3_1 x4_1 = some r) ∧ Aside0 (kq ≤ k) ∧ Drawn0 w w')
  case atStart => exact ⟨(a0), (0), (32), (by first | rfl | (simp; done) | (simp [*]; done)), (by first | rfl | (simp; done) | (simp [*]; done)), (by first | rfl | (simp; done) | (simp [*]; done)), H', ⟨Nat.le_refl _⟩, by repeat (first | exact Drawn0.refl _ | apply Drawn0.step)⟩
  case round =>
    clear H'
    obtain ⟨x0_1, x3_1, x4_1, rfl, rfl, rfl, HA, HK1, ⟨m1, rfl⟩⟩ := hrel
    cases gk with
    | zero => exact absurd HA.out (by simp [wide_Len.l0])
    | succ k1 =>
      have H := HA.out
      clear HA
      simp only [wide_Len.l0] at H
      by_cases c2 : x4_1 > 0
      · rw [if_pos c2] at H
        have c2b0 : decide (0 < x4_1) = true := decide_eq_true c2
        clear c2
        by_cases c3 : 0 ≤ x4_1
        · rw [if_pos c3] at H
          have c3b0 := eq_true c3
          have c3b1 : decide (0 ≤ x4_1) = true := decide_eq_true c3
          clear c3
          obtain ⟨ji4, hji4⟩ : ∃ j_ : Int, (shr .u64 x0_1 x4_1) = j_ := ⟨_, rfl⟩
          replace H : (if (ji4) = 0 then (wide_Len.l0 k1 x0_1 x3_1 (x4_1 / 2)) else (wide_Len.l0 k1 ji4 (wrap64 (x3_1 + x4_1)) (x4_1 / 2))) = some r := by first | (rw [hji4] at H; exact H) | (simp only [hji4] at H ⊢; exact H)
          have hji4_ : (x0_1 / 2 ^ min x4_1.toNat 64) = ji4 := hji4
          have hji4z : x4_1 ≤ 64 → (x0_1 / 2 ^ x4_1.toNat) = ji4 := shr_small hji4
          by_cases c5 : (ji4) = 0
          · rw [if_pos c5] at H
            have c5b0 : ((ji4) == 0) = true := beq_iff_eq.mpr c5
            have c5b1 : ((ji4) != 0) = false := bne_eq_false_iff_eq.mpr c5
            clear c5
            have H' := Aside0.mk H
            clear H
            go_wp2
            go_roundg k1
            case measure => have := HK1.out; omega
            case rel => exact ⟨(x0_1), (x3_1), (x4_1 / 2), (by first | rfl | (simp; done) | (simp [*]; done)), (by first | rfl | (simp; done) | (simp [*]; done)), (by first | rfl | (simp; done) | (simp [*]; done)), H', ⟨by have := HK1.out; omega⟩, by repeat (first | exact Drawn0.refl _ | apply Drawn0.step)⟩
          · rw [if_neg c5] at H
            have c5b0 : ((ji4) == 0) = false := beq_eq_false_iff_ne.mpr c5
            have c5b1 : ((ji4) != 0) = true := bne_iff_ne.mpr c5
            have c6b0 := eq_true (of_decide_eq_true (by first | (with_reducible assumption) | assumption) : 0 ≤ x4_1)
            have H' := Aside0.mk H
            clear H
            go_wp2
            go_roundg k1
            case measure => have := HK1.out; omega
            case rel => exact ⟨(ji4), (wrap64 (x3_1 + x4_1)), (x4_1 / 2), (by first | rfl | (simp; done) | (simp only [← hji4] <;> (first | rfl | simp)) | (simp [*]; done)), (by first | rfl | (simp; done) | (simp [*]; done)), (by first | rfl | (simp; done) | (simp [*]; done)), H', ⟨by have := HK1.out; omega⟩, by repeat (first | exact Drawn0.refl _ | apply Drawn0.step)⟩
        · rw [if_neg c3] at H
          exact absurd H (by simp)
      · rw [if_neg c2] at H
        have c2b0 : decide (0 < x4_1) = false := decide_eq_false c2
        clear c2
        obtain rfl := Option.some.inj H
        go_wp2
        go_ret
        exact ⟨by first | rfl | (simp; done) | (simp [*]; done), by repeat (first | exact Drawn0.refl _ | apply Drawn0.step)⟩

/-! ### wide_Div: function 25, by hand -/
open Go.Proofs.Ythinhdnbhkppgaa.Math
theorem divh_gen_world {K : World → Prop} {W0 : World} (R : World → Prop) (h0 : R W0) (h : ∀ W, R W → K W) : K W0 := h W0 h0
theorem divh_or32 {a b : Int} (h0 : 0 ≤ a) (h1 : a < 4294967296) (h2 : 0 ≤ b) (h3 : b < 4294967296) : bits BinOp.or IntKind.u64 (a * 4294967296) b = a * 4294967296 + b := by
  obtain ⟨n, rfl⟩ := Int.eq_ofNat_of_zero_le h0
  obtain ⟨m, rfl⟩ := Int.eq_ofNat_of_zero_le h2
  have := u64_or_nat (n * 4294967296) m (by omega) (by omega)
  rw [show (n : Int) * 4294967296 = ((n * 4294967296 : Nat) : Int) from by omega, this]
  have h := Nat.two_pow_add_eq_or_of_lt (i := 32) (b := m) (by omega) n
  rw [show n * 4294967296 = 2 ^ 32 * n from by omega, ← h]
  omega

def halfOf : Nat → Nat
  | 0 => 0
  | j + 1 => 2 ^ j
theorem halfOf_half (j : Nat) : ((halfOf (j + 1) : Nat) : Int) / 2 = ((halfOf j : Nat) : Int) := by
  cases j with
  | zero => simp [halfOf]
  | succ j => simp only [halfOf, Nat.pow_succ]; omega
theorem len_l0 (j : Nat) : ∀ (k x m : Nat), j < k → x < 2 ^ (2 ^ j) → j ≤ 6 → m + 2 ^ j ≤ 64 →
    ∃ L : Nat, wide_Len.l0 k (x : Int) (m : Int) ((halfOf j : Nat) : Int) = some (((m + L : Nat)) : Int) ∧ IsLen x L ∧ L ≤ 2 ^ j := by
  induction j with
  | zero =>
    intro k x m hk hx hj hm
    obtain ⟨k, rfl⟩ : ∃ m, k = m + 1 := ⟨k - 1, by omega⟩
    have hx2 : x < 2 := by simpa using hx
    refine ⟨x, ?_, ?_, by simp; omega⟩
    · simp only [wide_Len.l0]
      rw [show ((halfOf 0 : Nat) : Int) = 0 from rfl, if_neg (by omega)]
      simp only [Option.some.injEq]
      unfold wrap64
      have : m ≤ 63 := by simpa using hm
      omega
    · rcases Nat.lt_or_ge x 1 with h | h
      · obtain rfl : x = 0 := by omega
        exact IsLen.zero
      · obtain rfl : x = 1 := by omega
        exact ⟨by simp, fun _ => by simp⟩
  | succ j ih =>
    intro k x m hk hx hj hm
    obtain ⟨k, rfl⟩ : ∃ m, k = m + 1 := ⟨k - 1, by omega⟩
    have hp : 0 < 2 ^ j := Nat.two_pow_pos j
    have h32 : 2 ^ j ≤ 2 ^ 5 := Nat.pow_le_pow_right (by omega) (by omega)
    have hs : (2 : Nat) ^ (j + 1) = 2 ^ j + 2 ^ j := by rw [Nat.pow_succ]; omega
    rw [hs] at hm
    simp only [wide_Len.l0]
    rw [halfOf_half j, show halfOf (j + 1) = 2 ^ j from rfl]
    rw [if_pos (by omega), if_pos (by omega), shrN x (2 ^ j) (by omega)]
    obtain ⟨y, hy⟩ : ∃ y, x / 2 ^ (2 ^ j) = y := ⟨_, rfl⟩
    rw [hy]
    have hP : 0 < 2 ^ (2 ^ j) := Nat.two_pow_pos _
    by_cases h0 : y = 0
    · rw [if_pos (by omega)]
      obtain ⟨L, h1, h2, h3⟩ := ih k x m (by omega) (by rcases Nat.div_eq_zero_iff.1 (hy.trans h0) with h | h <;> omega) (by omega) (by omega)
      exact ⟨L, h1, h2, by rw [hs]; omega⟩
    · rw [if_neg (by omega), show wrap64 ((m : Int) + ((2 ^ j : Nat) : Int)) = ((m + 2 ^ j : Nat) : Int) from by unfold wrap64; omega]
      obtain ⟨L, h1, h2, h3⟩ := ih k y (m + 2 ^ j) (by omega) (by
        rw [← hy, Nat.div_lt_iff_lt_mul hP, ← Nat.pow_add, ← hs]; exact hx) (by omega) (by omega)
      exact ⟨L + 2 ^ j, by rw [h1]; congr 2; omega, IsLen.shift hy (by omega) h2, by rw [hs]; omega⟩
theorem len_spec (x k : Nat) (hx : x < 18446744073709551616) (hk : 6 < k) : ∃ L : Nat, wide_Len.f k (x : Int) = some (L : Int) ∧ IsLen x L ∧ L ≤ 64 := by
  obtain ⟨L, h1, h2, h3⟩ := len_l0 6 k x 0 hk (by simpa using hx) (by omega) (by simp)
  exact ⟨L, by rw [Nat.zero_add] at h1; exact h1, h2, by simpa using h3⟩

theorem divh_mulB {x y : Int} (hx0 : 0 ≤ x) (hx1 : x ≤ 4294967295) (hy0 : 0 ≤ y) (hy1 : y ≤ 4294967295) : 0 ≤ x * y ∧ x * y ≤ 18446744065119617025 := by
  refine ⟨Int.mul_nonneg hx0 hy0, ?_⟩
  have h1 : x * y ≤ 4294967295 * y := Int.mul_le_mul_of_nonneg_right hx1 hy0
  omega
/-- One digit of 32 bits of a quotient, by a divisor whose highest bit is 1. -/
structure Digit (B v0 v1 r l D : Int) : Prop where
  b0 : 9223372036854775808 ≤ B
  b1 : B ≤ 18446744073709551615
  eB : B = v1 * 4294967296 + v0
  h0 : 0 ≤ v0 ∧ v0 ≤ 4294967295
  h1 : 2147483648 ≤ v1 ∧ v1 ≤ 4294967295
  r0 : 0 ≤ r
  r1 : r < B
  l0 : 0 ≤ l
  l1 : l ≤ 4294967295
  d : (r * 4294967296 + l) / B = D
namespace Digit
variable {B v0 v1 r l D d t : Int}
theorem top (h : Digit B v0 v1 r l D) : 0 ≤ D ∧ D ≤ 4294967295 := by
  obtain ⟨b0, b1, eB, h0, h1, r0, r1, l0, l1, hd⟩ := h
  have hp : 0 < B := by omega
  rw [← hd]
  refine ⟨Int.ediv_nonneg (by omega) (by omega), ?_⟩
  have : (r * 4294967296 + l) / B < 4294967296 := (Int.ediv_lt_iff_lt_mul hp).2 (by omega)
  omega
theorem start (h : Digit B v0 v1 r l D) : r / v1 * v1 + r % v1 = r ∧ D ≤ r / v1 ∧ r / v1 ≤ 4294967297 ∧ 0 ≤ r % v1 ∧ r % v1 ≤ 4294967294 := by
  have ht := h.top
  obtain ⟨b0, b1, eB, h0, h1, r0, r1, l0, l1, hd⟩ := h
  have hp : 0 < v1 := by omega
  have e := Int.mul_ediv_add_emod r v1
  have m0 := Int.emod_nonneg r (b := v1) (by omega)
  have m1 := Int.emod_lt_of_pos r hp
  rw [Int.mul_comm] at e
  refine ⟨e, ?_, ?_, m0, by omega⟩
  · have hD : D * B ≤ r * 4294967296 + l := by rw [← hd]; exact Int.ediv_mul_le _ (by omega)
    rw [eB, Int.mul_add] at hD
    have h2 : 0 ≤ D * v0 := Int.mul_nonneg ht.1 h0.1
    refine (Int.le_ediv_iff_mul_le hp).2 ?_
    have h3 : D * (v1 * 4294967296) = (D * v1) * 4294967296 := by rw [Int.mul_assoc]
    omega
  · have : r / v1 < 4294967298 := (Int.ediv_lt_iff_lt_mul hp).2 (by omega)
    omega
theorem dB (h : Digit B v0 v1 r l D) (e : d * v1 + t = r) : d * B = (r - t) * 4294967296 + d * v0 := by
  rw [h.eB, Int.mul_add, ← Int.mul_assoc]
  have : d * v1 = r - t := by omega
  rw [this]
theorem more (h : Digit B v0 v1 r l D) (e : d * v1 + t = r) (hg : 4294967295 < d ∨ t * 4294967296 + l < d * v0) : D ≤ d - 1 := by
  have ht := h.top
  rcases hg with hg | hg
  · omega
  · have hb := h.dB e
    have hp : 0 < B := by have := h.b0; omega
    have : D < d := by
      rw [← h.d]
      exact (Int.ediv_lt_iff_lt_mul hp).2 (by omega)
    omega
theorem less (h : Digit B v0 v1 r l D) (e : d * v1 + t = r) (hD : D ≤ d) (hg : d * v0 ≤ t * 4294967296 + l) : d = D := by
  have hb := h.dB e
  have hp : 0 < B := by have := h.b0; omega
  have : d ≤ D := by
    rw [← h.d]
    exact (Int.le_ediv_iff_mul_le hp).2 (by omega)
  omega
theorem rest (h : Digit B v0 v1 r l D) : IntKind.u64.wrap (IntKind.u64.wrap (IntKind.u64.wrap (r * 4294967296) + l) - IntKind.u64.wrap (D * B)) = r * 4294967296 + l - D * B := by
  have hp : 0 < B := by have := h.b0; omega
  have e := Int.mul_ediv_add_emod (r * 4294967296 + l) B
  have m0 := Int.emod_nonneg (r * 4294967296 + l) (b := B) (by omega)
  have m1 := Int.emod_lt_of_pos (r * 4294967296 + l) hp
  rw [h.d, Int.mul_comm] at e
  have b1 := h.b1
  generalize D * B = p at *
  rw [wrapI, wrapI, wrapI, wrapI]
  omega
theorem quot {q : Int} (hq : 0 ≤ q ∧ q ≤ 4294967295) (hD : 0 ≤ D ∧ D ≤ 4294967295) : bits .or .u64 (q * 4294967296) D = q * 4294967296 + D := divh_or32 hq.1 (by omega) hD.1 (by omega)
theorem broke (h : Digit B v0 v1 r l D) (e : d * v1 + t = r) (hD : D ≤ d) (h1 : d ≤ 4294967296) (ht : 4294967295 < t) : d = D := by
  refine h.less e hD ?_
  have h0 := h.h0
  have hl := h.l0
  have h2 : d * v0 ≤ 4294967296 * 4294967295 := by
    rcases Int.le_total 0 d with hd | hd
    · exact Int.le_trans (Int.mul_le_mul_of_nonneg_right h1 h0.1) (Int.mul_le_mul_of_nonneg_left h0.2 (by omega))
    · exact Int.le_trans (Int.mul_nonpos_of_nonpos_of_nonneg hd h0.1) (by omega)
  omega
end Digit

set_option maxHeartbeats 1000000 in
set_option maxRecDepth 100000 in
theorem div_walk (hi lo b B S v0 v1 : Int) (n : Nat) (lw rs qs ds : Nat → Int) (w : World) (hn : n ≤ 63) (c0 : (b == 0) = false) (c1 : hi < b)
   (hlen : ∀ w, Calls Try.prog 20 #[.int .u64 b] w fun e w' => e = .returned (.int .i64 (64 - n)) ∧ Drawn0 w w')
   (hB : IntKind.u64.wrap (b * 2 ^ n) = B) (hR : bits .or .u64 (IntKind.u64.wrap (hi * 2 ^ n)) (lo / 2 ^ (64 - n)) = rs 0) (hS : IntKind.u64.wrap (lo * 2 ^ n) = S)
   (hl0 : S / 4294967296 = lw 0) (hl1 : bits .and .u64 S 4294967295 = lw 1) (hv0 : bits .and .u64 B 4294967295 = v0) (hv1 : B / 4294967296 = v1)
   (hdig : ∀ k, k < 2 → Digit B v0 v1 (rs k) (lw k) (ds k)) (hrs : ∀ k, rs (k + 1) = rs k * 4294967296 + lw k - ds k * B) (hqs : ∀ k, qs (k + 1) = qs k * 4294967296 + ds k) (hq0 : qs 0 = 0) :
    Calls Try.prog 25 #[.int .u64 hi, .int .u64 lo, .int .u64 b] w fun e w' => e = .returned (.tuple #[.int .u64 (qs 2), .int .u64 (rs 2 / 2 ^ n), .int .i64 0]) ∧ Below w.heap.size w w' := by
  have H := Aside0.mk hlen
  have HD := Aside0.mk hdig
  have HR := Aside0.mk hrs
  have HQ := Aside0.mk hqs
  have HQ0 := Aside0.mk hq0
  clear hlen hdig hrs hqs hq0
  have hm : min n 64 = n := Nat.min_eq_left (by omega)
  have hm' : min (64 - n) 64 = 64 - n := Nat.min_eq_left (by omega)
  have e1 : 64 - (64 - n) = n := by omega
  have e2 : 64 - (64 - (n : Int)) = (n : Int) := by omega
  go_enter Try.func25, Try.ntmps25
  go_wp2_with (go_at_call 20; refine (H.out _).mono ?_; rintro e w' ⟨rfl, hdr⟩)
  have HDR := Aside0.mk hdr.below
  clear hdr
  go_quiet (fail)
  refine divh_gen_world (fun W => Below w.heap.size w W) (pw_below_drewN HDR.out _) ?_
  intro W HB0
  have HB := Aside0.mk HB0
  clear HB0
  go_wp2
  go_region
  go_wp2
  refine divh_gen_world (fun V => V.heap[W.heap.size]? = some (.cells #[.int .u64 (lw 0), .int .u64 (lw 1)] 29 (0, 0)) ∧ Below w.heap.size w V) ⟨blk_drew (blk_new _ _), (HB.out.alloc HB.out.size _).drew⟩ ?_
  obtain ⟨g, hg⟩ : ∃ g, W.heap.size = g := ⟨_, rfl⟩
  rw [hg]
  clear HB hS hl0 hl1 hR c0 c1 hB e1 e2 hm' hg
  rintro V ⟨hblk, HB0⟩
  have HC := Aside0.mk hblk
  have HB := Aside0.mk HB0
  clear hblk HB0
  go_loop [10, 12, 44] (fun r q i => ∃ k : Nat, k ≤ 2 ∧ r = .int .u64 (rs k) ∧ q = .int .u64 (qs k) ∧ i = .int .i64 k) (fun _ _ i => 2 - (intOf i).toNat)
  case atStart => exact ⟨0, by omega, rfl, by rw [HQ0.out], rfl⟩
  case round =>
    obtain ⟨k, hk, rfl, rfl, rfl⟩ := hrel
    by_cases hlt : k < 2
    · have hd := HD.out k hlt
      have hcell : V.cell? ⟨g, k, none⟩ = some (.int .u64 (lw k)) := by
        rw [blk_cell HC.out]
        rcases (show k = 0 ∨ k = 1 by omega) with h | h <;> subst h <;> rfl
      have hnext := HR.out k
      have hnextq := HQ.out k
      obtain ⟨r, hr⟩ : ∃ r, rs k = r := ⟨_, rfl⟩
      obtain ⟨l, hl⟩ : ∃ l, lw k = l := ⟨_, rfl⟩
      obtain ⟨D, hDn⟩ : ∃ D, ds k = D := ⟨_, rfl⟩
      rw [hr, hl, hDn] at hd hnext
      rw [hDn] at hnextq
      rw [hr]
      rw [hl] at hcell
      have hNR := Aside0.mk hnext
      have hNQ := Aside0.mk hnextq
      have hDD := Aside0.mk hd
      clear hnext hnextq hr hl hDn
      have hs := hd.start
      have r0 := hd.r0
      have r1 : r ≤ 18446744073709551615 := by have := hd.r1; have := hd.b1; omega
      have v10 := hd.h1.1
      have v11 := hd.h1.2
      have v1z : ¬ v1 = 0 := by omega
      have l0 := hd.l0
      have l1 := hd.l1
      have v00 := hd.h0.1
      have v01 := hd.h0.2
      have HDe := hd
      obtain ⟨d0, hd0⟩ : ∃ d, r / v1 = d := ⟨_, rfl⟩
      obtain ⟨t0, ht0⟩ : ∃ d, r % v1 = d := ⟨_, rfl⟩
      rw [hd0, ht0] at hs
      obtain ⟨s1, s2, s3, s4, s5⟩ := hs
      have S1 := Aside0.mk s1
      clear s1
      have hq32 : 0 ≤ qs k ∧ qs k ≤ 4294967295 := by
        have h0 := HQ0.out
        have h1 := HQ.out 0
        have h2 := (HD.out 0 (by omega)).top
        rcases (show k = 0 ∨ k = 1 by omega) with h | h <;> subst h
        · omega
        · rw [h1, h0]; omega
      go_wp2
      go_loop [14, 15] (fun d t => ∃ d' t' : Int, d = .int .u64 d' ∧ t = .int .u64 t' ∧ Aside0 (d' * v1 + t' = r) ∧ D ≤ d' ∧ d' ≤ 4294967297 ∧ 0 ≤ t' ∧ t' ≤ 4294967295) (fun d _ => (intOf d).toNat)
      case atStart => exact ⟨d0, t0, rfl, rfl, S1, s2, s3, s4, by omega⟩
      case round =>
        obtain ⟨d, t, rfl, rfl, hE, q1, q2, q3, q4⟩ := hrel
        have hD0 := HDe.top
        have stepE : (d - 1) * v1 + (t + v1) = r := by rw [Int.sub_mul]; have := hE.out; omega
        have SE := Aside0.mk stepE
        clear stepE
        have hor : bits BinOp.or IntKind.u64 (t * 4294967296) l = t * 4294967296 + l := divh_or32 q3 (by omega) l0 (by omega)
        obtain ⟨p, hp⟩ : ∃ p, d * v0 = p := ⟨_, rfl⟩
        by_cases g1 : 4294967295 < d ∨ t * 4294967296 + l < p
        · have hmore := HDe.more hE.out (by rw [hp]; exact g1)
          by_cases g2 : 4294967295 < t + v1
          · obtain rfl : d - 1 = D := HDe.broke SE.out hmore (by omega) g2
            have hfin := HDe.rest
            have hfq := Digit.quot hq32 hD0
            by_cases g3 : 4294967295 < d
            · go_wp2
              go_round
              case rel => exact ⟨k + 1, by omega, by rw [hNR.out], by rw [hNQ.out], rfl⟩
              case measure => simp [intOf]; omega
            · have g4 : t * 4294967296 + l < p := by omega
              have hpb : p ≤ 18446744065119617025 := hp ▸ (divh_mulB (by omega) (by omega) v00 v01).2
              go_wp2
              go_round
              case rel => exact ⟨k + 1, by omega, by rw [hNR.out], by rw [hNQ.out], rfl⟩
              case measure => simp [intOf]; omega
          · by_cases g3 : 4294967295 < d
            · go_wp2
              go_round
              case rel => exact ⟨d - 1, t + v1, rfl, rfl, SE, by omega, by omega, by omega, by omega⟩
              case measure => simp [intOf]; omega
            · have g4 : t * 4294967296 + l < p := by omega
              have hpb : p ≤ 18446744065119617025 := hp ▸ (divh_mulB (by omega) (by omega) v00 v01).2
              go_wp2
              go_round
              case rel => exact ⟨d - 1, t + v1, rfl, rfl, SE, by omega, by omega, by omega, by omega⟩
              case measure => simp [intOf]; omega
        · obtain rfl : d = D := HDe.less hE.out q1 (by omega)
          have hfin := HDe.rest
          have hfq := Digit.quot hq32 hD0
          have g3 : d ≤ 4294967295 := by omega
          have g4 : p ≤ t * 4294967296 + l := by omega
          have g5 : decide (t * 4294967296 + l < p) = false := by simp; omega
          have g6 : decide (4294967295 < d) = false := by simp; omega
          clear g1
          have hp0 : 0 ≤ p := hp ▸ (divh_mulB (by omega) (by omega) v00 v01).1
          have hpb : p ≤ 18446744065119617025 := hp ▸ (divh_mulB (by omega) (by omega) v00 v01).2
          go_wp2
          go_round
          case rel => exact ⟨k + 1, by omega, by rw [hNR.out], by rw [hNQ.out], rfl⟩
          case measure => simp [intOf]; omega
    · obtain rfl : k = 2 := by omega
      go_wp2
      go_quiet (fail)
      go_wp2
      go_ret3
      exact ⟨rfl, pw_below_drewN HB.out _⟩

def dRest (B R0 : Int) (lw : Nat → Int) : Nat → Int
  | 0 => R0
  | k + 1 => dRest B R0 lw k * 4294967296 + lw k - (dRest B R0 lw k * 4294967296 + lw k) / B * B
def dQuot (B R0 : Int) (lw : Nat → Int) : Nat → Int
  | 0 => 0
  | k + 1 => dQuot B R0 lw k * 4294967296 + (dRest B R0 lw k * 4294967296 + lw k) / B
theorem rest_bd (B N : Int) (h : 0 < B) : 0 ≤ N - N / B * B ∧ N - N / B * B < B := by
  have e := Int.mul_ediv_add_emod N B
  have m0 := Int.emod_nonneg N (b := B) (by omega)
  have m1 := Int.emod_lt_of_pos N h
  rw [Int.mul_comm] at e
  omega
theorem pow_n64 (n : Nat) (h : n ≤ 64) : (2 : Nat) ^ (64 - n) * 2 ^ n = 18446744073709551616 := by
  rw [← Nat.pow_add, show 64 - n + n = 64 from by omega]
set_option maxHeartbeats 1000000 in
theorem div_main (hi lo b : Nat) (w : World) (h0 : 0 < b) (hb : b < 18446744073709551616) (hlo : lo < 18446744073709551616) (hhi : hi < b) :
    Calls Try.prog 25 #[.int .u64 hi, .int .u64 lo, .int .u64 b] w fun e w' => e = .returned (.tuple #[.int .u64 (((hi * 18446744073709551616 + lo) / b : Nat) : Int), .int .u64 (((hi * 18446744073709551616 + lo) % b : Nat) : Int), .int .i64 0]) ∧ Below w.heap.size w w' := by
  obtain ⟨L, hf, hL, hL64⟩ := len_spec b 7 hb (by omega)
  have hL0 : 0 < L := by
    rcases Nat.eq_zero_or_pos L with h' | h'
    · subst h'; have := hL.1; simp at this; omega
    · exact h'
  obtain ⟨n, hn⟩ : ∃ n, 64 - L = n := ⟨_, rfl⟩
  obtain rfl : L = 64 - n := by omega
  have hn63 : n ≤ 63 := by omega
  have hp := Nat.two_pow_pos n
  have hpn := pow_n64 n (by omega)
  have hq := Nat.two_pow_pos (64 - n)
  -- the divisor, moved
  have B0 : 9223372036854775808 ≤ b * 2 ^ n := by
    have := Nat.mul_le_mul_right (2 ^ n) (hL.2 (by omega))
    rw [← Nat.pow_add, show 64 - n - 1 + n = 63 from by omega] at this
    exact this
  have B1 : b * 2 ^ n < 18446744073709551616 := by
    have := Nat.mul_lt_mul_of_pos_right hL.1 hp
    rw [hpn] at this
    exact this
  -- the dividend, moved
  have hloq : lo / 2 ^ (64 - n) < 2 ^ n := by
    rw [Nat.div_lt_iff_lt_mul hq, Nat.mul_comm, hpn]; exact hlo
  have hlom : lo * 2 ^ n = lo / 2 ^ (64 - n) * 18446744073709551616 + lo * 2 ^ n % 18446744073709551616 := by
    have e : lo * 2 ^ n / 18446744073709551616 = lo / 2 ^ (64 - n) := by rw [← hpn]; exact Nat.mul_div_mul_right _ _ hp
    rw [← e]; omega
  obtain ⟨B, eB⟩ : ∃ B, b * 2 ^ n = B := ⟨_, rfl⟩
  obtain ⟨S, eS⟩ : ∃ S, lo * 2 ^ n % 18446744073709551616 = S := ⟨_, rfl⟩
  obtain ⟨R, eR⟩ : ∃ R, lo / 2 ^ (64 - n) + 2 ^ n * hi = R := ⟨_, rfl⟩
  obtain ⟨U, eU⟩ : ∃ U, (hi * 18446744073709551616 + lo) * 2 ^ n = U := ⟨_, rfl⟩
  have hU : U = R * 18446744073709551616 + S := by
    rw [← eU, Nat.add_mul, hlom, ← eR, eS, Nat.add_mul, Nat.mul_comm (2 ^ n), Nat.mul_right_comm]; omega
  have hRB : R < B := by
    have h1 : hi * 18446744073709551616 + lo < b * 18446744073709551616 := by omega
    have h2 := Nat.mul_lt_mul_of_pos_right h1 hp
    rw [eU, Nat.mul_right_comm, eB, hU] at h2
    omega
  have hS : S < 18446744073709551616 := by omega
  rw [eB] at B0 B1
  have hdiv : U / B = (hi * 18446744073709551616 + lo) / b := by rw [← eU, ← eB]; exact Nat.mul_div_mul_right _ _ hp
  have hmod : U % B = (hi * 18446744073709551616 + lo) % b * 2 ^ n := by rw [← eU, ← eB, Nat.mul_mod_mul_right]
  obtain ⟨lw, hlw⟩ : ∃ lw : Nat → Int, lw = fun k => if k = 0 then ((S / 4294967296 : Nat) : Int) else ((S % 4294967296 : Nat) : Int) := ⟨_, rfl⟩
  have lw0 : lw 0 = ((S / 4294967296 : Nat) : Int) := by rw [hlw]; rfl
  have lw1 : lw 1 = ((S % 4294967296 : Nat) : Int) := by rw [hlw]; rfl
  clear hlw
  have dig : ∀ (k : Nat) (r : Int), k < 2 → 0 ≤ r → r < (B : Int) → Digit (B : Int) ((B % 4294967296 : Nat) : Int) ((B / 4294967296 : Nat) : Int) r (lw k) ((r * 4294967296 + lw k) / (B : Int)) := by
    intro k r hk r0 r1
    rcases (show k = 0 ∨ k = 1 by omega) with h | h <;> subst h
    · exact ⟨by omega, by omega, by omega, by omega, by omega, r0, r1, by omega, by omega, rfl⟩
    · exact ⟨by omega, by omega, by omega, by omega, by omega, r0, r1, by omega, by omega, rfl⟩
  have b1 := rest_bd (B : Int) ((R : Int) * 4294967296 + lw 0) (by omega)
  have hW := div_walk (hi : Int) (lo : Int) (b : Int) (B : Int) (S : Int) ((B % 4294967296 : Nat) : Int) ((B / 4294967296 : Nat) : Int) n lw (dRest B R lw) (dQuot B R lw) (fun k => (dRest B R lw k * 4294967296 + lw k) / B) w hn63
    (by simp; omega) (by omega)
    (fun w => (wide_Len.calls 7 (b : Int) _ w hf).mono fun e w' h => ⟨by rw [h.1]; congr 2; omega, h.2⟩)
    (by rw [show ((b : Int) * 2 ^ n) = ((b * 2 ^ n : Nat) : Int) from by simp, eB, wrapN _ B1])
    (by
      have h1 : hi * 2 ^ n < 18446744073709551616 := by
        have := Nat.mul_lt_mul_of_pos_right hhi hp
        omega
      rw [show ((hi : Int) * 2 ^ n) = ((hi * 2 ^ n : Nat) : Int) from by simp, wrapN _ h1, show ((lo : Int) / 2 ^ (64 - n)) = ((lo / 2 ^ (64 - n) : Nat) : Int) from by simp, orN_add' _ _ _ hloq (by omega), eR]; rfl)
    (by rw [show ((lo : Int) * 2 ^ n) = ((lo * 2 ^ n : Nat) : Int) from by simp, wrapM, eS])
    (by rw [lw0]; omega) (by rw [lw1, and32 (by omega) (by omega)]; omega) (by rw [and32 (by omega) (by omega)]; omega) (by omega)
    (fun k hk => by
      refine dig k _ hk ?_ ?_
      · rcases (show k = 0 ∨ k = 1 by omega) with h | h <;> subst h
        · exact Int.natCast_nonneg R
        · exact b1.1
      · rcases (show k = 0 ∨ k = 1 by omega) with h | h <;> subst h
        · show (R : Int) < B
          omega
        · exact b1.2)
    (fun _ => rfl) (fun _ => rfl) rfl
  have e2 : dQuot B R lw 2 = (((hi * 18446744073709551616 + lo) / b : Nat) : Int) ∧ dRest B R lw 2 = (((hi * 18446744073709551616 + lo) % b * 2 ^ n : Nat) : Int) := by
    rw [← hdiv, ← hmod]
    obtain ⟨D0, hD0⟩ : ∃ D, ((R : Int) * 4294967296 + lw 0) / B = D := ⟨_, rfl⟩
    obtain ⟨r1, hr1⟩ : ∃ r, (R : Int) * 4294967296 + lw 0 - D0 * B = r := ⟨_, rfl⟩
    obtain ⟨D1, hD1⟩ : ∃ D, (r1 * 4294967296 + lw 1) / B = D := ⟨_, rfl⟩
    obtain ⟨r2, hr2⟩ : ∃ r, r1 * 4294967296 + lw 1 - D1 * B = r := ⟨_, rfl⟩
    have b2 := rest_bd (B : Int) (r1 * 4294967296 + lw 1) (by omega)
    rw [hD1, hr2] at b2
    have q2 : dQuot B R lw 2 = D0 * 4294967296 + D1 := by
      show (0 * 4294967296 + ((R : Int) * 4294967296 + lw 0) / B) * 4294967296 + (((R : Int) * 4294967296 + lw 0 - ((R : Int) * 4294967296 + lw 0) / B * B) * 4294967296 + lw 1) / B = _
      rw [hD0, hr1, hD1]; omega
    have r2' : dRest B R lw 2 = r2 := by
      show ((R : Int) * 4294967296 + lw 0 - ((R : Int) * 4294967296 + lw 0) / B * B) * 4294967296 + lw 1 - (((R : Int) * 4294967296 + lw 0 - ((R : Int) * 4294967296 + lw 0) / B * B) * 4294967296 + lw 1) / B * B = _
      rw [hD0, hr1, hD1, hr2]
    have hUU : (U : Int) = r2 + B * (D0 * 4294967296 + D1) := by
      have h1 : (B : Int) * (D0 * 4294967296 + D1) = (D0 * B) * 4294967296 + D1 * B := by
        rw [Int.mul_add, ← Int.mul_assoc, Int.mul_comm (B : Int) D0, Int.mul_comm (B : Int) D1]
      rw [h1]
      generalize D0 * (B : Int) = p at *
      generalize D1 * (B : Int) = q at *
      omega
    have hu := (Int.ediv_emod_unique (a := (U : Int)) (b := (B : Int)) (r := r2) (q := D0 * 4294967296 + D1) (by omega)).2 ⟨hUU.symm, b2.1, b2.2⟩
    rw [q2, r2', Int.natCast_ediv, Int.natCast_emod]
    exact ⟨hu.1.symm, hu.2.symm⟩
  refine hW.mono fun e w' h => ⟨?_, h.2⟩
  rw [h.1, e2.1, e2.2, show (((hi * 18446744073709551616 + lo) % b * 2 ^ n : Nat) : Int) / 2 ^ n = (((hi * 18446744073709551616 + lo) % b * 2 ^ n / 2 ^ n : Nat) : Int) from by simp, Nat.mul_div_cancel _ hp]
def wide_Div.f (a0 a1 a2 : Int) : Option (Int × Int × Int) :=
  if 0 ≤ a0 ∧ a0 ≤ 18446744073709551615 ∧ 0 ≤ a1 ∧ a1 ≤ 18446744073709551615 ∧ 0 ≤ a2 ∧ a2 ≤ 18446744073709551615 then
    (if a2 = 0 then some (0, 0, 10) else if a2 ≤ a0 then some (0, 0, 11) else some ((a0 * 18446744073709551616 + a1) / a2, (a0 * 18446744073709551616 + a1) % a2, 0))
  else none
set_option maxHeartbeats 1000000 in
theorem wide_Div.calls (a0 a1 a2 r1 r2 r3 : Int) (w : World) (h : wide_Div.f a0 a1 a2 = some (r1, r2, r3)) :
    Calls Try.prog 25 #[.int .u64 a0, .int .u64 a1, .int .u64 a2] w fun e w' => e = .returned (.tuple #[.int .u64 r1, .int .u64 r2, .int .i64 r3]) ∧ Below w.heap.size w w' := by
  unfold wide_Div.f at h
  split at h
  · rename_i hb
    obtain ⟨h0, h1, h2, h3, h4, h5⟩ := hb
    split at h
    · rename_i c
      subst c
      simp only [Option.some.injEq, Prod.mk.injEq] at h
      obtain ⟨rfl, rfl, rfl⟩ := h
      go_enter Try.func25, Try.ntmps25
      go_wp2
      go_ret3
      exact ⟨rfl, Below.refl _ _⟩
    · rename_i c
      split at h
      · rename_i d
        simp only [Option.some.injEq, Prod.mk.injEq] at h
        obtain ⟨rfl, rfl, rfl⟩ := h
        have c0 : (a2 == 0) = false := by simpa using c
        have d0 : decide (a2 ≤ a0) = true := by simpa using d
        go_enter Try.func25, Try.ntmps25
        go_wp2
        go_ret3
        exact ⟨rfl, Below.refl _ _⟩
      · simp only [Option.some.injEq, Prod.mk.injEq] at h
        obtain ⟨rfl, rfl, rfl⟩ := h
        obtain ⟨x, rfl⟩ := Int.eq_ofNat_of_zero_le h0
        obtain ⟨y, rfl⟩ := Int.eq_ofNat_of_zero_le h2
        obtain ⟨z, rfl⟩ := Int.eq_ofNat_of_zero_le h4
        have := div_main x y z w (by omega) (by omega) (by omega) (by omega)
        refine this.mono fun e w' k => ⟨?_, k.2⟩
        rw [k.1]
        simp
  · cases h

/-! ### plumblaw01_num: function 27 -/
def plumblaw01_num.f (a0 : Int) : Option (Int) := some a0
set_option maxHeartbeats 8000000 in
set_option maxRecDepth 100000 in
theorem plumblaw01_num.calls (a0 : Int) (r : Int) (w : World) (h : plumblaw01_num.f a0 = some r) :
    Calls Try.prog 27 #[.int .i64 a0] w fun e w' => e = .returned (.int .i64 r) ∧ Drawn0 w w' := by
  have H : (some a0) = some r := h
  clear h
  obtain rfl := Option.some.inj H
  go_enter Try.func27, Try.ntmps27
  go_wp2
  go_ret
  exact ⟨by first | rfl | (simp; done) | (simp [*]; done), by repeat (first | exact Drawn0.refl _ | apply Drawn0.step)⟩

end Go.Proofs.Ythinhdnbhkppgaa.PWideDivides
