/- Go functions as Lean functions and their contracts: each call comes to what the Lean function says; or a law's row out of them. No conditions. Written by this session's wip/hprint.py (the kit's print with contracts and repairs of my own). -/
import Derived.Test.YthinhdnbhkppgaaPWideMulsx0
namespace Go.Proofs.Ythinhdnbhkppgaa.PWideMuls
open Go.RowKit Go.Proofs.YthinhdnbhkppgaaW.PrintWords Go.Proofs.YthinhdnbhkppgaaW.PrintLast Go.Proofs.YthinhdnbhkppgaaW.PrintMore
attribute [local go_sem] max2_int min2_int max_two min_two max_three min_three max_four min_four   -- for this text's walks alone
set_option linter.unusedVariables false
set_option linter.unusedSimpArgs false

/-! ### wide_Mul: function 18, by hand -/
def wide_Mul.f (a0 a1 : Int) : Option (Int × Int) := if 0 ≤ a0 ∧ a0 ≤ 18446744073709551615 ∧ 0 ≤ a1 ∧ a1 ≤ 18446744073709551615 then some (a0 * a1 / 18446744073709551616, a0 * a1 % 18446744073709551616) else none
theorem hand_blk_new_at (w : World) (o : Obj) (g : Nat) (hg : g = w.heap.size) : (w.alloc o).heap[g]? = some o := by rw [hg]; exact blk_new w o
theorem hand_wp_world {P : Program} {c : Code} {Q : Exit → Act → World → Prop} {a : Act} {W0 : World} (R : World → Prop) (h0 : R W0) (h : ∀ W, R W → c.wp P Q a W) : c.wp P Q a W0 := h W0 h0

theorem hand_and32 {a : Int} (h0 : 0 ≤ a) (h1 : a ≤ 18446744073709551615) : bits BinOp.and IntKind.u64 a 4294967295 = a % 4294967296 := by
  obtain ⟨n, rfl⟩ := Int.eq_ofNat_of_zero_le h0
  have := u64_and_nat n 4294967295 (by omega) (by omega)
  rw [show ((4294967295 : Nat) : Int) = 4294967295 from rfl] at this
  rw [this, show (4294967295 : Nat) = 2 ^ 32 - 1 from rfl, Nat.and_two_pow_sub_one_eq_mod]
  omega
theorem hand_or32 {a b : Int} (h0 : 0 ≤ a) (h1 : a < 4294967296) (h2 : 0 ≤ b) (h3 : b < 4294967296) : bits BinOp.or IntKind.u64 (a * 4294967296) b = a * 4294967296 + b := by
  obtain ⟨n, rfl⟩ := Int.eq_ofNat_of_zero_le h0
  obtain ⟨m, rfl⟩ := Int.eq_ofNat_of_zero_le h2
  have := u64_or_nat (n * 4294967296) m (by omega) (by omega)
  rw [show (n : Int) * 4294967296 = ((n * 4294967296 : Nat) : Int) from by omega, this]
  have h := Nat.two_pow_add_eq_or_of_lt (i := 32) (b := m) (by omega) n
  rw [show n * 4294967296 = 2 ^ 32 * n from by omega, ← h]
  omega
theorem hand_mulB {x y : Int} (hx0 : 0 ≤ x) (hx1 : x ≤ 4294967295) (hy0 : 0 ≤ y) (hy1 : y ≤ 4294967295) : 0 ≤ x * y ∧ x * y ≤ 18446744065119617025 := by
  refine ⟨Int.mul_nonneg hx0 hy0, ?_⟩
  have h1 : x * y ≤ 4294967295 * y := Int.mul_le_mul_of_nonneg_right hx1 hy0
  omega

set_option maxHeartbeats 1000000 in
set_option maxRecDepth 100000 in
theorem wide_Mul.any (a b : Int) (w : World) (ha0 : 0 ≤ a) (ha1 : a ≤ 18446744073709551615) (hb0 : 0 ≤ b) (hb1 : b ≤ 18446744073709551615) :
    Calls Try.prog 18 #[.int .u64 a, .int .u64 b] w fun e w' => e = .returned (.tuple #[.int .u64 (a * b / 18446744073709551616), .int .u64 (a * b % 18446744073709551616)]) ∧ Below w.heap.size w w' := by
  obtain ⟨x0, hx0⟩ : ∃ x, bits BinOp.and IntKind.u64 a 4294967295 = x := ⟨_, rfl⟩
  obtain ⟨x1, hx1⟩ : ∃ x, a / 4294967296 = x := ⟨_, rfl⟩
  obtain ⟨y0, hy0⟩ : ∃ x, bits BinOp.and IntKind.u64 b 4294967295 = x := ⟨_, rfl⟩
  obtain ⟨y1, hy1⟩ : ∃ x, b / 4294967296 = x := ⟨_, rfl⟩
  have ex0 : a % 4294967296 = x0 := (hand_and32 ha0 ha1).symm.trans hx0
  have ey0 : b % 4294967296 = y0 := (hand_and32 hb0 hb1).symm.trans hy0
  obtain ⟨p00, h00⟩ : ∃ p, x0 * y0 = p := ⟨_, rfl⟩
  obtain ⟨p01, h01⟩ : ∃ p, x0 * y1 = p := ⟨_, rfl⟩
  obtain ⟨p10, h10⟩ : ∃ p, x1 * y0 = p := ⟨_, rfl⟩
  obtain ⟨p11, h11⟩ : ∃ p, x1 * y1 = p := ⟨_, rfl⟩
  have b00 : 0 ≤ p00 ∧ p00 ≤ 18446744065119617025 := h00 ▸ hand_mulB (by omega) (by omega) (by omega) (by omega)
  have b01 : 0 ≤ p01 ∧ p01 ≤ 18446744065119617025 := h01 ▸ hand_mulB (by omega) (by omega) (by omega) (by omega)
  have b10 : 0 ≤ p10 ∧ p10 ≤ 18446744065119617025 := h10 ▸ hand_mulB (by omega) (by omega) (by omega) (by omega)
  have b11 : 0 ≤ p11 ∧ p11 ≤ 18446744065119617025 := h11 ▸ hand_mulB (by omega) (by omega) (by omega) (by omega)
  have hab : a * b = p00 + 4294967296 * p01 + 4294967296 * p10 + 18446744073709551616 * p11 := by
    have e1 : a = x0 + 4294967296 * x1 := by omega
    have e2 : b = y0 + 4294967296 * y1 := by omega
    rw [e1, e2, ← h00, ← h01, ← h10, ← h11, Int.add_mul, Int.mul_add, Int.mul_add, Int.mul_left_comm x0, Int.mul_assoc, Int.mul_assoc, Int.mul_left_comm x1]
    omega
  have HAB := Aside0.mk hab
  clear hab
  obtain ⟨l0, hl0⟩ : ∃ x, bits BinOp.and IntKind.u64 p00 4294967295 = x := ⟨_, rfl⟩
  have el0 : p00 % 4294967296 = l0 := (hand_and32 (by omega) (by omega)).symm.trans hl0
  obtain ⟨c0, hc0⟩ : ∃ x, p00 / 4294967296 = x := ⟨_, rfl⟩
  have bc0 : 0 ≤ c0 ∧ c0 ≤ 4294967295 := by omega
  obtain ⟨s1, hs1⟩ : ∃ x, p01 + c0 = x := ⟨_, rfl⟩
  have bs1 : 0 ≤ s1 ∧ s1 ≤ 18446744073709551615 := by omega
  obtain ⟨l1, hl1⟩ : ∃ x, bits BinOp.and IntKind.u64 s1 4294967295 = x := ⟨_, rfl⟩
  have el1 : s1 % 4294967296 = l1 := (hand_and32 (by omega) (by omega)).symm.trans hl1
  obtain ⟨c1, hc1⟩ : ∃ x, s1 / 4294967296 = x := ⟨_, rfl⟩
  have bc1 : 0 ≤ c1 ∧ c1 ≤ 4294967295 := by omega
  have bl1 : 0 ≤ l1 ∧ l1 ≤ 4294967295 := by omega
  obtain ⟨s2, hs2⟩ : ∃ x, p10 + l1 = x := ⟨_, rfl⟩
  have bs2 : 0 ≤ s2 ∧ s2 ≤ 18446744073709551615 := by omega
  obtain ⟨l2, hl2⟩ : ∃ x, bits BinOp.and IntKind.u64 s2 4294967295 = x := ⟨_, rfl⟩
  have el2 : s2 % 4294967296 = l2 := (hand_and32 (by omega) (by omega)).symm.trans hl2
  obtain ⟨c2, hc2⟩ : ∃ x, s2 / 4294967296 = x := ⟨_, rfl⟩
  have bc2 : 0 ≤ c2 ∧ c2 ≤ 4294967295 := by omega
  obtain ⟨s3, hs3⟩ : ∃ x, p11 + c1 = x := ⟨_, rfl⟩
  have bs3 : 0 ≤ s3 ∧ s3 ≤ 18446744069414584320 := by omega
  obtain ⟨s4, hs4⟩ : ∃ x, s3 + c2 = x := ⟨_, rfl⟩
  have bs4 : 0 ≤ s4 ∧ s4 ≤ 18446744073709551615 := by omega
  obtain ⟨l3, hl3⟩ : ∃ x, bits BinOp.and IntKind.u64 s4 4294967295 = x := ⟨_, rfl⟩
  have el3 : s4 % 4294967296 = l3 := (hand_and32 (by omega) (by omega)).symm.trans hl3
  obtain ⟨c3, hc3⟩ : ∃ x, s4 / 4294967296 = x := ⟨_, rfl⟩
  have bc3 : 0 ≤ c3 ∧ c3 ≤ 4294967295 := by omega
  have bl0 : 0 ≤ l0 ∧ l0 ≤ 4294967295 := by omega
  have bl2 : 0 ≤ l2 ∧ l2 ≤ 4294967295 := by omega
  have bl3 : 0 ≤ l3 ∧ l3 ≤ 4294967295 := by omega
  have fin1 : c3 * 4294967296 + l3 = a * b / 18446744073709551616 := by rw [HAB.out]; omega
  have fin2 : l2 * 4294967296 + l0 = a * b % 18446744073709551616 := by rw [HAB.out]; omega
  have FIN1 := Aside0.mk fin1
  have FIN2 := Aside0.mk fin2
  clear fin1 fin2 HAB ex0 ey0 el0 el1 el2 el3
  have bb0 : bits BinOp.or IntKind.u64 (c3 * 4294967296) l3 = c3 * 4294967296 + l3 := hand_or32 (by omega) (by omega) (by omega) (by omega)
  have bb1 : bits BinOp.or IntKind.u64 (l2 * 4294967296) l0 = l2 * 4294967296 + l0 := hand_or32 (by omega) (by omega) (by omega) (by omega)
  have bq1 := b00.1; have bq2 := b00.2; have bq3 := b01.1; have bq4 := b01.2; have bq5 := b10.1; have bq6 := b10.2; have bq7 := b11.1; have bq8 := b11.2
  go_enter Try.func18, Try.ntmps18
  go_wp2
  refine wp_loop_rounds 3 ?_
  rw [rounds_succ]
  go_wp2
  refine wp_loop_rounds 3 ?_
  rw [rounds_succ]
  go_wp2
  go_quiet (fail)
  go_wp2
  rw [rounds_succ]
  go_wp2
  go_quiet (fail)
  go_wp2
  rw [rounds_succ]
  go_wp2
  rw [rounds_succ]
  go_wp2
  refine wp_loop_rounds 3 ?_
  rw [rounds_succ]
  go_wp2
  go_quiet (fail)
  go_wp2
  rw [rounds_succ]
  go_wp2
  go_quiet (fail)
  go_wp2
  rw [rounds_succ]
  go_wp2
  rw [rounds_succ]
  go_wp2
  refine hand_wp_world (fun W => W.heap[w.heap.size + 1 + 1]? = some (.cells #[.int .u64 l0, .int .u64 l2, .int .u64 l3, .int .u64 c3] 50 (0, 0)) ∧ Below w.heap.size w W) ?_ ?_
  · refine ⟨?_, ?_⟩
    · refine blk_put (cs := #[.int .u64 l0, .int .u64 l2, .int .u64 l3, .int .u64 0]) ?_ 3 _ rfl
      refine blk_put (cs := #[.int .u64 l0, .int .u64 l2, .int .u64 c1, .int .u64 0]) ?_ 2 _ rfl
      refine blk_drewN ?_ _
      refine blk_put (cs := #[.int .u64 l0, .int .u64 l1, .int .u64 c1, .int .u64 0]) ?_ 1 _ rfl
      refine blk_drewN ?_ _
      refine blk_put (cs := #[.int .u64 l0, .int .u64 l1, .int .u64 0, .int .u64 0]) ?_ 2 _ rfl
      refine blk_put (cs := #[.int .u64 l0, .int .u64 0, .int .u64 0, .int .u64 0]) ?_ 1 _ rfl
      refine blk_drewN ?_ _
      refine blk_put (cs := #[.int .u64 0, .int .u64 0, .int .u64 0, .int .u64 0]) ?_ 0 _ rfl
      refine blk_drewN ?_ _
      exact hand_blk_new_at _ _ _ (by simp)
    · repeat (with_reducible first | exact Below.refl _ _ | refine Below.alloc ?_ (by simp <;> omega) _ | refine pw_below_drewN ?_ _ | refine Below.setCell ?_ (by simp <;> omega) _)
  · rintro W ⟨HC, HB⟩
    have q0 := blk_cell HC 0
    have q1 := blk_cell HC 1
    have q2 := blk_cell HC 2
    have q3 := blk_cell HC 3
    clear HC
    simp only [List.getElem?_toArray, List.getElem?_cons_zero, List.getElem?_cons_succ] at q0 q1 q2 q3
    go_region
    go_wp2
    go_ret2
    exact ⟨by rw [← FIN1.out, ← FIN2.out]; rfl, HB.drew⟩
theorem wide_Mul.calls (a0 a1 r1 r2 : Int) (w : World) (h : wide_Mul.f a0 a1 = some (r1, r2)) :
    Calls Try.prog 18 #[.int .u64 a0, .int .u64 a1] w fun e w' => e = .returned (.tuple #[.int .u64 r1, .int .u64 r2]) ∧ Below w.heap.size w w' := by
  unfold wide_Mul.f at h
  split at h
  · rename_i hb
    obtain ⟨h0, h1, h2, h3⟩ := hb
    simp only [Option.some.injEq, Prod.mk.injEq] at h
    obtain ⟨rfl, rfl⟩ := h
    exact wide_Mul.any a0 a1 w h0 h1 h2 h3
  · cases h

/-! ### plumbref01_Add: function 15 -/
def plumbref01_Add.l0 : Nat → Int → Int → Int → Int → Int → Option (Int × Int)
  | 0, _, _, _, _, _ => none
  | k + 1, x0, x1, x8, x9, x10 => if x10 < 64 then (if 0 ≤ x10 then (plumbref01_Add.l0 k x0 x1 ((IntKind.u64.wrap ((IntKind.u64.wrap ((Go.bits .and .u64 (shr .u64 x0 x10) 1) + (Go.bits .and .u64 (shr .u64 x1 x10) 1))) + x8)) / 2) (Go.bits .or .u64 x9 (shl .u64 (Go.bits .and .u64 (IntKind.u64.wrap ((IntKind.u64.wrap ((Go.bits .and .u64 (shr .u64 x0 x10) 1) + (Go.bits .and .u64 (shr .u64 x1 x10) 1))) + x8)) 1) x10)) (wrap64 (x10 + 1))) else (none)) else (some (x9, x8))
def plumbref01_Add.f (k : Nat) (a0 : Int) (a1 : Int) (a2 : Int) : Option (Int × Int) := plumbref01_Add.l0 k a0 a1 (Go.bits .and .u64 a2 1) 0 0
theorem plumbref01_Add.mono_l : ∀ k, (∀ y0 y1 y2 y3 y4, LeO (plumbref01_Add.l0 k y0 y1 y2 y3 y4) (plumbref01_Add.l0 (k + 1) y0 y1 y2 y3 y4))
  | 0 => fun _ _ _ _ _ r h => by simp [plumbref01_Add.l0] at h
  | k + 1 => by
    have ih0 := plumbref01_Add.mono_l k
    · intro y0 y1 y2 y3 y4
      unfold plumbref01_Add.l0
      repeat' first
      | (with_reducible exact ih0 _ _ _ _ _)
      | (with_reducible exact LeO.refl _)
      | (with_reducible exact LeO.none _)
      | (with_reducible refine LeO.ite ?_ ?_)
      | (with_reducible refine LeO.bind ?_ (fun _ => ?_))
      | exact ih0 _ _ _ _ _
      | exact LeO.none _
      | refine LeO.ite ?_ ?_
      | refine LeO.bind ?_ (fun _ => ?_)
theorem plumbref01_Add.mono : ∀ a0 a1 a2 k, LeO (plumbref01_Add.f k a0 a1 a2) (plumbref01_Add.f (k + 1) a0 a1 a2) := by
  intro a0 a1 a2 k
  have ih0 := plumbref01_Add.mono_l k
  unfold plumbref01_Add.f
  repeat' first
      | (with_reducible exact ih0 _ _ _ _ _)
      | (with_reducible exact LeO.refl _)
      | (with_reducible exact LeO.none _)
      | (with_reducible refine LeO.ite ?_ ?_)
      | (with_reducible refine LeO.bind ?_ (fun _ => ?_))
      | exact ih0 _ _ _ _ _
      | exact LeO.none _
      | refine LeO.ite ?_ ?_
      | refine LeO.bind ?_ (fun _ => ?_)
set_option maxHeartbeats 8000000 in
set_option maxRecDepth 100000 in
theorem plumbref01_Add.calls (k : Nat) (a0 : Int) (a1 : Int) (a2 : Int) (r1 : Int) (r2 : Int) (w : World) (h : plumbref01_Add.f k a0 a1 a2 = some (r1, r2)) :
    Calls Try.prog 15 #[.int .u64 a0, .int .u64 a1, .int .u64 a2] w fun e w' => e = .returned (.tuple #[.int .u64 r1, .int .u64 r2]) ∧ Drawn0 w w' := by
  have H : (plumbref01_Add.l0 k a0 a1 (Go.bits .and .u64 a2 1) 0 0) = some (r1, r2) := h
  clear h
  have H' := Aside0.mk H
  clear H
  go_enter Try.func15, Try.ntmps15
  go_wp2
  repeat (go_quiet (fail); try go_wp2)
  go_loopg [8, 9, 10] k (fun kq v8 v9 v10 w' => ∃ (x8_1 : Int) (x9_1 : Int) (x10_1 : Int), v8 = .int .u64 x8_1 ∧ v9 = .int .u64 x9_1 ∧ v10 = .int .i64 x10_1 ∧ Aside0 (plumbref01_Add.l0 kq a0 a1 x8_1 x9_1 x10_1 = some (r1, r2)) ∧ Aside0 (kq ≤ k) ∧ Drawn0 w w')
  case atStart => exact ⟨(Go.bits .and .u64 a2 1), (0), (0), (by first | rfl | (simp; done) | (simp [*]; done)), (by first | rfl | (simp; done) | (simp [*]; done)), (by first | rfl | (simp; done) | (simp [*]; done)), H', ⟨Nat.le_refl _⟩, by repeat (first | exact Drawn0.refl _ | apply Drawn0.step)⟩
  case round =>
    clear H'
    try clear c1
    try clear p2
    obtain ⟨x8_1, x9_1, x10_1, rfl, rfl, rfl, HA, HK1, ⟨m1, rfl⟩⟩ := hrel
    cases gk with
    | zero => exact absurd HA.out (by simp [plumbref01_Add.l0])
    | succ k1 =>
      have H := HA.out
      clear HA
      simp only [plumbref01_Add.l0] at H
      by_cases c4 : x10_1 < 64
      · rw [if_pos c4] at H
        have c4b0 : decide (x10_1 < 64) = true := decide_eq_true c4
        clear c4
        by_cases c5 : 0 ≤ x10_1
        · rw [if_pos c5] at H
          have c5b0 := eq_true c5
          have c5b1 : decide (0 ≤ x10_1) = true := decide_eq_true c5
          clear c5
          obtain ⟨ji6, hji6⟩ : ∃ j_ : Int, (shr .u64 a0 x10_1) = j_ := ⟨_, rfl⟩
          replace H : (plumbref01_Add.l0 k1 a0 a1 ((IntKind.u64.wrap ((IntKind.u64.wrap ((Go.bits .and .u64 (ji6) 1) + (Go.bits .and .u64 (shr .u64 a1 x10_1) 1))) + x8_1)) / 2) (Go.bits .or .u64 x9_1 (shl .u64 (Go.bits .and .u64 (IntKind.u64.wrap ((IntKind.u64.wrap ((Go.bits .and .u64 (ji6) 1) + (Go.bits .and .u64 (shr .u64 a1 x10_1) 1))) + x8_1)) 1) x10_1)) (wrap64 (x10_1 + 1))) = some (r1, r2) := by first | (rw [hji6] at H; exact H) | (simp only [hji6] at H ⊢; exact H)
          have hji6_ : (a0 / 2 ^ min x10_1.toNat 64) = ji6 := hji6
          have hji6z : x10_1 ≤ 64 → (a0 / 2 ^ x10_1.toNat) = ji6 := shr_small hji6
          have c7b0 := eq_true (of_decide_eq_true (by first | (with_reducible assumption) | assumption) : 0 ≤ x10_1)
          obtain ⟨ji8, hji8⟩ : ∃ j_ : Int, (shr .u64 a1 x10_1) = j_ := ⟨_, rfl⟩
          replace H : (plumbref01_Add.l0 k1 a0 a1 ((IntKind.u64.wrap ((IntKind.u64.wrap ((Go.bits .and .u64 (ji6) 1) + (Go.bits .and .u64 (ji8) 1))) + x8_1)) / 2) (Go.bits .or .u64 x9_1 (shl .u64 (Go.bits .and .u64 (IntKind.u64.wrap ((IntKind.u64.wrap ((Go.bits .and .u64 (ji6) 1) + (Go.bits .and .u64 (ji8) 1))) + x8_1)) 1) x10_1)) (wrap64 (x10_1 + 1))) = some (r1, r2) := by first | (rw [hji8] at H; exact H) | (simp only [hji8] at H ⊢; exact H)
          have hji8_ : (a1 / 2 ^ min x10_1.toNat 64) = ji8 := hji8
          have hji8z : x10_1 ≤ 64 → (a1 / 2 ^ x10_1.toNat) = ji8 := shr_small hji8
          have c9b0 := eq_true (of_decide_eq_true (by first | (with_reducible assumption) | assumption) : 0 ≤ x10_1)
          obtain ⟨ji10, hji10⟩ : ∃ j_ : Int, (shl .u64 (Go.bits .and .u64 (IntKind.u64.wrap ((IntKind.u64.wrap ((Go.bits .and .u64 (ji6) 1) + (Go.bits .and .u64 (ji8) 1))) + x8_1)) 1) x10_1) = j_ := ⟨_, rfl⟩
          replace H : (plumbref01_Add.l0 k1 a0 a1 ((IntKind.u64.wrap ((IntKind.u64.wrap ((Go.bits .and .u64 (ji6) 1) + (Go.bits .and .u64 (ji8) 1))) + x8_1)) / 2) (Go.bits .or .u64 x9_1 (ji10)) (wrap64 (x10_1 + 1))) = some (r1, r2) := by first | (rw [hji10] at H; exact H) | (simp only [hji10] at H ⊢; exact H)
          have hji10_ : (IntKind.u64.wrap ((Go.bits .and .u64 (IntKind.u64.wrap ((IntKind.u64.wrap ((Go.bits .and .u64 (ji6) 1) + (Go.bits .and .u64 (ji8) 1))) + x8_1)) 1) * 2 ^ min x10_1.toNat 64)) = ji10 := hji10
          have hji10z : x10_1 ≤ 64 → (IntKind.u64.wrap ((Go.bits .and .u64 (IntKind.u64.wrap ((IntKind.u64.wrap ((Go.bits .and .u64 (ji6) 1) + (Go.bits .and .u64 (ji8) 1))) + x8_1)) 1) * 2 ^ x10_1.toNat)) = ji10 := shl_small hji10
          have H' := Aside0.mk H
          clear H
          go_wp2
          repeat (go_quiet (fail); try go_wp2)
          go_roundg k1
          case measure => have := HK1.out; omega
          case rel => exact ⟨((IntKind.u64.wrap ((IntKind.u64.wrap ((Go.bits .and .u64 (ji6) 1) + (Go.bits .and .u64 (ji8) 1))) + x8_1)) / 2), (Go.bits .or .u64 x9_1 (ji10)), (wrap64 (x10_1 + 1)), (by first | rfl | (simp; done) | (simp only [← hji6, ← hji8] <;> (first | rfl | simp)) | (simp [*]; done)), (by first | rfl | (simp; done) | (simp only [← hji10] <;> (first | rfl | simp)) | (simp [*]; done)), (by first | rfl | (simp; done) | (simp [*]; done)), H', ⟨by have := HK1.out; omega⟩, by repeat (first | exact Drawn0.refl _ | apply Drawn0.step)⟩
        · rw [if_neg c5] at H
          exact absurd H (by simp)
      · rw [if_neg c4] at H
        have c4b0 : decide (x10_1 < 64) = false := decide_eq_false c4
        clear c4
        simp only [Option.some.injEq, Prod.mk.injEq] at H
        obtain ⟨rfl, rfl⟩ := H
        go_wp2
        repeat (go_quiet (fail); try go_wp2)
        go_ret2
        exact ⟨by first | rfl | (simp; done) | (simp [*]; done), by repeat (first | exact Drawn0.refl _ | apply Drawn0.step)⟩

/-! ### plumbref01_Mul3: function 24 -/
def plumbref01_Mul3.l0 : Nat → Int → Int → Int → Int → Int → Int → Int → Option (Int × Int × Int)
  | 0, _, _, _, _, _, _, _ => none
  | k + 1, x0, x1, x2, x9, x10, x11, x12 => if x12 ≥ 0 then (if 0 ≤ x12 then (if (Go.bits .and .u64 (shr .u64 x2 x12) 1) = 1 then ((plumbref01_Add.f k (IntKind.u64.wrap (x11 * 2)) x1 0).bind fun bt101 => ((plumbref01_Add.f k (Go.bits .or .u64 (IntKind.u64.wrap (x10 * 2)) (x11 / 9223372036854775808)) x0 bt101.2).bind fun bt103 => (plumbref01_Mul3.l0 k x0 x1 x2 (IntKind.u64.wrap ((Go.bits .or .u64 (IntKind.u64.wrap (x9 * 2)) (x10 / 9223372036854775808)) + bt103.2)) bt103.1 bt101.1 (wrap64 (x12 - 1))))) else (plumbref01_Mul3.l0 k x0 x1 x2 (Go.bits .or .u64 (IntKind.u64.wrap (x9 * 2)) (x10 / 9223372036854775808)) (Go.bits .or .u64 (IntKind.u64.wrap (x10 * 2)) (x11 / 9223372036854775808)) (IntKind.u64.wrap (x11 * 2)) (wrap64 (x12 - 1)))) else (none)) else (some (x9, x10, x11))
def plumbref01_Mul3.f (k : Nat) (a0 : Int) (a1 : Int) (a2 : Int) : Option (Int × Int × Int) := plumbref01_Mul3.l0 k a0 a1 a2 0 0 0 63
theorem plumbref01_Mul3.mono_l : ∀ k, (∀ y0 y1 y2 y3 y4 y5 y6, LeO (plumbref01_Mul3.l0 k y0 y1 y2 y3 y4 y5 y6) (plumbref01_Mul3.l0 (k + 1) y0 y1 y2 y3 y4 y5 y6))
  | 0 => fun _ _ _ _ _ _ _ r h => by simp [plumbref01_Mul3.l0] at h
  | k + 1 => by
    have ih0 := plumbref01_Mul3.mono_l k
    · intro y0 y1 y2 y3 y4 y5 y6
      unfold plumbref01_Mul3.l0
      repeat' first
      | (with_reducible exact ih0 _ _ _ _ _ _ _)
      | (with_reducible exact plumbref01_Add.mono _ _ _ _)
      | (with_reducible exact LeO.refl _)
      | (with_reducible exact LeO.none _)
      | (with_reducible refine LeO.ite ?_ ?_)
      | (with_reducible refine LeO.bind ?_ (fun _ => ?_))
      | exact ih0 _ _ _ _ _ _ _
      | exact plumbref01_Add.mono _ _ _ _
      | exact LeO.none _
      | refine LeO.ite ?_ ?_
      | refine LeO.bind ?_ (fun _ => ?_)
theorem plumbref01_Mul3.mono : ∀ a0 a1 a2 k, LeO (plumbref01_Mul3.f k a0 a1 a2) (plumbref01_Mul3.f (k + 1) a0 a1 a2) := by
  intro a0 a1 a2 k
  have ih0 := plumbref01_Mul3.mono_l k
  unfold plumbref01_Mul3.f
  repeat' first
      | (with_reducible exact ih0 _ _ _ _ _ _ _)
      | (with_reducible exact plumbref01_Add.mono _ _ _ _)
      | (with_reducible exact LeO.refl _)
      | (with_reducible exact LeO.none _)
      | (with_reducible refine LeO.ite ?_ ?_)
      | (with_reducible refine LeO.bind ?_ (fun _ => ?_))
      | exact ih0 _ _ _ _ _ _ _
      | exact plumbref01_Add.mono _ _ _ _
      | exact LeO.none _
      | refine LeO.ite ?_ ?_
      | refine LeO.bind ?_ (fun _ => ?_)
set_option maxHeartbeats 8000000 in
set_option maxRecDepth 100000 in
theorem plumbref01_Mul3.calls (k : Nat) (a0 : Int) (a1 : Int) (a2 : Int) (r1 : Int) (r2 : Int) (r3 : Int) (w : World) (h : plumbref01_Mul3.f k a0 a1 a2 = some (r1, r2, r3)) :
    Calls Try.prog 24 #[.int .u64 a0, .int .u64 a1, .int .u64 a2] w fun e w' => e = .returned (.tuple #[.int .u64 r1, .int .u64 r2, .int .u64 r3]) ∧ Drawn0 w w' := by
  have H : (plumbref01_Mul3.l0 k a0 a1 a2 0 0 0 63) = some (r1, r2, r3) := h
  clear h
  have H' := Aside0.mk H
  clear H
  go_enter Try.func24, Try.ntmps24
  go_wp2
  go_loopg [9, 10, 11, 12] k (fun kq v9 v10 v11 v12 w' => ∃ (x9_1 : Int) (x10_1 : Int) (x11_1 : Int) (x12_1 : Int), v9 = .int .u64 x9_1 ∧ v10 = .int .u64 x10_1 ∧ v11 = .int .u64 x11_1 ∧ v12 = .int .i64 x12_1 ∧ Aside0 (plumbref01_Mul3.l0 kq a0 a1 a2 x9_1 x10_1 x11_1 x12_1 = some (r1, r2, r3)) ∧ Aside0 (kq ≤ k) ∧ Drawn0 w w')
  case atStart => exact ⟨(0), (0), (0), (63), (by first | rfl | (simp; done) | (simp [*]; done)), (by first | rfl | (simp; done) | (simp [*]; done)), (by first | rfl | (simp; done) | (simp [*]; done)), (by first | rfl | (simp; done) | (simp [*]; done)), H', ⟨Nat.le_refl _⟩, by repeat (first | exact Drawn0.refl _ | apply Drawn0.step)⟩
  case round =>
    clear H'
    try clear c2
    try clear p2
    obtain ⟨x9_1, x10_1, x11_1, x12_1, rfl, rfl, rfl, rfl, HA, HK1, ⟨m1, rfl⟩⟩ := hrel
    cases gk with
    | zero => exact absurd HA.out (by simp [plumbref01_Mul3.l0])
    | succ k1 =>
      have H := HA.out
      clear HA
      simp only [plumbref01_Mul3.l0] at H
      by_cases c4 : x12_1 ≥ 0
      · rw [if_pos c4] at H
        have c4b0 : decide (0 ≤ x12_1) = true := decide_eq_true c4
        clear c4
        by_cases c5 : 0 ≤ x12_1
        · rw [if_pos c5] at H
          have c5b0 := eq_true c5
          have c5b1 : decide (0 ≤ x12_1) = true := decide_eq_true c5
          clear c5
          obtain ⟨ji6, hji6⟩ : ∃ j_ : Int, (shr .u64 a2 x12_1) = j_ := ⟨_, rfl⟩
          replace H : (if (Go.bits .and .u64 (ji6) 1) = 1 then ((plumbref01_Add.f k1 (IntKind.u64.wrap (x11_1 * 2)) a1 0).bind fun bt101 => ((plumbref01_Add.f k1 (Go.bits .or .u64 (IntKind.u64.wrap (x10_1 * 2)) (x11_1 / 9223372036854775808)) a0 bt101.2).bind fun bt103 => (plumbref01_Mul3.l0 k1 a0 a1 a2 (IntKind.u64.wrap ((Go.bits .or .u64 (IntKind.u64.wrap (x9_1 * 2)) (x10_1 / 9223372036854775808)) + bt103.2)) bt103.1 bt101.1 (wrap64 (x12_1 - 1))))) else (plumbref01_Mul3.l0 k1 a0 a1 a2 (Go.bits .or .u64 (IntKind.u64.wrap (x9_1 * 2)) (x10_1 / 9223372036854775808)) (Go.bits .or .u64 (IntKind.u64.wrap (x10_1 * 2)) (x11_1 / 9223372036854775808)) (IntKind.u64.wrap (x11_1 * 2)) (wrap64 (x12_1 - 1)))) = some (r1, r2, r3) := by first | (rw [hji6] at H; exact H) | (simp only [hji6] at H ⊢; exact H)
          have hji6_ : (a2 / 2 ^ min x12_1.toNat 64) = ji6 := hji6
          have hji6z : x12_1 ≤ 64 → (a2 / 2 ^ x12_1.toNat) = ji6 := shr_small hji6
          by_cases c7 : (Go.bits .and .u64 (ji6) 1) = 1
          · rw [if_pos c7] at H
            have c7b0 : ((Go.bits .and .u64 (ji6) 1) == 1) = true := beq_iff_eq.mpr c7
            have c7b1 : ((Go.bits .and .u64 (ji6) 1) != 1) = false := bne_eq_false_iff_eq.mpr c7
            clear c7
            replace H := Option.bind_eq_some_iff.mp H
            obtain ⟨⟨t101, t102⟩, A80, H⟩ := H
            replace H : ((plumbref01_Add.f k1 (Go.bits .or .u64 (IntKind.u64.wrap (x10_1 * 2)) (x11_1 / 9223372036854775808)) a0 t102).bind fun bt103 => (plumbref01_Mul3.l0 k1 a0 a1 a2 (IntKind.u64.wrap ((Go.bits .or .u64 (IntKind.u64.wrap (x9_1 * 2)) (x10_1 / 9223372036854775808)) + bt103.2)) bt103.1 t101 (wrap64 (x12_1 - 1)))) = some (r1, r2, r3) := H
            have A8 := Aside0.mk A80
            clear A80
            replace H := Option.bind_eq_some_iff.mp H
            obtain ⟨⟨t103, t104⟩, A90, H⟩ := H
            replace H : (plumbref01_Mul3.l0 k1 a0 a1 a2 (IntKind.u64.wrap ((Go.bits .or .u64 (IntKind.u64.wrap (x9_1 * 2)) (x10_1 / 9223372036854775808)) + t104)) t103 t101 (wrap64 (x12_1 - 1))) = some (r1, r2, r3) := H
            have A9 := Aside0.mk A90
            clear A90
            have H' := Aside0.mk H
            clear H
            go_wp2_with (first | ((with_reducible refine gate_callee (f := 15) rfl ?_); refine goesL_ (some 41) rfl rfl Try.func15 (by kernel_rfl) rfl #[.int .u64 (IntKind.u64.wrap (x11_1 * 2)), .int .u64 a1, .int .u64 0] rfl (by (try simp only [List.map_toArray, List.map_cons, List.map_nil]); first | done | rfl | (simp only [List.length_drop, List.length_take]; rfl)) ?_; (with_reducible refine (plumbref01_Add.calls k1 (IntKind.u64.wrap (x11_1 * 2)) a1 0 t101 t102 _ A8.out).mono ?_); rintro e w' ⟨rfl, ⟨nd, rfl⟩⟩; refine ⟨_, rfl, ?_⟩) | ((with_reducible refine gate_callee (f := 15) rfl ?_); refine goesL_ (some 48) rfl rfl Try.func15 (by kernel_rfl) rfl #[.int .u64 (Go.bits .or .u64 (IntKind.u64.wrap (x10_1 * 2)) (x11_1 / 9223372036854775808)), .int .u64 a0, .int .u64 t102] rfl (by (try simp only [List.map_toArray, List.map_cons, List.map_nil]); first | done | rfl | (simp only [List.length_drop, List.length_take]; rfl)) ?_; (with_reducible refine (plumbref01_Add.calls k1 (Go.bits .or .u64 (IntKind.u64.wrap (x10_1 * 2)) (x11_1 / 9223372036854775808)) a0 t102 t103 t104 _ A9.out).mono ?_); rintro e w' ⟨rfl, ⟨nd, rfl⟩⟩; refine ⟨_, rfl, ?_⟩))
            go_roundg k1
            case measure => have := HK1.out; omega
            case rel => exact ⟨(IntKind.u64.wrap ((Go.bits .or .u64 (IntKind.u64.wrap (x9_1 * 2)) (x10_1 / 9223372036854775808)) + t104)), (t103), (t101), (wrap64 (x12_1 - 1)), (by first | rfl | (simp; done) | (simp [*]; done)), (by first | rfl | (simp; done) | (simp [*]; done)), (by first | rfl | (simp; done) | (simp [*]; done)), (by first | rfl | (simp; done) | (simp [*]; done)), H', ⟨by have := HK1.out; omega⟩, by repeat (first | exact Drawn0.refl _ | apply Drawn0.step)⟩
          · rw [if_neg c7] at H
            have c7b0 : ((Go.bits .and .u64 (ji6) 1) == 1) = false := beq_eq_false_iff_ne.mpr c7
            have c7b1 : ((Go.bits .and .u64 (ji6) 1) != 1) = true := bne_iff_ne.mpr c7
            have H' := Aside0.mk H
            clear H
            go_wp2
            go_roundg k1
            case measure => have := HK1.out; omega
            case rel => exact ⟨(Go.bits .or .u64 (IntKind.u64.wrap (x9_1 * 2)) (x10_1 / 9223372036854775808)), (Go.bits .or .u64 (IntKind.u64.wrap (x10_1 * 2)) (x11_1 / 9223372036854775808)), (IntKind.u64.wrap (x11_1 * 2)), (wrap64 (x12_1 - 1)), (by first | rfl | (simp; done) | (simp [*]; done)), (by first | rfl | (simp; done) | (simp [*]; done)), (by first | rfl | (simp; done) | (simp [*]; done)), (by first | rfl | (simp; done) | (simp [*]; done)), H', ⟨by have := HK1.out; omega⟩, by repeat (first | exact Drawn0.refl _ | apply Drawn0.step)⟩
        · rw [if_neg c5] at H
          exact absurd H (by simp)
      · rw [if_neg c4] at H
        have c4b0 : decide (0 ≤ x12_1) = false := decide_eq_false c4
        clear c4
        simp only [Option.some.injEq, Prod.mk.injEq] at H
        obtain ⟨rfl, rfl, rfl⟩ := H
        go_wp2
        go_ret3
        exact ⟨by first | rfl | (simp; done) | (simp [*]; done), by repeat (first | exact Drawn0.refl _ | apply Drawn0.step)⟩

/-! ### plumbref01_Mul: function 22 -/
def plumbref01_Mul.f (k : Nat) (a0 : Int) (a1 : Int) : Option (Int × Int) := (plumbref01_Mul3.f k 0 a0 a1).bind fun bt105 => (some (bt105.2.1, bt105.2.2))
theorem plumbref01_Mul.mono : ∀ a0 a1 k, LeO (plumbref01_Mul.f k a0 a1) (plumbref01_Mul.f (k + 1) a0 a1) := by
  intro a0 a1 k
  unfold plumbref01_Mul.f
  repeat' first
      | (with_reducible exact plumbref01_Mul3.mono _ _ _ _)
      | (with_reducible exact LeO.refl _)
      | (with_reducible exact LeO.none _)
      | (with_reducible refine LeO.ite ?_ ?_)
      | (with_reducible refine LeO.bind ?_ (fun _ => ?_))
      | exact plumbref01_Mul3.mono _ _ _ _
      | exact LeO.none _
      | refine LeO.ite ?_ ?_
      | refine LeO.bind ?_ (fun _ => ?_)
set_option maxHeartbeats 8000000 in
set_option maxRecDepth 100000 in
theorem plumbref01_Mul.calls (k : Nat) (a0 : Int) (a1 : Int) (r1 : Int) (r2 : Int) (w : World) (h : plumbref01_Mul.f k a0 a1 = some (r1, r2)) :
    Calls Try.prog 22 #[.int .u64 a0, .int .u64 a1] w fun e w' => e = .returned (.tuple #[.int .u64 r1, .int .u64 r2]) ∧ Drawn0 w w' := by
  have H : ((plumbref01_Mul3.f k 0 a0 a1).bind fun bt105 => (some (bt105.2.1, bt105.2.2))) = some (r1, r2) := h
  clear h
  replace H := Option.bind_eq_some_iff.mp H
  obtain ⟨⟨t105, t106, t107⟩, A30, H⟩ := H
  replace H : (some (t106, t107)) = some (r1, r2) := H
  have A3 := Aside0.mk A30
  clear A30
  simp only [Option.some.injEq, Prod.mk.injEq] at H
  obtain ⟨rfl, rfl⟩ := H
  go_enter Try.func22, Try.ntmps22
  go_wp2_with (first | ((with_reducible refine gate_callee (f := 24) rfl ?_); refine goesL_ (some 12) rfl rfl Try.func24 (by kernel_rfl) rfl #[.int .u64 0, .int .u64 a0, .int .u64 a1] rfl (by (try simp only [List.map_toArray, List.map_cons, List.map_nil]); first | done | rfl | (simp only [List.length_drop, List.length_take]; rfl)) ?_; (with_reducible refine (plumbref01_Mul3.calls k 0 a0 a1 t105 t106 t107 _ A3.out).mono ?_); rintro e w' ⟨rfl, ⟨nd, rfl⟩⟩; refine ⟨_, rfl, ?_⟩))
  go_ret2
  exact ⟨by first | rfl | (simp; done) | (simp [*]; done), by repeat (first | exact Drawn0.refl _ | apply Drawn0.step)⟩

/-! ### wide_Add: function 14 -/
def wide_Add.f (a0 : Int) (a1 : Int) (a2 : Int) : Option (Int × Int) := if (IntKind.u64.wrap (a0 + a1)) < a0 then (some (IntKind.u64.wrap ((IntKind.u64.wrap (a0 + a1)) + (Go.bits .and .u64 a2 1)), 1)) else (if (IntKind.u64.wrap ((IntKind.u64.wrap (a0 + a1)) + (Go.bits .and .u64 a2 1))) < (IntKind.u64.wrap (a0 + a1)) then (some (IntKind.u64.wrap ((IntKind.u64.wrap (a0 + a1)) + (Go.bits .and .u64 a2 1)), 1)) else (some (IntKind.u64.wrap ((IntKind.u64.wrap (a0 + a1)) + (Go.bits .and .u64 a2 1)), 0)))
set_option maxHeartbeats 8000000 in
set_option maxRecDepth 100000 in
theorem wide_Add.calls (a0 : Int) (a1 : Int) (a2 : Int) (r1 : Int) (r2 : Int) (w : World) (h : wide_Add.f a0 a1 a2 = some (r1, r2)) :
    Calls Try.prog 14 #[.int .u64 a0, .int .u64 a1, .int .u64 a2] w fun e w' => e = .returned (.tuple #[.int .u64 r1, .int .u64 r2]) ∧ Drawn0 w w' := by
  have H : (if (IntKind.u64.wrap (a0 + a1)) < a0 then (some (IntKind.u64.wrap ((IntKind.u64.wrap (a0 + a1)) + (Go.bits .and .u64 a2 1)), 1)) else (if (IntKind.u64.wrap ((IntKind.u64.wrap (a0 + a1)) + (Go.bits .and .u64 a2 1))) < (IntKind.u64.wrap (a0 + a1)) then (some (IntKind.u64.wrap ((IntKind.u64.wrap (a0 + a1)) + (Go.bits .and .u64 a2 1)), 1)) else (some (IntKind.u64.wrap ((IntKind.u64.wrap (a0 + a1)) + (Go.bits .and .u64 a2 1)), 0)))) = some (r1, r2) := h
  clear h
  by_cases c4 : (IntKind.u64.wrap (a0 + a1)) < a0
  · rw [if_pos c4] at H
    have c4b0 : decide ((IntKind.u64.wrap (a0 + a1)) < a0) = true := decide_eq_true c4
    clear c4
    simp only [Option.some.injEq, Prod.mk.injEq] at H
    obtain ⟨rfl, rfl⟩ := H
    go_enter Try.func14, Try.ntmps14
    go_wp2
    go_ret2
    exact ⟨by first | rfl | (simp; done) | (simp [*]; done), by repeat (first | exact Drawn0.refl _ | apply Drawn0.step)⟩
  · rw [if_neg c4] at H
    have c4b0 : decide ((IntKind.u64.wrap (a0 + a1)) < a0) = false := decide_eq_false c4
    clear c4
    by_cases c5 : (IntKind.u64.wrap ((IntKind.u64.wrap (a0 + a1)) + (Go.bits .and .u64 a2 1))) < (IntKind.u64.wrap (a0 + a1))
    · rw [if_pos c5] at H
      have c5b0 : decide ((IntKind.u64.wrap ((IntKind.u64.wrap (a0 + a1)) + (Go.bits .and .u64 a2 1))) < (IntKind.u64.wrap (a0 + a1))) = true := decide_eq_true c5
      clear c5
      simp only [Option.some.injEq, Prod.mk.injEq] at H
      obtain ⟨rfl, rfl⟩ := H
      go_enter Try.func14, Try.ntmps14
      go_wp2
      go_ret2
      exact ⟨by first | rfl | (simp; done) | (simp [*]; done), by repeat (first | exact Drawn0.refl _ | apply Drawn0.step)⟩
    · rw [if_neg c5] at H
      have c5b0 : decide ((IntKind.u64.wrap ((IntKind.u64.wrap (a0 + a1)) + (Go.bits .and .u64 a2 1))) < (IntKind.u64.wrap (a0 + a1))) = false := decide_eq_false c5
      clear c5
      simp only [Option.some.injEq, Prod.mk.injEq] at H
      obtain ⟨rfl, rfl⟩ := H
      go_enter Try.func14, Try.ntmps14
      go_wp2
      go_ret2
      exact ⟨by first | rfl | (simp; done) | (simp [*]; done), by repeat (first | exact Drawn0.refl _ | apply Drawn0.step)⟩

/-! ### wide_Mul3: function 23 -/
def wide_Mul3.f (a0 : Int) (a1 : Int) (a2 : Int) : Option (Int × Int × Int) := (wide_Mul.f a0 a2).bind fun bt108 => ((wide_Mul.f a1 a2).bind fun bt110 => ((wide_Add.f bt108.2 bt110.1 0).bind fun bt112 => (some (IntKind.u64.wrap (bt108.1 + bt112.2), bt112.1, bt110.2))))
set_option maxHeartbeats 8000000 in
set_option maxRecDepth 100000 in
theorem wide_Mul3.calls (a0 : Int) (a1 : Int) (a2 : Int) (r1 : Int) (r2 : Int) (r3 : Int) (w : World) (h : wide_Mul3.f a0 a1 a2 = some (r1, r2, r3)) :
    Calls Try.prog 23 #[.int .u64 a0, .int .u64 a1, .int .u64 a2] w fun e w' => e = .returned (.tuple #[.int .u64 r1, .int .u64 r2, .int .u64 r3]) ∧ Below w.heap.size w w' := by
  have HB := Aside0.mk (Below.refl w.heap.size w)
  have H : ((wide_Mul.f a0 a2).bind fun bt108 => ((wide_Mul.f a1 a2).bind fun bt110 => ((wide_Add.f bt108.2 bt110.1 0).bind fun bt112 => (some (IntKind.u64.wrap (bt108.1 + bt112.2), bt112.1, bt110.2))))) = some (r1, r2, r3) := h
  clear h
  replace H := Option.bind_eq_some_iff.mp H
  obtain ⟨⟨t108, t109⟩, A40, H⟩ := H
  replace H : ((wide_Mul.f a1 a2).bind fun bt110 => ((wide_Add.f t109 bt110.1 0).bind fun bt112 => (some (IntKind.u64.wrap (t108 + bt112.2), bt112.1, bt110.2)))) = some (r1, r2, r3) := H
  have A4 := Aside0.mk A40
  clear A40
  replace H := Option.bind_eq_some_iff.mp H
  obtain ⟨⟨t110, t111⟩, A50, H⟩ := H
  replace H : ((wide_Add.f t109 t110 0).bind fun bt112 => (some (IntKind.u64.wrap (t108 + bt112.2), bt112.1, t111))) = some (r1, r2, r3) := H
  have A5 := Aside0.mk A50
  clear A50
  replace H := Option.bind_eq_some_iff.mp H
  obtain ⟨⟨t112, t113⟩, A60, H⟩ := H
  replace H : (some (IntKind.u64.wrap (t108 + t113), t112, t111)) = some (r1, r2, r3) := H
  have A6 := Aside0.mk A60
  clear A60
  simp only [Option.some.injEq, Prod.mk.injEq] at H
  obtain ⟨rfl, rfl, rfl⟩ := H
  go_enter Try.func23, Try.ntmps23
  go_wp2_with (first | ((with_reducible refine gate_callee (f := 18) rfl ?_); refine goesL_ (some 17) rfl rfl Try.func18 (by kernel_rfl) rfl #[.int .u64 a0, .int .u64 a2] rfl (by (try simp only [List.map_toArray, List.map_cons, List.map_nil]); first | done | rfl | (simp only [List.length_drop, List.length_take]; rfl)) ?_; (with_reducible refine (wide_Mul.calls a0 a2 t108 t109 _ A4.out).mono ?_); rintro e w7 ⟨rfl, hb⟩; refine ⟨_, rfl, ?_⟩; have n0_ := Aside0.mk (below_step (by repeat (first | (with_reducible first | exact HB.out | apply below_alloc | apply pw_below_drewN | apply below_drew1) | exact HB.out)) hb); clear HB; have HB := n0_; clear n0_; (try clear hb); (try clear hb2); (try clear hk); (try clear hi)) | ((with_reducible refine gate_callee (f := 18) rfl ?_); refine goesL_ (some 23) rfl rfl Try.func18 (by kernel_rfl) rfl #[.int .u64 a1, .int .u64 a2] rfl (by (try simp only [List.map_toArray, List.map_cons, List.map_nil]); first | done | rfl | (simp only [List.length_drop, List.length_take]; rfl)) ?_; (with_reducible refine (wide_Mul.calls a1 a2 t110 t111 _ A5.out).mono ?_); rintro e w8 ⟨rfl, hb⟩; refine ⟨_, rfl, ?_⟩; have n0_ := Aside0.mk (below_step (by repeat (first | (with_reducible first | exact HB.out | apply below_alloc | apply pw_below_drewN | apply below_drew1) | exact HB.out)) hb); clear HB; have HB := n0_; clear n0_; (try clear hb); (try clear hb2); (try clear hk); (try clear hi)) | ((with_reducible refine gate_callee (f := 14) rfl ?_); refine goesL_ (some 29) rfl rfl Try.func14 (by kernel_rfl) rfl #[.int .u64 t109, .int .u64 t110, .int .u64 0] rfl (by (try simp only [List.map_toArray, List.map_cons, List.map_nil]); first | done | rfl | (simp only [List.length_drop, List.length_take]; rfl)) ?_; (with_reducible refine (wide_Add.calls t109 t110 0 t112 t113 _ A6.out).mono ?_); rintro e w' ⟨rfl, ⟨nd, rfl⟩⟩; refine ⟨_, rfl, ?_⟩))
  go_ret3
  exact ⟨by first | rfl | (simp [errW_none, errW_some] <;> rfl) | (simp [*, errW_none, errW_some] <;> rfl), by repeat (first | (with_reducible first | exact HB.out | apply below_alloc | apply pw_below_drewN | apply below_drew1) | exact HB.out)⟩

/-! ### plumblaw01_WideMuls: function 8 -/
def plumblaw01_WideMuls.f (k : Nat) (a0 : Int) (a1 : Int) (a2 : Int) : Option (Bool) := (wide_Mul.f a0 a1).bind fun bt114 => ((plumbref01_Mul.f k a0 a1).bind fun bt116 => ((wide_Mul3.f a0 a1 a2).bind fun bt118 => ((plumbref01_Mul3.f k a0 a1 a2).bind fun bt121 => (if bt114.1 = bt116.1 then (if bt114.2 = bt116.2 then (if bt118.1 = bt121.1 then (if bt118.2.1 = bt121.2.1 then (some (bt118.2.2 == bt121.2.2)) else (some false)) else (some false)) else (some false)) else (some false)))))
theorem plumblaw01_WideMuls.mono : ∀ a0 a1 a2 k, LeO (plumblaw01_WideMuls.f k a0 a1 a2) (plumblaw01_WideMuls.f (k + 1) a0 a1 a2) := by
  intro a0 a1 a2 k
  unfold plumblaw01_WideMuls.f
  repeat' first
      | (with_reducible exact plumbref01_Mul.mono _ _ _)
      | (with_reducible exact plumbref01_Mul3.mono _ _ _ _)
      | (with_reducible exact LeO.refl _)
      | (with_reducible exact LeO.none _)
      | (with_reducible refine LeO.ite ?_ ?_)
      | (with_reducible refine LeO.bind ?_ (fun _ => ?_))
      | exact plumbref01_Mul.mono _ _ _
      | exact plumbref01_Mul3.mono _ _ _ _
      | exact LeO.none _
      | refine LeO.ite ?_ ?_
      | refine LeO.bind ?_ (fun _ => ?_)
set_option maxHeartbeats 8000000 in
set_option maxRecDepth 100000 in
theorem plumblaw01_WideMuls.calls (k : Nat) (a0 : Int) (a1 : Int) (a2 : Int) (r : Bool) (w : World) (h : plumblaw01_WideMuls.f k a0 a1 a2 = some r) :
    Calls Try.prog 8 #[.int .u64 a0, .int .u64 a1, .int .u64 a2] w fun e w' => e = .returned (.bool r) ∧ Below w.heap.size w w' := by
  have HB := Aside0.mk (Below.refl w.heap.size w)
  have H : ((wide_Mul.f a0 a1).bind fun bt114 => ((plumbref01_Mul.f k a0 a1).bind fun bt116 => ((wide_Mul3.f a0 a1 a2).bind fun bt118 => ((plumbref01_Mul3.f k a0 a1 a2).bind fun bt121 => (if bt114.1 = bt116.1 then (if bt114.2 = bt116.2 then (if bt118.1 = bt121.1 then (if bt118.2.1 = bt121.2.1 then (some (bt118.2.2 == bt121.2.2)) else (some false)) else (some false)) else (some false)) else (some false)))))) = some r := h
  clear h
  replace H := Option.bind_eq_some_iff.mp H
  obtain ⟨⟨t114, t115⟩, A40, H⟩ := H
  replace H : ((plumbref01_Mul.f k a0 a1).bind fun bt116 => ((wide_Mul3.f a0 a1 a2).bind fun bt118 => ((plumbref01_Mul3.f k a0 a1 a2).bind fun bt121 => (if t114 = bt116.1 then (if t115 = bt116.2 then (if bt118.1 = bt121.1 then (if bt118.2.1 = bt121.2.1 then (some (bt118.2.2 == bt121.2.2)) else (some false)) else (some false)) else (some false)) else (some false))))) = some r := H
  have A4 := Aside0.mk A40
  clear A40
  replace H := Option.bind_eq_some_iff.mp H
  obtain ⟨⟨t116, t117⟩, A50, H⟩ := H
  replace H : ((wide_Mul3.f a0 a1 a2).bind fun bt118 => ((plumbref01_Mul3.f k a0 a1 a2).bind fun bt121 => (if t114 = t116 then (if t115 = t117 then (if bt118.1 = bt121.1 then (if bt118.2.1 = bt121.2.1 then (some (bt118.2.2 == bt121.2.2)) else (some false)) else (some false)) else (some false)) else (some false)))) = some r := H
  have A5 := Aside0.mk A50
  clear A50
  replace H := Option.bind_eq_some_iff.mp H
  obtain ⟨⟨t118, t119, t120⟩, A60, H⟩ := H
  replace H : ((plumbref01_Mul3.f k a0 a1 a2).bind fun bt121 => (if t114 = t116 then (if t115 = t117 then (if t118 = bt121.1 then (if t119 = bt121.2.1 then (some (t120 == bt121.2.2)) else (some false)) else (some false)) else (some false)) else (some false))) = some r := H
  have A6 := Aside0.mk A60
  clear A60
  replace H := Option.bind_eq_some_iff.mp H
  obtain ⟨⟨t121, t122, t123⟩, A70, H⟩ := H
  replace H : (if t114 = t116 then (if t115 = t117 then (if t118 = t121 then (if t119 = t122 then (some (t120 == t123)) else (some false)) else (some false)) else (some false)) else (some false)) = some r := H
  have A7 := Aside0.mk A70
  clear A70
  by_cases c8 : t114 = t116
  · rw [if_pos c8] at H
    have c8b0 : (t114 == t116) = true := beq_iff_eq.mpr c8
    have c8b1 : (t114 != t116) = false := bne_eq_false_iff_eq.mpr c8
    clear c8
    by_cases c9 : t115 = t117
    · rw [if_pos c9] at H
      have c9b0 : (t115 == t117) = true := beq_iff_eq.mpr c9
      have c9b1 : (t115 != t117) = false := bne_eq_false_iff_eq.mpr c9
      clear c9
      by_cases c10 : t118 = t121
      · rw [if_pos c10] at H
        have c10b0 : (t118 == t121) = true := beq_iff_eq.mpr c10
        have c10b1 : (t118 != t121) = false := bne_eq_false_iff_eq.mpr c10
        clear c10
        by_cases c11 : t119 = t122
        · rw [if_pos c11] at H
          have c11b0 : (t119 == t122) = true := beq_iff_eq.mpr c11
          have c11b1 : (t119 != t122) = false := bne_eq_false_iff_eq.mpr c11
          clear c11
          obtain rfl := Option.some.inj H
          go_enter Try.func8, Try.ntmps8
          go_wp2_with (first | ((with_reducible refine gate_callee (f := 18) rfl ?_); refine goesL_ (some 20) rfl rfl Try.func18 (by kernel_rfl) rfl #[.int .u64 a0, .int .u64 a1] rfl (by (try simp only [List.map_toArray, List.map_cons, List.map_nil]); first | done | rfl | (simp only [List.length_drop, List.length_take]; rfl)) ?_; (with_reducible refine (wide_Mul.calls a0 a1 t114 t115 _ A4.out).mono ?_); rintro e w12 ⟨rfl, hb⟩; refine ⟨_, rfl, ?_⟩; have n0_ := Aside0.mk (below_step (by repeat (first | (with_reducible first | exact HB.out | apply below_alloc | apply pw_below_drewN | apply below_drew1) | exact HB.out)) hb); clear HB; have HB := n0_; clear n0_; (try clear hb); (try clear hb2); (try clear hk); (try clear hi)) | ((with_reducible refine gate_callee (f := 22) rfl ?_); refine goesL_ (some 26) rfl rfl Try.func22 (by kernel_rfl) rfl #[.int .u64 a0, .int .u64 a1] rfl (by (try simp only [List.map_toArray, List.map_cons, List.map_nil]); first | done | rfl | (simp only [List.length_drop, List.length_take]; rfl)) ?_; (with_reducible refine (plumbref01_Mul.calls k a0 a1 t116 t117 _ A5.out).mono ?_); rintro e w' ⟨rfl, ⟨nd, rfl⟩⟩; refine ⟨_, rfl, ?_⟩) | ((with_reducible refine gate_callee (f := 23) rfl ?_); refine goesL_ (some 33) rfl rfl Try.func23 (by kernel_rfl) rfl #[.int .u64 a0, .int .u64 a1, .int .u64 a2] rfl (by (try simp only [List.map_toArray, List.map_cons, List.map_nil]); first | done | rfl | (simp only [List.length_drop, List.length_take]; rfl)) ?_; (with_reducible refine (wide_Mul3.calls a0 a1 a2 t118 t119 t120 _ A6.out).mono ?_); rintro e w13 ⟨rfl, hb⟩; refine ⟨_, rfl, ?_⟩; have n0_ := Aside0.mk (below_step (by repeat (first | (with_reducible first | exact HB.out | apply below_alloc | apply pw_below_drewN | apply below_drew1) | exact HB.out)) hb); clear HB; have HB := n0_; clear n0_; (try clear hb); (try clear hb2); (try clear hk); (try clear hi)) | ((with_reducible refine gate_callee (f := 24) rfl ?_); refine goesL_ (some 41) rfl rfl Try.func24 (by kernel_rfl) rfl #[.int .u64 a0, .int .u64 a1, .int .u64 a2] rfl (by (try simp only [List.map_toArray, List.map_cons, List.map_nil]); first | done | rfl | (simp only [List.length_drop, List.length_take]; rfl)) ?_; (with_reducible refine (plumbref01_Mul3.calls k a0 a1 a2 t121 t122 t123 _ A7.out).mono ?_); rintro e w' ⟨rfl, ⟨nd, rfl⟩⟩; refine ⟨_, rfl, ?_⟩))
          go_ret
          exact ⟨by first | rfl | (simp [errW_none, errW_some] <;> rfl) | (simp [*, errW_none, errW_some] <;> rfl), by repeat (first | (with_reducible first | exact HB.out | apply below_alloc | apply pw_below_drewN | apply below_drew1) | exact HB.out)⟩
        · rw [if_neg c11] at H
          have c11b0 : (t119 == t122) = false := beq_eq_false_iff_ne.mpr c11
          have c11b1 : (t119 != t122) = true := bne_iff_ne.mpr c11
          obtain rfl := Option.some.inj H
          go_enter Try.func8, Try.ntmps8
          go_wp2_with (first | ((with_reducible refine gate_callee (f := 18) rfl ?_); refine goesL_ (some 20) rfl rfl Try.func18 (by kernel_rfl) rfl #[.int .u64 a0, .int .u64 a1] rfl (by (try simp only [List.map_toArray, List.map_cons, List.map_nil]); first | done | rfl | (simp only [List.length_drop, List.length_take]; rfl)) ?_; (with_reducible refine (wide_Mul.calls a0 a1 t114 t115 _ A4.out).mono ?_); rintro e w14 ⟨rfl, hb⟩; refine ⟨_, rfl, ?_⟩; have n0_ := Aside0.mk (below_step (by repeat (first | (with_reducible first | exact HB.out | apply below_alloc | apply pw_below_drewN | apply below_drew1) | exact HB.out)) hb); clear HB; have HB := n0_; clear n0_; (try clear hb); (try clear hb2); (try clear hk); (try clear hi)) | ((with_reducible refine gate_callee (f := 22) rfl ?_); refine goesL_ (some 26) rfl rfl Try.func22 (by kernel_rfl) rfl #[.int .u64 a0, .int .u64 a1] rfl (by (try simp only [List.map_toArray, List.map_cons, List.map_nil]); first | done | rfl | (simp only [List.length_drop, List.length_take]; rfl)) ?_; (with_reducible refine (plumbref01_Mul.calls k a0 a1 t116 t117 _ A5.out).mono ?_); rintro e w' ⟨rfl, ⟨nd, rfl⟩⟩; refine ⟨_, rfl, ?_⟩) | ((with_reducible refine gate_callee (f := 23) rfl ?_); refine goesL_ (some 33) rfl rfl Try.func23 (by kernel_rfl) rfl #[.int .u64 a0, .int .u64 a1, .int .u64 a2] rfl (by (try simp only [List.map_toArray, List.map_cons, List.map_nil]); first | done | rfl | (simp only [List.length_drop, List.length_take]; rfl)) ?_; (with_reducible refine (wide_Mul3.calls a0 a1 a2 t118 t119 t120 _ A6.out).mono ?_); rintro e w15 ⟨rfl, hb⟩; refine ⟨_, rfl, ?_⟩; have n0_ := Aside0.mk (below_step (by repeat (first | (with_reducible first | exact HB.out | apply below_alloc | apply pw_below_drewN | apply below_drew1) | exact HB.out)) hb); clear HB; have HB := n0_; clear n0_; (try clear hb); (try clear hb2); (try clear hk); (try clear hi)) | ((with_reducible refine gate_callee (f := 24) rfl ?_); refine goesL_ (some 41) rfl rfl Try.func24 (by kernel_rfl) rfl #[.int .u64 a0, .int .u64 a1, .int .u64 a2] rfl (by (try simp only [List.map_toArray, List.map_cons, List.map_nil]); first | done | rfl | (simp only [List.length_drop, List.length_take]; rfl)) ?_; (with_reducible refine (plumbref01_Mul3.calls k a0 a1 a2 t121 t122 t123 _ A7.out).mono ?_); rintro e w' ⟨rfl, ⟨nd, rfl⟩⟩; refine ⟨_, rfl, ?_⟩))
          go_ret
          exact ⟨by first | rfl | (simp [errW_none, errW_some] <;> rfl) | (simp [*, errW_none, errW_some] <;> rfl), by repeat (first | (with_reducible first | exact HB.out | apply below_alloc | apply pw_below_drewN | apply below_drew1) | exact HB.out)⟩
      · rw [if_neg c10] at H
        have c10b0 : (t118 == t121) = false := beq_eq_false_iff_ne.mpr c10
        have c10b1 : (t118 != t121) = true := bne_iff_ne.mpr c10
        obtain rfl := Option.some.inj H
        go_enter Try.func8, Try.ntmps8
        go_wp2_with (first | ((with_reducible refine gate_callee (f := 18) rfl ?_); refine goesL_ (some 20) rfl rfl Try.func18 (by kernel_rfl) rfl #[.int .u64 a0, .int .u64 a1] rfl (by (try simp only [List.map_toArray, List.map_cons, List.map_nil]); first | done | rfl | (simp only [List.length_drop, List.length_take]; rfl)) ?_; (with_reducible refine (wide_Mul.calls a0 a1 t114 t115 _ A4.out).mono ?_); rintro e w16 ⟨rfl, hb⟩; refine ⟨_, rfl, ?_⟩; have n0_ := Aside0.mk (below_step (by repeat (first | (with_reducible first | exact HB.out | apply below_alloc | apply pw_below_drewN | apply below_drew1) | exact HB.out)) hb); clear HB; have HB := n0_; clear n0_; (try clear hb); (try clear hb2); (try clear hk); (try clear hi)) | ((with_reducible refine gate_callee (f := 22) rfl ?_); refine goesL_ (some 26) rfl rfl Try.func22 (by kernel_rfl) rfl #[.int .u64 a0, .int .u64 a1] rfl (by (try simp only [List.map_toArray, List.map_cons, List.map_nil]); first | done | rfl | (simp only [List.length_drop, List.length_take]; rfl)) ?_; (with_reducible refine (plumbref01_Mul.calls k a0 a1 t116 t117 _ A5.out).mono ?_); rintro e w' ⟨rfl, ⟨nd, rfl⟩⟩; refine ⟨_, rfl, ?_⟩) | ((with_reducible refine gate_callee (f := 23) rfl ?_); refine goesL_ (some 33) rfl rfl Try.func23 (by kernel_rfl) rfl #[.int .u64 a0, .int .u64 a1, .int .u64 a2] rfl (by (try simp only [List.map_toArray, List.map_cons, List.map_nil]); first | done | rfl | (simp only [List.length_drop, List.length_take]; rfl)) ?_; (with_reducible refine (wide_Mul3.calls a0 a1 a2 t118 t119 t120 _ A6.out).mono ?_); rintro e w17 ⟨rfl, hb⟩; refine ⟨_, rfl, ?_⟩; have n0_ := Aside0.mk (below_step (by repeat (first | (with_reducible first | exact HB.out | apply below_alloc | apply pw_below_drewN | apply below_drew1) | exact HB.out)) hb); clear HB; have HB := n0_; clear n0_; (try clear hb); (try clear hb2); (try clear hk); (try clear hi)) | ((with_reducible refine gate_callee (f := 24) rfl ?_); refine goesL_ (some 41) rfl rfl Try.func24 (by kernel_rfl) rfl #[.int .u64 a0, .int .u64 a1, .int .u64 a2] rfl (by (try simp only [List.map_toArray, List.map_cons, List.map_nil]); first | done | rfl | (simp only [List.length_drop, List.length_take]; rfl)) ?_; (with_reducible refine (plumbref01_Mul3.calls k a0 a1 a2 t121 t122 t123 _ A7.out).mono ?_); rintro e w' ⟨rfl, ⟨nd, rfl⟩⟩; refine ⟨_, rfl, ?_⟩))
        go_ret
        exact ⟨by first | rfl | (simp [errW_none, errW_some] <;> rfl) | (simp [*, errW_none, errW_some] <;> rfl), by repeat (first | (with_reducible first | exact HB.out | apply below_alloc | apply pw_below_drewN | apply below_drew1) | exact HB.out)⟩
    · rw [if_neg c9] at H
      have c9b0 : (t115 == t117) = false := beq_eq_false_iff_ne.mpr c9
      have c9b1 : (t115 != t117) = true := bne_iff_ne.mpr c9
      obtain rfl := Option.some.inj H
      go_enter Try.func8, Try.ntmps8
      go_wp2_with (first | ((with_reducible refine gate_callee (f := 18) rfl ?_); refine goesL_ (some 20) rfl rfl Try.func18 (by kernel_rfl) rfl #[.int .u64 a0, .int .u64 a1] rfl (by (try simp only [List.map_toArray, List.map_cons, List.map_nil]); first | done | rfl | (simp only [List.length_drop, List.length_take]; rfl)) ?_; (with_reducible refine (wide_Mul.calls a0 a1 t114 t115 _ A4.out).mono ?_); rintro e w18 ⟨rfl, hb⟩; refine ⟨_, rfl, ?_⟩; have n0_ := Aside0.mk (below_step (by repeat (first | (with_reducible first | exact HB.out | apply below_alloc | apply pw_below_drewN | apply below_drew1) | exact HB.out)) hb); clear HB; have HB := n0_; clear n0_; (try clear hb); (try clear hb2); (try clear hk); (try clear hi)) | ((with_reducible refine gate_callee (f := 22) rfl ?_); refine goesL_ (some 26) rfl rfl Try.func22 (by kernel_rfl) rfl #[.int .u64 a0, .int .u64 a1] rfl (by (try simp only [List.map_toArray, List.map_cons, List.map_nil]); first | done | rfl | (simp only [List.length_drop, List.length_take]; rfl)) ?_; (with_reducible refine (plumbref01_Mul.calls k a0 a1 t116 t117 _ A5.out).mono ?_); rintro e w' ⟨rfl, ⟨nd, rfl⟩⟩; refine ⟨_, rfl, ?_⟩) | ((with_reducible refine gate_callee (f := 23) rfl ?_); refine goesL_ (some 33) rfl rfl Try.func23 (by kernel_rfl) rfl #[.int .u64 a0, .int .u64 a1, .int .u64 a2] rfl (by (try simp only [List.map_toArray, List.map_cons, List.map_nil]); first | done | rfl | (simp only [List.length_drop, List.length_take]; rfl)) ?_; (with_reducible refine (wide_Mul3.calls a0 a1 a2 t118 t119 t120 _ A6.out).mono ?_); rintro e w19 ⟨rfl, hb⟩; refine ⟨_, rfl, ?_⟩; have n0_ := Aside0.mk (below_step (by repeat (first | (with_reducible first | exact HB.out | apply below_alloc | apply pw_below_drewN | apply below_drew1) | exact HB.out)) hb); clear HB; have HB := n0_; clear n0_; (try clear hb); (try clear hb2); (try clear hk); (try clear hi)) | ((with_reducible refine gate_callee (f := 24) rfl ?_); refine goesL_ (some 41) rfl rfl Try.func24 (by kernel_rfl) rfl #[.int .u64 a0, .int .u64 a1, .int .u64 a2] rfl (by (try simp only [List.map_toArray, List.map_cons, List.map_nil]); first | done | rfl | (simp only [List.length_drop, List.length_take]; rfl)) ?_; (with_reducible refine (plumbref01_Mul3.calls k a0 a1 a2 t121 t122 t123 _ A7.out).mono ?_); rintro e w' ⟨rfl, ⟨nd, rfl⟩⟩; refine ⟨_, rfl, ?_⟩))
      go_ret
      exact ⟨by first | rfl | (simp [errW_none, errW_some] <;> rfl) | (simp [*, errW_none, errW_some] <;> rfl), by repeat (first | (with_reducible first | exact HB.out | apply below_alloc | apply pw_below_drewN | apply below_drew1) | exact HB.out)⟩
  · rw [if_neg c8] at H
    have c8b0 : (t114 == t116) = false := beq_eq_false_iff_ne.mpr c8
    have c8b1 : (t114 != t116) = true := bne_iff_ne.mpr c8
    obtain rfl := Option.some.inj H
    go_enter Try.func8, Try.ntmps8
    go_wp2_with (first | ((with_reducible refine gate_callee (f := 18) rfl ?_); refine goesL_ (some 20) rfl rfl Try.func18 (by kernel_rfl) rfl #[.int .u64 a0, .int .u64 a1] rfl (by (try simp only [List.map_toArray, List.map_cons, List.map_nil]); first | done | rfl | (simp only [List.length_drop, List.length_take]; rfl)) ?_; (with_reducible refine (wide_Mul.calls a0 a1 t114 t115 _ A4.out).mono ?_); rintro e w20 ⟨rfl, hb⟩; refine ⟨_, rfl, ?_⟩; have n0_ := Aside0.mk (below_step (by repeat (first | (with_reducible first | exact HB.out | apply below_alloc | apply pw_below_drewN | apply below_drew1) | exact HB.out)) hb); clear HB; have HB := n0_; clear n0_; (try clear hb); (try clear hb2); (try clear hk); (try clear hi)) | ((with_reducible refine gate_callee (f := 22) rfl ?_); refine goesL_ (some 26) rfl rfl Try.func22 (by kernel_rfl) rfl #[.int .u64 a0, .int .u64 a1] rfl (by (try simp only [List.map_toArray, List.map_cons, List.map_nil]); first | done | rfl | (simp only [List.length_drop, List.length_take]; rfl)) ?_; (with_reducible refine (plumbref01_Mul.calls k a0 a1 t116 t117 _ A5.out).mono ?_); rintro e w' ⟨rfl, ⟨nd, rfl⟩⟩; refine ⟨_, rfl, ?_⟩) | ((with_reducible refine gate_callee (f := 23) rfl ?_); refine goesL_ (some 33) rfl rfl Try.func23 (by kernel_rfl) rfl #[.int .u64 a0, .int .u64 a1, .int .u64 a2] rfl (by (try simp only [List.map_toArray, List.map_cons, List.map_nil]); first | done | rfl | (simp only [List.length_drop, List.length_take]; rfl)) ?_; (with_reducible refine (wide_Mul3.calls a0 a1 a2 t118 t119 t120 _ A6.out).mono ?_); rintro e w21 ⟨rfl, hb⟩; refine ⟨_, rfl, ?_⟩; have n0_ := Aside0.mk (below_step (by repeat (first | (with_reducible first | exact HB.out | apply below_alloc | apply pw_below_drewN | apply below_drew1) | exact HB.out)) hb); clear HB; have HB := n0_; clear n0_; (try clear hb); (try clear hb2); (try clear hk); (try clear hi)) | ((with_reducible refine gate_callee (f := 24) rfl ?_); refine goesL_ (some 41) rfl rfl Try.func24 (by kernel_rfl) rfl #[.int .u64 a0, .int .u64 a1, .int .u64 a2] rfl (by (try simp only [List.map_toArray, List.map_cons, List.map_nil]); first | done | rfl | (simp only [List.length_drop, List.length_take]; rfl)) ?_; (with_reducible refine (plumbref01_Mul3.calls k a0 a1 a2 t121 t122 t123 _ A7.out).mono ?_); rintro e w' ⟨rfl, ⟨nd, rfl⟩⟩; refine ⟨_, rfl, ?_⟩))
    go_ret
    exact ⟨by first | rfl | (simp [errW_none, errW_some] <;> rfl) | (simp [*, errW_none, errW_some] <;> rfl), by repeat (first | (with_reducible first | exact HB.out | apply below_alloc | apply pw_below_drewN | apply below_drew1) | exact HB.out)⟩

/-- THE ONE PURE STATEMENT of plumblaw01_WideMuls: yours. -/
def plumblaw01_WideMuls.Pure : Prop := ∀ (a0 : Int) (a1 : Int) (a2 : Int), (Lit.int .u64 a0).wf = true → (Lit.int .u64 a1).wf = true → (Lit.int .u64 a2).wf = true → ∃ k, plumblaw01_WideMuls.f k a0 a1 a2 = some true
theorem plumblaw01_WideMuls.walk (P : plumblaw01_WideMuls.Pure) (a0 : Int) (a1 : Int) (a2 : Int) (w : World) (w0 : (Lit.int .u64 a0).wf = true) (w1 : (Lit.int .u64 a1).wf = true) (w2 : (Lit.int .u64 a2).wf = true) :
    Calls Try.prog 8 #[.int .u64 a0, .int .u64 a1, .int .u64 a2] w fun e w' => e = .returned (.bool true) ∧ Below w.heap.size w w' := by
  obtain ⟨k, h⟩ := P a0 a1 a2 w0 w1 w2
  refine (plumblaw01_WideMuls.calls k a0 a1 a2 true w h).mono ?_
  rintro e w' ⟨rfl, hd⟩
  exact ⟨rfl, hd⟩

end Go.Proofs.Ythinhdnbhkppgaa.PWideMuls
