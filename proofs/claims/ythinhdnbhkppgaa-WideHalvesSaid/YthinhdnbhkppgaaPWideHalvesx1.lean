/- Go functions as Lean functions and their contracts: each call comes to what the Lean function says; or a law's row out of them. No conditions. Written by this session's wip/hprint.py (the kit's print with contracts and repairs of my own). -/
import Derived.Test.YthinhdnbhkppgaaPWideHalvesx0
namespace Go.Proofs.Ythinhdnbhkppgaa.PWideHalves
open Go.RowKit Go.Proofs.YthinhdnbhkppgaaW.PrintWords Go.Proofs.YthinhdnbhkppgaaW.PrintLast Go.Proofs.YthinhdnbhkppgaaW.PrintMore
attribute [local go_sem] max2_int min2_int max_two min_two max_three min_three max_four min_four   -- for this text's walks alone
set_option linter.unusedVariables false
set_option linter.unusedSimpArgs false

/-! ### wide_Mul: function 18, by hand -/
def wide_Mul.f (a0 a1 : Int) : Option (Int × Int) := if 0 ≤ a0 ∧ a0 ≤ 18446744073709551615 ∧ 0 ≤ a1 ∧ a1 ≤ 18446744073709551615 then some (a0 * a1 / 18446744073709551616, a0 * a1 % 18446744073709551616) else none
theorem hand_blk_new_at (w : World) (o : Obj) (g : Nat) (hg : g = w.heap.size) : (w.alloc o).heap[g]? = some o := by rw [hg]; exact blk_new w o
theorem hand_wp_world {P : Program} {c : Code} {Q : Exit → Act → World → Prop} {a : Act} {W0 : World} (R : World → Prop) (h0 : R W0) (h : ∀ W, R W → c.wp P Q a W) : c.wp P Q a W0 := h W0 h0

theorem hand_and32 {a : Int} (h0 : 0 ≤ a) (h1 : a ≤ 18446744073709551615) : bits BinOp.and IntKind.u64 a 4294967295 = a % 4294967296 := by
  obtain ⟨n, rfl⟩ := Int.eq_ofNat_of_zero_le h0
  have := u64_and_nat n 4294967295 (by omega) (by omega)
  rw [show ((4294967295 : Nat) : Int) = 4294967295 from rfl] at this
  rw [this, show (4294967295 : Nat) = 2 ^ 32 - 1 from rfl, Nat.and_two_pow_sub_one_eq_mod]
  omega
theorem hand_or32 {a b : Int} (h0 : 0 ≤ a) (h1 : a < 4294967296) (h2 : 0 ≤ b) (h3 : b < 4294967296) : bits BinOp.or IntKind.u64 (a * 4294967296) b = a * 4294967296 + b := by
  obtain ⟨n, rfl⟩ := Int.eq_ofNat_of_zero_le h0
  obtain ⟨m, rfl⟩ := Int.eq_ofNat_of_zero_le h2
  have := u64_or_nat (n * 4294967296) m (by omega) (by omega)
  rw [show (n : Int) * 4294967296 = ((n * 4294967296 : Nat) : Int) from by omega, this]
  have h := Nat.two_pow_add_eq_or_of_lt (i := 32) (b := m) (by omega) n
  rw [show n * 4294967296 = 2 ^ 32 * n from by omega, ← h]
  omega
theorem hand_mulB {x y : Int} (hx0 : 0 ≤ x) (hx1 : x ≤ 4294967295) (hy0 : 0 ≤ y) (hy1 : y ≤ 4294967295) : 0 ≤ x * y ∧ x * y ≤ 18446744065119617025 := by
  refine ⟨Int.mul_nonneg hx0 hy0, ?_⟩
  have h1 : x * y ≤ 4294967295 * y := Int.mul_le_mul_of_nonneg_right hx1 hy0
  omega

set_option maxHeartbeats 1000000 in
set_option maxRecDepth 100000 in
theorem wide_Mul.any (a b : Int) (w : World) (ha0 : 0 ≤ a) (ha1 : a ≤ 18446744073709551615) (hb0 : 0 ≤ b) (hb1 : b ≤ 18446744073709551615) :
    Calls Try.prog 18 #[.int .u64 a, .int .u64 b] w fun e w' => e = .returned (.tuple #[.int .u64 (a * b / 18446744073709551616), .int .u64 (a * b % 18446744073709551616)]) ∧ Below w.heap.size w w' := by
  obtain ⟨x0, hx0⟩ : ∃ x, bits BinOp.and IntKind.u64 a 4294967295 = x := ⟨_, rfl⟩
  obtain ⟨x1, hx1⟩ : ∃ x, a / 4294967296 = x := ⟨_, rfl⟩
  obtain ⟨y0, hy0⟩ : ∃ x, bits BinOp.and IntKind.u64 b 4294967295 = x := ⟨_, rfl⟩
  obtain ⟨y1, hy1⟩ : ∃ x, b / 4294967296 = x := ⟨_, rfl⟩
  have ex0 : a % 4294967296 = x0 := (hand_and32 ha0 ha1).symm.trans hx0
  have ey0 : b % 4294967296 = y0 := (hand_and32 hb0 hb1).symm.trans hy0
  obtain ⟨p00, h00⟩ : ∃ p, x0 * y0 = p := ⟨_, rfl⟩
  obtain ⟨p01, h01⟩ : ∃ p, x0 * y1 = p := ⟨_, rfl⟩
  obtain ⟨p10, h10⟩ : ∃ p, x1 * y0 = p := ⟨_, rfl⟩
  obtain ⟨p11, h11⟩ : ∃ p, x1 * y1 = p := ⟨_, rfl⟩
  have b00 : 0 ≤ p00 ∧ p00 ≤ 18446744065119617025 := h00 ▸ hand_mulB (by omega) (by omega) (by omega) (by omega)
  have b01 : 0 ≤ p01 ∧ p01 ≤ 18446744065119617025 := h01 ▸ hand_mulB (by omega) (by omega) (by omega) (by omega)
  have b10 : 0 ≤ p10 ∧ p10 ≤ 18446744065119617025 := h10 ▸ hand_mulB (by omega) (by omega) (by omega) (by omega)
  have b11 : 0 ≤ p11 ∧ p11 ≤ 18446744065119617025 := h11 ▸ hand_mulB (by omega) (by omega) (by omega) (by omega)
  have hab : a * b = p00 + 4294967296 * p01 + 4294967296 * p10 + 18446744073709551616 * p11 := by
    have e1 : a = x0 + 4294967296 * x1 := by omega
    have e2 : b = y0 + 4294967296 * y1 := by omega
    rw [e1, e2, ← h00, ← h01, ← h10, ← h11, Int.add_mul, Int.mul_add, Int.mul_add, Int.mul_left_comm x0, Int.mul_assoc, Int.mul_assoc, Int.mul_left_comm x1]
    omega
  have HAB := Aside0.mk hab
  clear hab
  obtain ⟨l0, hl0⟩ : ∃ x, bits BinOp.and IntKind.u64 p00 4294967295 = x := ⟨_, rfl⟩
  have el0 : p00 % 4294967296 = l0 := (hand_and32 (by omega) (by omega)).symm.trans hl0
  obtain ⟨c0, hc0⟩ : ∃ x, p00 / 4294967296 = x := ⟨_, rfl⟩
  have bc0 : 0 ≤ c0 ∧ c0 ≤ 4294967295 := by omega
  obtain ⟨s1, hs1⟩ : ∃ x, p01 + c0 = x := ⟨_, rfl⟩
  have bs1 : 0 ≤ s1 ∧ s1 ≤ 18446744073709551615 := by omega
  obtain ⟨l1, hl1⟩ : ∃ x, bits BinOp.and IntKind.u64 s1 4294967295 = x := ⟨_, rfl⟩
  have el1 : s1 % 4294967296 = l1 := (hand_and32 (by omega) (by omega)).symm.trans hl1
  obtain ⟨c1, hc1⟩ : ∃ x, s1 / 4294967296 = x := ⟨_, rfl⟩
  have bc1 : 0 ≤ c1 ∧ c1 ≤ 4294967295 := by omega
  have bl1 : 0 ≤ l1 ∧ l1 ≤ 4294967295 := by omega
  obtain ⟨s2, hs2⟩ : ∃ x, p10 + l1 = x := ⟨_, rfl⟩
  have bs2 : 0 ≤ s2 ∧ s2 ≤ 18446744073709551615 := by omega
  obtain ⟨l2, hl2⟩ : ∃ x, bits BinOp.and IntKind.u64 s2 4294967295 = x := ⟨_, rfl⟩
  have el2 : s2 % 4294967296 = l2 := (hand_and32 (by omega) (by omega)).symm.trans hl2
  obtain ⟨c2, hc2⟩ : ∃ x, s2 / 4294967296 = x := ⟨_, rfl⟩
  have bc2 : 0 ≤ c2 ∧ c2 ≤ 4294967295 := by omega
  obtain ⟨s3, hs3⟩ : ∃ x, p11 + c1 = x := ⟨_, rfl⟩
  have bs3 : 0 ≤ s3 ∧ s3 ≤ 18446744069414584320 := by omega
  obtain ⟨s4, hs4⟩ : ∃ x, s3 + c2 = x := ⟨_, rfl⟩
  have bs4 : 0 ≤ s4 ∧ s4 ≤ 18446744073709551615 := by omega
  obtain ⟨l3, hl3⟩ : ∃ x, bits BinOp.and IntKind.u64 s4 4294967295 = x := ⟨_, rfl⟩
  have el3 : s4 % 4294967296 = l3 := (hand_and32 (by omega) (by omega)).symm.trans hl3
  obtain ⟨c3, hc3⟩ : ∃ x, s4 / 4294967296 = x := ⟨_, rfl⟩
  have bc3 : 0 ≤ c3 ∧ c3 ≤ 4294967295 := by omega
  have bl0 : 0 ≤ l0 ∧ l0 ≤ 4294967295 := by omega
  have bl2 : 0 ≤ l2 ∧ l2 ≤ 4294967295 := by omega
  have bl3 : 0 ≤ l3 ∧ l3 ≤ 4294967295 := by omega
  have fin1 : c3 * 4294967296 + l3 = a * b / 18446744073709551616 := by rw [HAB.out]; omega
  have fin2 : l2 * 4294967296 + l0 = a * b % 18446744073709551616 := by rw [HAB.out]; omega
  have FIN1 := Aside0.mk fin1
  have FIN2 := Aside0.mk fin2
  clear fin1 fin2 HAB ex0 ey0 el0 el1 el2 el3
  have bb0 : bits BinOp.or IntKind.u64 (c3 * 4294967296) l3 = c3 * 4294967296 + l3 := hand_or32 (by omega) (by omega) (by omega) (by omega)
  have bb1 : bits BinOp.or IntKind.u64 (l2 * 4294967296) l0 = l2 * 4294967296 + l0 := hand_or32 (by omega) (by omega) (by omega) (by omega)
  have bq1 := b00.1; have bq2 := b00.2; have bq3 := b01.1; have bq4 := b01.2; have bq5 := b10.1; have bq6 := b10.2; have bq7 := b11.1; have bq8 := b11.2
  go_enter Try.func18, Try.ntmps18
  go_wp2
  refine wp_loop_rounds 3 ?_
  rw [rounds_succ]
  go_wp2
  refine wp_loop_rounds 3 ?_
  rw [rounds_succ]
  go_wp2
  go_quiet (fail)
  go_wp2
  rw [rounds_succ]
  go_wp2
  go_quiet (fail)
  go_wp2
  rw [rounds_succ]
  go_wp2
  rw [rounds_succ]
  go_wp2
  refine wp_loop_rounds 3 ?_
  rw [rounds_succ]
  go_wp2
  go_quiet (fail)
  go_wp2
  rw [rounds_succ]
  go_wp2
  go_quiet (fail)
  go_wp2
  rw [rounds_succ]
  go_wp2
  rw [rounds_succ]
  go_wp2
  refine hand_wp_world (fun W => W.heap[w.heap.size + 1 + 1]? = some (.cells #[.int .u64 l0, .int .u64 l2, .int .u64 l3, .int .u64 c3] 50 (0, 0)) ∧ Below w.heap.size w W) ?_ ?_
  · refine ⟨?_, ?_⟩
    · refine blk_put (cs := #[.int .u64 l0, .int .u64 l2, .int .u64 l3, .int .u64 0]) ?_ 3 _ rfl
      refine blk_put (cs := #[.int .u64 l0, .int .u64 l2, .int .u64 c1, .int .u64 0]) ?_ 2 _ rfl
      refine blk_drewN ?_ _
      refine blk_put (cs := #[.int .u64 l0, .int .u64 l1, .int .u64 c1, .int .u64 0]) ?_ 1 _ rfl
      refine blk_drewN ?_ _
      refine blk_put (cs := #[.int .u64 l0, .int .u64 l1, .int .u64 0, .int .u64 0]) ?_ 2 _ rfl
      refine blk_put (cs := #[.int .u64 l0, .int .u64 0, .int .u64 0, .int .u64 0]) ?_ 1 _ rfl
      refine blk_drewN ?_ _
      refine blk_put (cs := #[.int .u64 0, .int .u64 0, .int .u64 0, .int .u64 0]) ?_ 0 _ rfl
      refine blk_drewN ?_ _
      exact hand_blk_new_at _ _ _ (by simp)
    · repeat (with_reducible first | exact Below.refl _ _ | refine Below.alloc ?_ (by simp <;> omega) _ | refine pw_below_drewN ?_ _ | refine Below.setCell ?_ (by simp <;> omega) _)
  · rintro W ⟨HC, HB⟩
    have q0 := blk_cell HC 0
    have q1 := blk_cell HC 1
    have q2 := blk_cell HC 2
    have q3 := blk_cell HC 3
    clear HC
    simp only [List.getElem?_toArray, List.getElem?_cons_zero, List.getElem?_cons_succ] at q0 q1 q2 q3
    go_region
    go_wp2
    go_ret2
    exact ⟨by rw [← FIN1.out, ← FIN2.out]; rfl, HB.drew⟩
theorem wide_Mul.calls (a0 a1 r1 r2 : Int) (w : World) (h : wide_Mul.f a0 a1 = some (r1, r2)) :
    Calls Try.prog 18 #[.int .u64 a0, .int .u64 a1] w fun e w' => e = .returned (.tuple #[.int .u64 r1, .int .u64 r2]) ∧ Below w.heap.size w w' := by
  unfold wide_Mul.f at h
  split at h
  · rename_i hb
    obtain ⟨h0, h1, h2, h3⟩ := hb
    simp only [Option.some.injEq, Prod.mk.injEq] at h
    obtain ⟨rfl, rfl⟩ := h
    exact wide_Mul.any a0 a1 w h0 h1 h2 h3
  · cases h

/-! ### plumblaw01_WideHalves: function 4 -/
def plumblaw01_WideHalves.f (a0 : Int) (a1 : Int) : Option (Bool) := (wide_Mul.f a0 a1).bind fun bt101 => (if bt101.1 = (IntKind.u64.wrap ((IntKind.u64.wrap (((IntKind.u64.wrap ((IntKind.u64.wrap ((a0 / 4294967296) * (Go.bits .and .u64 a1 4294967295))) + ((IntKind.u64.wrap ((Go.bits .and .u64 a0 4294967295) * (Go.bits .and .u64 a1 4294967295))) / 4294967296))) / 4294967296) + (IntKind.u64.wrap ((a0 / 4294967296) * (a1 / 4294967296))))) + ((IntKind.u64.wrap ((Go.bits .and .u64 (IntKind.u64.wrap ((IntKind.u64.wrap ((a0 / 4294967296) * (Go.bits .and .u64 a1 4294967295))) + ((IntKind.u64.wrap ((Go.bits .and .u64 a0 4294967295) * (Go.bits .and .u64 a1 4294967295))) / 4294967296))) 4294967295) + (IntKind.u64.wrap ((Go.bits .and .u64 a0 4294967295) * (a1 / 4294967296))))) / 4294967296))) then (some (bt101.2 == (IntKind.u64.wrap ((Go.bits .and .u64 (IntKind.u64.wrap ((Go.bits .and .u64 a0 4294967295) * (Go.bits .and .u64 a1 4294967295))) 4294967295) + (IntKind.u64.wrap ((IntKind.u64.wrap ((Go.bits .and .u64 (IntKind.u64.wrap ((IntKind.u64.wrap ((a0 / 4294967296) * (Go.bits .and .u64 a1 4294967295))) + ((IntKind.u64.wrap ((Go.bits .and .u64 a0 4294967295) * (Go.bits .and .u64 a1 4294967295))) / 4294967296))) 4294967295) + (IntKind.u64.wrap ((Go.bits .and .u64 a0 4294967295) * (a1 / 4294967296))))) * 4294967296)))))) else (some false))
set_option maxHeartbeats 8000000 in
set_option maxRecDepth 100000 in
theorem plumblaw01_WideHalves.calls (a0 : Int) (a1 : Int) (r : Bool) (w : World) (h : plumblaw01_WideHalves.f a0 a1 = some r) :
    Calls Try.prog 4 #[.int .u64 a0, .int .u64 a1] w fun e w' => e = .returned (.bool r) ∧ Below w.heap.size w w' := by
  have HB := Aside0.mk (Below.refl w.heap.size w)
  have H : ((wide_Mul.f a0 a1).bind fun bt101 => (if bt101.1 = (IntKind.u64.wrap ((IntKind.u64.wrap (((IntKind.u64.wrap ((IntKind.u64.wrap ((a0 / 4294967296) * (Go.bits .and .u64 a1 4294967295))) + ((IntKind.u64.wrap ((Go.bits .and .u64 a0 4294967295) * (Go.bits .and .u64 a1 4294967295))) / 4294967296))) / 4294967296) + (IntKind.u64.wrap ((a0 / 4294967296) * (a1 / 4294967296))))) + ((IntKind.u64.wrap ((Go.bits .and .u64 (IntKind.u64.wrap ((IntKind.u64.wrap ((a0 / 4294967296) * (Go.bits .and .u64 a1 4294967295))) + ((IntKind.u64.wrap ((Go.bits .and .u64 a0 4294967295) * (Go.bits .and .u64 a1 4294967295))) / 4294967296))) 4294967295) + (IntKind.u64.wrap ((Go.bits .and .u64 a0 4294967295) * (a1 / 4294967296))))) / 4294967296))) then (some (bt101.2 == (IntKind.u64.wrap ((Go.bits .and .u64 (IntKind.u64.wrap ((Go.bits .and .u64 a0 4294967295) * (Go.bits .and .u64 a1 4294967295))) 4294967295) + (IntKind.u64.wrap ((IntKind.u64.wrap ((Go.bits .and .u64 (IntKind.u64.wrap ((IntKind.u64.wrap ((a0 / 4294967296) * (Go.bits .and .u64 a1 4294967295))) + ((IntKind.u64.wrap ((Go.bits .and .u64 a0 4294967295) * (Go.bits .and .u64 a1 4294967295))) / 4294967296))) 4294967295) + (IntKind.u64.wrap ((Go.bits .and .u64 a0 4294967295) * (a1 / 4294967296))))) * 4294967296)))))) else (some false))) = some r := h
  clear h
  replace H := Option.bind_eq_some_iff.mp H
  obtain ⟨⟨t101, t102⟩, A30, H⟩ := H
  replace H : (if t101 = (IntKind.u64.wrap ((IntKind.u64.wrap (((IntKind.u64.wrap ((IntKind.u64.wrap ((a0 / 4294967296) * (Go.bits .and .u64 a1 4294967295))) + ((IntKind.u64.wrap ((Go.bits .and .u64 a0 4294967295) * (Go.bits .and .u64 a1 4294967295))) / 4294967296))) / 4294967296) + (IntKind.u64.wrap ((a0 / 4294967296) * (a1 / 4294967296))))) + ((IntKind.u64.wrap ((Go.bits .and .u64 (IntKind.u64.wrap ((IntKind.u64.wrap ((a0 / 4294967296) * (Go.bits .and .u64 a1 4294967295))) + ((IntKind.u64.wrap ((Go.bits .and .u64 a0 4294967295) * (Go.bits .and .u64 a1 4294967295))) / 4294967296))) 4294967295) + (IntKind.u64.wrap ((Go.bits .and .u64 a0 4294967295) * (a1 / 4294967296))))) / 4294967296))) then (some (t102 == (IntKind.u64.wrap ((Go.bits .and .u64 (IntKind.u64.wrap ((Go.bits .and .u64 a0 4294967295) * (Go.bits .and .u64 a1 4294967295))) 4294967295) + (IntKind.u64.wrap ((IntKind.u64.wrap ((Go.bits .and .u64 (IntKind.u64.wrap ((IntKind.u64.wrap ((a0 / 4294967296) * (Go.bits .and .u64 a1 4294967295))) + ((IntKind.u64.wrap ((Go.bits .and .u64 a0 4294967295) * (Go.bits .and .u64 a1 4294967295))) / 4294967296))) 4294967295) + (IntKind.u64.wrap ((Go.bits .and .u64 a0 4294967295) * (a1 / 4294967296))))) * 4294967296)))))) else (some false)) = some r := H
  have A3 := Aside0.mk A30
  clear A30
  by_cases c4 : t101 = (IntKind.u64.wrap ((IntKind.u64.wrap (((IntKind.u64.wrap ((IntKind.u64.wrap ((a0 / 4294967296) * (Go.bits .and .u64 a1 4294967295))) + ((IntKind.u64.wrap ((Go.bits .and .u64 a0 4294967295) * (Go.bits .and .u64 a1 4294967295))) / 4294967296))) / 4294967296) + (IntKind.u64.wrap ((a0 / 4294967296) * (a1 / 4294967296))))) + ((IntKind.u64.wrap ((Go.bits .and .u64 (IntKind.u64.wrap ((IntKind.u64.wrap ((a0 / 4294967296) * (Go.bits .and .u64 a1 4294967295))) + ((IntKind.u64.wrap ((Go.bits .and .u64 a0 4294967295) * (Go.bits .and .u64 a1 4294967295))) / 4294967296))) 4294967295) + (IntKind.u64.wrap ((Go.bits .and .u64 a0 4294967295) * (a1 / 4294967296))))) / 4294967296)))
  · rw [if_pos c4] at H
    have c4b0 : (t101 == (IntKind.u64.wrap ((IntKind.u64.wrap (((IntKind.u64.wrap ((IntKind.u64.wrap ((a0 / 4294967296) * (Go.bits .and .u64 a1 4294967295))) + ((IntKind.u64.wrap ((Go.bits .and .u64 a0 4294967295) * (Go.bits .and .u64 a1 4294967295))) / 4294967296))) / 4294967296) + (IntKind.u64.wrap ((a0 / 4294967296) * (a1 / 4294967296))))) + ((IntKind.u64.wrap ((Go.bits .and .u64 (IntKind.u64.wrap ((IntKind.u64.wrap ((a0 / 4294967296) * (Go.bits .and .u64 a1 4294967295))) + ((IntKind.u64.wrap ((Go.bits .and .u64 a0 4294967295) * (Go.bits .and .u64 a1 4294967295))) / 4294967296))) 4294967295) + (IntKind.u64.wrap ((Go.bits .and .u64 a0 4294967295) * (a1 / 4294967296))))) / 4294967296)))) = true := beq_iff_eq.mpr c4
    have c4b1 : (t101 != (IntKind.u64.wrap ((IntKind.u64.wrap (((IntKind.u64.wrap ((IntKind.u64.wrap ((a0 / 4294967296) * (Go.bits .and .u64 a1 4294967295))) + ((IntKind.u64.wrap ((Go.bits .and .u64 a0 4294967295) * (Go.bits .and .u64 a1 4294967295))) / 4294967296))) / 4294967296) + (IntKind.u64.wrap ((a0 / 4294967296) * (a1 / 4294967296))))) + ((IntKind.u64.wrap ((Go.bits .and .u64 (IntKind.u64.wrap ((IntKind.u64.wrap ((a0 / 4294967296) * (Go.bits .and .u64 a1 4294967295))) + ((IntKind.u64.wrap ((Go.bits .and .u64 a0 4294967295) * (Go.bits .and .u64 a1 4294967295))) / 4294967296))) 4294967295) + (IntKind.u64.wrap ((Go.bits .and .u64 a0 4294967295) * (a1 / 4294967296))))) / 4294967296)))) = false := bne_eq_false_iff_eq.mpr c4
    clear c4
    obtain rfl := Option.some.inj H
    go_enter Try.func4, Try.ntmps4
    go_wp2_with (first | ((with_reducible refine gate_callee (f := 18) rfl ?_); refine goesL_ (some 48) rfl rfl Try.func18 (by kernel_rfl) rfl #[.int .u64 a0, .int .u64 a1] rfl (by (try simp only [List.map_toArray, List.map_cons, List.map_nil]); first | done | rfl | (simp only [List.length_drop, List.length_take]; rfl)) ?_; (with_reducible refine (wide_Mul.calls a0 a1 t101 t102 _ A3.out).mono ?_); rintro e w5 ⟨rfl, hb⟩; refine ⟨_, rfl, ?_⟩; have n0_ := Aside0.mk (below_step (by repeat (first | (with_reducible first | exact HB.out | apply below_alloc | apply pw_below_drewN | apply below_drew1) | exact HB.out)) hb); clear HB; have HB := n0_; clear n0_; (try clear hb); (try clear hb2); (try clear hk); (try clear hi)))
    go_ret
    exact ⟨by first | rfl | (simp [errW_none, errW_some] <;> rfl) | (simp [*, errW_none, errW_some] <;> rfl), by repeat (first | (with_reducible first | exact HB.out | apply below_alloc | apply pw_below_drewN | apply below_drew1) | exact HB.out)⟩
  · rw [if_neg c4] at H
    have c4b0 : (t101 == (IntKind.u64.wrap ((IntKind.u64.wrap (((IntKind.u64.wrap ((IntKind.u64.wrap ((a0 / 4294967296) * (Go.bits .and .u64 a1 4294967295))) + ((IntKind.u64.wrap ((Go.bits .and .u64 a0 4294967295) * (Go.bits .and .u64 a1 4294967295))) / 4294967296))) / 4294967296) + (IntKind.u64.wrap ((a0 / 4294967296) * (a1 / 4294967296))))) + ((IntKind.u64.wrap ((Go.bits .and .u64 (IntKind.u64.wrap ((IntKind.u64.wrap ((a0 / 4294967296) * (Go.bits .and .u64 a1 4294967295))) + ((IntKind.u64.wrap ((Go.bits .and .u64 a0 4294967295) * (Go.bits .and .u64 a1 4294967295))) / 4294967296))) 4294967295) + (IntKind.u64.wrap ((Go.bits .and .u64 a0 4294967295) * (a1 / 4294967296))))) / 4294967296)))) = false := beq_eq_false_iff_ne.mpr c4
    have c4b1 : (t101 != (IntKind.u64.wrap ((IntKind.u64.wrap (((IntKind.u64.wrap ((IntKind.u64.wrap ((a0 / 4294967296) * (Go.bits .and .u64 a1 4294967295))) + ((IntKind.u64.wrap ((Go.bits .and .u64 a0 4294967295) * (Go.bits .and .u64 a1 4294967295))) / 4294967296))) / 4294967296) + (IntKind.u64.wrap ((a0 / 4294967296) * (a1 / 4294967296))))) + ((IntKind.u64.wrap ((Go.bits .and .u64 (IntKind.u64.wrap ((IntKind.u64.wrap ((a0 / 4294967296) * (Go.bits .and .u64 a1 4294967295))) + ((IntKind.u64.wrap ((Go.bits .and .u64 a0 4294967295) * (Go.bits .and .u64 a1 4294967295))) / 4294967296))) 4294967295) + (IntKind.u64.wrap ((Go.bits .and .u64 a0 4294967295) * (a1 / 4294967296))))) / 4294967296)))) = true := bne_iff_ne.mpr c4
    obtain rfl := Option.some.inj H
    go_enter Try.func4, Try.ntmps4
    go_wp2_with (first | ((with_reducible refine gate_callee (f := 18) rfl ?_); refine goesL_ (some 48) rfl rfl Try.func18 (by kernel_rfl) rfl #[.int .u64 a0, .int .u64 a1] rfl (by (try simp only [List.map_toArray, List.map_cons, List.map_nil]); first | done | rfl | (simp only [List.length_drop, List.length_take]; rfl)) ?_; (with_reducible refine (wide_Mul.calls a0 a1 t101 t102 _ A3.out).mono ?_); rintro e w6 ⟨rfl, hb⟩; refine ⟨_, rfl, ?_⟩; have n0_ := Aside0.mk (below_step (by repeat (first | (with_reducible first | exact HB.out | apply below_alloc | apply pw_below_drewN | apply below_drew1) | exact HB.out)) hb); clear HB; have HB := n0_; clear n0_; (try clear hb); (try clear hb2); (try clear hk); (try clear hi)))
    go_ret
    exact ⟨by first | rfl | (simp [errW_none, errW_some] <;> rfl) | (simp [*, errW_none, errW_some] <;> rfl), by repeat (first | (with_reducible first | exact HB.out | apply below_alloc | apply pw_below_drewN | apply below_drew1) | exact HB.out)⟩

/-- THE ONE PURE STATEMENT of plumblaw01_WideHalves: yours. -/
def plumblaw01_WideHalves.Pure : Prop := ∀ (a0 : Int) (a1 : Int), (Lit.int .u64 a0).wf = true → (Lit.int .u64 a1).wf = true → plumblaw01_WideHalves.f a0 a1 = some true
theorem plumblaw01_WideHalves.walk (P : plumblaw01_WideHalves.Pure) (a0 : Int) (a1 : Int) (w : World) (w0 : (Lit.int .u64 a0).wf = true) (w1 : (Lit.int .u64 a1).wf = true) :
    Calls Try.prog 4 #[.int .u64 a0, .int .u64 a1] w fun e w' => e = .returned (.bool true) ∧ Below w.heap.size w w' := by
  have h := P a0 a1 w0 w1
  refine (plumblaw01_WideHalves.calls a0 a1 true w h).mono ?_
  rintro e w' ⟨rfl, hd⟩
  exact ⟨rfl, hd⟩

end Go.Proofs.Ythinhdnbhkppgaa.PWideHalves
