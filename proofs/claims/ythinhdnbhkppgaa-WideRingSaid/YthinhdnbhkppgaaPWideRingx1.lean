/- Go functions as Lean functions and their contracts: each call comes to what the Lean function says; or a law's row out of them. No conditions. Written by this session's wip/hprint.py (the kit's print with contracts and repairs of my own). -/
import Derived.Test.YthinhdnbhkppgaaPWideRingx0
namespace Go.Proofs.Ythinhdnbhkppgaa.PWideRing
open Go.RowKit Go.Proofs.YthinhdnbhkppgaaW.PrintWords Go.Proofs.YthinhdnbhkppgaaW.PrintLast Go.Proofs.YthinhdnbhkppgaaW.PrintMore
attribute [local go_sem] max2_int min2_int max_two min_two max_three min_three max_four min_four   -- for this text's walks alone
set_option linter.unusedVariables false
set_option linter.unusedSimpArgs false

/-! ### wide_Add: function 14 -/
def wide_Add.f (a0 : Int) (a1 : Int) (a2 : Int) : Option (Int × Int) := if (IntKind.u64.wrap (a0 + a1)) < a0 then (some (IntKind.u64.wrap ((IntKind.u64.wrap (a0 + a1)) + (Go.bits .and .u64 a2 1)), 1)) else (if (IntKind.u64.wrap ((IntKind.u64.wrap (a0 + a1)) + (Go.bits .and .u64 a2 1))) < (IntKind.u64.wrap (a0 + a1)) then (some (IntKind.u64.wrap ((IntKind.u64.wrap (a0 + a1)) + (Go.bits .and .u64 a2 1)), 1)) else (some (IntKind.u64.wrap ((IntKind.u64.wrap (a0 + a1)) + (Go.bits .and .u64 a2 1)), 0)))
set_option maxHeartbeats 8000000 in
set_option maxRecDepth 100000 in
theorem wide_Add.calls (a0 : Int) (a1 : Int) (a2 : Int) (r1 : Int) (r2 : Int) (w : World) (h : wide_Add.f a0 a1 a2 = some (r1, r2)) :
    Calls Try.prog 14 #[.int .u64 a0, .int .u64 a1, .int .u64 a2] w fun e w' => e = .returned (.tuple #[.int .u64 r1, .int .u64 r2]) ∧ Drawn0 w w' := by
  have H : (if (IntKind.u64.wrap (a0 + a1)) < a0 then (some (IntKind.u64.wrap ((IntKind.u64.wrap (a0 + a1)) + (Go.bits .and .u64 a2 1)), 1)) else (if (IntKind.u64.wrap ((IntKind.u64.wrap (a0 + a1)) + (Go.bits .and .u64 a2 1))) < (IntKind.u64.wrap (a0 + a1)) then (some (IntKind.u64.wrap ((IntKind.u64.wrap (a0 + a1)) + (Go.bits .and .u64 a2 1)), 1)) else (some (IntKind.u64.wrap ((IntKind.u64.wrap (a0 + a1)) + (Go.bits .and .u64 a2 1)), 0)))) = some (r1, r2) := h
  clear h
  by_cases c4 : (IntKind.u64.wrap (a0 + a1)) < a0
  · rw [if_pos c4] at H
    have c4b0 : decide ((IntKind.u64.wrap (a0 + a1)) < a0) = true := decide_eq_true c4
    clear c4
    simp only [Option.some.injEq, Prod.mk.injEq] at H
    obtain ⟨rfl, rfl⟩ := H
    go_enter Try.func14, Try.ntmps14
    go_wp2
    go_ret2
    exact ⟨by first | rfl | (simp; done) | (simp [*]; done), by repeat (first | exact Drawn0.refl _ | apply Drawn0.step)⟩
  · rw [if_neg c4] at H
    have c4b0 : decide ((IntKind.u64.wrap (a0 + a1)) < a0) = false := decide_eq_false c4
    clear c4
    by_cases c5 : (IntKind.u64.wrap ((IntKind.u64.wrap (a0 + a1)) + (Go.bits .and .u64 a2 1))) < (IntKind.u64.wrap (a0 + a1))
    · rw [if_pos c5] at H
      have c5b0 : decide ((IntKind.u64.wrap ((IntKind.u64.wrap (a0 + a1)) + (Go.bits .and .u64 a2 1))) < (IntKind.u64.wrap (a0 + a1))) = true := decide_eq_true c5
      clear c5
      simp only [Option.some.injEq, Prod.mk.injEq] at H
      obtain ⟨rfl, rfl⟩ := H
      go_enter Try.func14, Try.ntmps14
      go_wp2
      go_ret2
      exact ⟨by first | rfl | (simp; done) | (simp [*]; done), by repeat (first | exact Drawn0.refl _ | apply Drawn0.step)⟩
    · rw [if_neg c5] at H
      have c5b0 : decide ((IntKind.u64.wrap ((IntKind.u64.wrap (a0 + a1)) + (Go.bits .and .u64 a2 1))) < (IntKind.u64.wrap (a0 + a1))) = false := decide_eq_false c5
      clear c5
      simp only [Option.some.injEq, Prod.mk.injEq] at H
      obtain ⟨rfl, rfl⟩ := H
      go_enter Try.func14, Try.ntmps14
      go_wp2
      go_ret2
      exact ⟨by first | rfl | (simp; done) | (simp [*]; done), by repeat (first | exact Drawn0.refl _ | apply Drawn0.step)⟩

/-! ### wide_Mul: function 18, by hand -/
def wide_Mul.f (a0 a1 : Int) : Option (Int × Int) := if 0 ≤ a0 ∧ a0 ≤ 18446744073709551615 ∧ 0 ≤ a1 ∧ a1 ≤ 18446744073709551615 then some (a0 * a1 / 18446744073709551616, a0 * a1 % 18446744073709551616) else none
theorem hand_blk_new_at (w : World) (o : Obj) (g : Nat) (hg : g = w.heap.size) : (w.alloc o).heap[g]? = some o := by rw [hg]; exact blk_new w o
theorem hand_wp_world {P : Program} {c : Code} {Q : Exit → Act → World → Prop} {a : Act} {W0 : World} (R : World → Prop) (h0 : R W0) (h : ∀ W, R W → c.wp P Q a W) : c.wp P Q a W0 := h W0 h0

theorem hand_and32 {a : Int} (h0 : 0 ≤ a) (h1 : a ≤ 18446744073709551615) : bits BinOp.and IntKind.u64 a 4294967295 = a % 4294967296 := by
  obtain ⟨n, rfl⟩ := Int.eq_ofNat_of_zero_le h0
  have := u64_and_nat n 4294967295 (by omega) (by omega)
  rw [show ((4294967295 : Nat) : Int) = 4294967295 from rfl] at this
  rw [this, show (4294967295 : Nat) = 2 ^ 32 - 1 from rfl, Nat.and_two_pow_sub_one_eq_mod]
  omega
theorem hand_or32 {a b : Int} (h0 : 0 ≤ a) (h1 : a < 4294967296) (h2 : 0 ≤ b) (h3 : b < 4294967296) : bits BinOp.or IntKind.u64 (a * 4294967296) b = a * 4294967296 + b := by
  obtain ⟨n, rfl⟩ := Int.eq_ofNat_of_zero_le h0
  obtain ⟨m, rfl⟩ := Int.eq_ofNat_of_zero_le h2
  have := u64_or_nat (n * 4294967296) m (by omega) (by omega)
  rw [show (n : Int) * 4294967296 = ((n * 4294967296 : Nat) : Int) from by omega, this]
  have h := Nat.two_pow_add_eq_or_of_lt (i := 32) (b := m) (by omega) n
  rw [show n * 4294967296 = 2 ^ 32 * n from by omega, ← h]
  omega
theorem hand_mulB {x y : Int} (hx0 : 0 ≤ x) (hx1 : x ≤ 4294967295) (hy0 : 0 ≤ y) (hy1 : y ≤ 4294967295) : 0 ≤ x * y ∧ x * y ≤ 18446744065119617025 := by
  refine ⟨Int.mul_nonneg hx0 hy0, ?_⟩
  have h1 : x * y ≤ 4294967295 * y := Int.mul_le_mul_of_nonneg_right hx1 hy0
  omega

set_option maxHeartbeats 1000000 in
set_option maxRecDepth 100000 in
theorem wide_Mul.any (a b : Int) (w : World) (ha0 : 0 ≤ a) (ha1 : a ≤ 18446744073709551615) (hb0 : 0 ≤ b) (hb1 : b ≤ 18446744073709551615) :
    Calls Try.prog 18 #[.int .u64 a, .int .u64 b] w fun e w' => e = .returned (.tuple #[.int .u64 (a * b / 18446744073709551616), .int .u64 (a * b % 18446744073709551616)]) ∧ Below w.heap.size w w' := by
  obtain ⟨x0, hx0⟩ : ∃ x, bits BinOp.and IntKind.u64 a 4294967295 = x := ⟨_, rfl⟩
  obtain ⟨x1, hx1⟩ : ∃ x, a / 4294967296 = x := ⟨_, rfl⟩
  obtain ⟨y0, hy0⟩ : ∃ x, bits BinOp.and IntKind.u64 b 4294967295 = x := ⟨_, rfl⟩
  obtain ⟨y1, hy1⟩ : ∃ x, b / 4294967296 = x := ⟨_, rfl⟩
  have ex0 : a % 4294967296 = x0 := (hand_and32 ha0 ha1).symm.trans hx0
  have ey0 : b % 4294967296 = y0 := (hand_and32 hb0 hb1).symm.trans hy0
  obtain ⟨p00, h00⟩ : ∃ p, x0 * y0 = p := ⟨_, rfl⟩
  obtain ⟨p01, h01⟩ : ∃ p, x0 * y1 = p := ⟨_, rfl⟩
  obtain ⟨p10, h10⟩ : ∃ p, x1 * y0 = p := ⟨_, rfl⟩
  obtain ⟨p11, h11⟩ : ∃ p, x1 * y1 = p := ⟨_, rfl⟩
  have b00 : 0 ≤ p00 ∧ p00 ≤ 18446744065119617025 := h00 ▸ hand_mulB (by omega) (by omega) (by omega) (by omega)
  have b01 : 0 ≤ p01 ∧ p01 ≤ 18446744065119617025 := h01 ▸ hand_mulB (by omega) (by omega) (by omega) (by omega)
  have b10 : 0 ≤ p10 ∧ p10 ≤ 18446744065119617025 := h10 ▸ hand_mulB (by omega) (by omega) (by omega) (by omega)
  have b11 : 0 ≤ p11 ∧ p11 ≤ 18446744065119617025 := h11 ▸ hand_mulB (by omega) (by omega) (by omega) (by omega)
  have hab : a * b = p00 + 4294967296 * p01 + 4294967296 * p10 + 18446744073709551616 * p11 := by
    have e1 : a = x0 + 4294967296 * x1 := by omega
    have e2 : b = y0 + 4294967296 * y1 := by omega
    rw [e1, e2, ← h00, ← h01, ← h10, ← h11, Int.add_mul, Int.mul_add, Int.mul_add, Int.mul_left_comm x0, Int.mul_assoc, Int.mul_assoc, Int.mul_left_comm x1]
    omega
  have HAB := Aside0.mk hab
  clear hab
  obtain ⟨l0, hl0⟩ : ∃ x, bits BinOp.and IntKind.u64 p00 4294967295 = x := ⟨_, rfl⟩
  have el0 : p00 % 4294967296 = l0 := (hand_and32 (by omega) (by omega)).symm.trans hl0
  obtain ⟨c0, hc0⟩ : ∃ x, p00 / 4294967296 = x := ⟨_, rfl⟩
  have bc0 : 0 ≤ c0 ∧ c0 ≤ 4294967295 := by omega
  obtain ⟨s1, hs1⟩ : ∃ x, p01 + c0 = x := ⟨_, rfl⟩
  have bs1 : 0 ≤ s1 ∧ s1 ≤ 18446744073709551615 := by omega
  obtain ⟨l1, hl1⟩ : ∃ x, bits BinOp.and IntKind.u64 s1 4294967295 = x := ⟨_, rfl⟩
  have el1 : s1 % 4294967296 = l1 := (hand_and32 (by omega) (by omega)).symm.trans hl1
  obtain ⟨c1, hc1⟩ : ∃ x, s1 / 4294967296 = x := ⟨_, rfl⟩
  have bc1 : 0 ≤ c1 ∧ c1 ≤ 4294967295 := by omega
  have bl1 : 0 ≤ l1 ∧ l1 ≤ 4294967295 := by omega
  obtain ⟨s2, hs2⟩ : ∃ x, p10 + l1 = x := ⟨_, rfl⟩
  have bs2 : 0 ≤ s2 ∧ s2 ≤ 18446744073709551615 := by omega
  obtain ⟨l2, hl2⟩ : ∃ x, bits BinOp.and IntKind.u64 s2 4294967295 = x := ⟨_, rfl⟩
  have el2 : s2 % 4294967296 = l2 := (hand_and32 (by omega) (by omega)).symm.trans hl2
  obtain ⟨c2, hc2⟩ : ∃ x, s2 / 4294967296 = x := ⟨_, rfl⟩
  have bc2 : 0 ≤ c2 ∧ c2 ≤ 4294967295 := by omega
  obtain ⟨s3, hs3⟩ : ∃ x, p11 + c1 = x := ⟨_, rfl⟩
  have bs3 : 0 ≤ s3 ∧ s3 ≤ 18446744069414584320 := by omega
  obtain ⟨s4, hs4⟩ : ∃ x, s3 + c2 = x := ⟨_, rfl⟩
  have bs4 : 0 ≤ s4 ∧ s4 ≤ 18446744073709551615 := by omega
  obtain ⟨l3, hl3⟩ : ∃ x, bits BinOp.and IntKind.u64 s4 4294967295 = x := ⟨_, rfl⟩
  have el3 : s4 % 4294967296 = l3 := (hand_and32 (by omega) (by omega)).symm.trans hl3
  obtain ⟨c3, hc3⟩ : ∃ x, s4 / 4294967296 = x := ⟨_, rfl⟩
  have bc3 : 0 ≤ c3 ∧ c3 ≤ 4294967295 := by omega
  have bl0 : 0 ≤ l0 ∧ l0 ≤ 4294967295 := by omega
  have bl2 : 0 ≤ l2 ∧ l2 ≤ 4294967295 := by omega
  have bl3 : 0 ≤ l3 ∧ l3 ≤ 4294967295 := by omega
  have fin1 : c3 * 4294967296 + l3 = a * b / 18446744073709551616 := by rw [HAB.out]; omega
  have fin2 : l2 * 4294967296 + l0 = a * b % 18446744073709551616 := by rw [HAB.out]; omega
  have FIN1 := Aside0.mk fin1
  have FIN2 := Aside0.mk fin2
  clear fin1 fin2 HAB ex0 ey0 el0 el1 el2 el3
  have bb0 : bits BinOp.or IntKind.u64 (c3 * 4294967296) l3 = c3 * 4294967296 + l3 := hand_or32 (by omega) (by omega) (by omega) (by omega)
  have bb1 : bits BinOp.or IntKind.u64 (l2 * 4294967296) l0 = l2 * 4294967296 + l0 := hand_or32 (by omega) (by omega) (by omega) (by omega)
  have bq1 := b00.1; have bq2 := b00.2; have bq3 := b01.1; have bq4 := b01.2; have bq5 := b10.1; have bq6 := b10.2; have bq7 := b11.1; have bq8 := b11.2
  go_enter Try.func18, Try.ntmps18
  go_wp2
  refine wp_loop_rounds 3 ?_
  rw [rounds_succ]
  go_wp2
  refine wp_loop_rounds 3 ?_
  rw [rounds_succ]
  go_wp2
  go_quiet (fail)
  go_wp2
  rw [rounds_succ]
  go_wp2
  go_quiet (fail)
  go_wp2
  rw [rounds_succ]
  go_wp2
  rw [rounds_succ]
  go_wp2
  refine wp_loop_rounds 3 ?_
  rw [rounds_succ]
  go_wp2
  go_quiet (fail)
  go_wp2
  rw [rounds_succ]
  go_wp2
  go_quiet (fail)
  go_wp2
  rw [rounds_succ]
  go_wp2
  rw [rounds_succ]
  go_wp2
  refine hand_wp_world (fun W => W.heap[w.heap.size + 1 + 1]? = some (.cells #[.int .u64 l0, .int .u64 l2, .int .u64 l3, .int .u64 c3] 50 (0, 0)) ∧ Below w.heap.size w W) ?_ ?_
  · refine ⟨?_, ?_⟩
    · refine blk_put (cs := #[.int .u64 l0, .int .u64 l2, .int .u64 l3, .int .u64 0]) ?_ 3 _ rfl
      refine blk_put (cs := #[.int .u64 l0, .int .u64 l2, .int .u64 c1, .int .u64 0]) ?_ 2 _ rfl
      refine blk_drewN ?_ _
      refine blk_put (cs := #[.int .u64 l0, .int .u64 l1, .int .u64 c1, .int .u64 0]) ?_ 1 _ rfl
      refine blk_drewN ?_ _
      refine blk_put (cs := #[.int .u64 l0, .int .u64 l1, .int .u64 0, .int .u64 0]) ?_ 2 _ rfl
      refine blk_put (cs := #[.int .u64 l0, .int .u64 0, .int .u64 0, .int .u64 0]) ?_ 1 _ rfl
      refine blk_drewN ?_ _
      refine blk_put (cs := #[.int .u64 0, .int .u64 0, .int .u64 0, .int .u64 0]) ?_ 0 _ rfl
      refine blk_drewN ?_ _
      exact hand_blk_new_at _ _ _ (by simp)
    · repeat (with_reducible first | exact Below.refl _ _ | refine Below.alloc ?_ (by simp <;> omega) _ | refine pw_below_drewN ?_ _ | refine Below.setCell ?_ (by simp <;> omega) _)
  · rintro W ⟨HC, HB⟩
    have q0 := blk_cell HC 0
    have q1 := blk_cell HC 1
    have q2 := blk_cell HC 2
    have q3 := blk_cell HC 3
    clear HC
    simp only [List.getElem?_toArray, List.getElem?_cons_zero, List.getElem?_cons_succ] at q0 q1 q2 q3
    go_region
    go_wp2
    go_ret2
    exact ⟨by rw [← FIN1.out, ← FIN2.out]; rfl, HB.drew⟩
theorem wide_Mul.calls (a0 a1 r1 r2 : Int) (w : World) (h : wide_Mul.f a0 a1 = some (r1, r2)) :
    Calls Try.prog 18 #[.int .u64 a0, .int .u64 a1] w fun e w' => e = .returned (.tuple #[.int .u64 r1, .int .u64 r2]) ∧ Below w.heap.size w w' := by
  unfold wide_Mul.f at h
  split at h
  · rename_i hb
    obtain ⟨h0, h1, h2, h3⟩ := hb
    simp only [Option.some.injEq, Prod.mk.injEq] at h
    obtain ⟨rfl, rfl⟩ := h
    exact wide_Mul.any a0 a1 w h0 h1 h2 h3
  · cases h

/-! ### wide_Mul3: function 23 -/
def wide_Mul3.f (a0 : Int) (a1 : Int) (a2 : Int) : Option (Int × Int × Int) := (wide_Mul.f a0 a2).bind fun bt101 => ((wide_Mul.f a1 a2).bind fun bt103 => ((wide_Add.f bt101.2 bt103.1 0).bind fun bt105 => (some (IntKind.u64.wrap (bt101.1 + bt105.2), bt105.1, bt103.2))))
set_option maxHeartbeats 8000000 in
set_option maxRecDepth 100000 in
theorem wide_Mul3.calls (a0 : Int) (a1 : Int) (a2 : Int) (r1 : Int) (r2 : Int) (r3 : Int) (w : World) (h : wide_Mul3.f a0 a1 a2 = some (r1, r2, r3)) :
    Calls Try.prog 23 #[.int .u64 a0, .int .u64 a1, .int .u64 a2] w fun e w' => e = .returned (.tuple #[.int .u64 r1, .int .u64 r2, .int .u64 r3]) ∧ Below w.heap.size w w' := by
  have HB := Aside0.mk (Below.refl w.heap.size w)
  have H : ((wide_Mul.f a0 a2).bind fun bt101 => ((wide_Mul.f a1 a2).bind fun bt103 => ((wide_Add.f bt101.2 bt103.1 0).bind fun bt105 => (some (IntKind.u64.wrap (bt101.1 + bt105.2), bt105.1, bt103.2))))) = some (r1, r2, r3) := h
  clear h
  replace H := Option.bind_eq_some_iff.mp H
  obtain ⟨⟨t101, t102⟩, A40, H⟩ := H
  replace H : ((wide_Mul.f a1 a2).bind fun bt103 => ((wide_Add.f t102 bt103.1 0).bind fun bt105 => (some (IntKind.u64.wrap (t101 + bt105.2), bt105.1, bt103.2)))) = some (r1, r2, r3) := H
  have A4 := Aside0.mk A40
  clear A40
  replace H := Option.bind_eq_some_iff.mp H
  obtain ⟨⟨t103, t104⟩, A50, H⟩ := H
  replace H : ((wide_Add.f t102 t103 0).bind fun bt105 => (some (IntKind.u64.wrap (t101 + bt105.2), bt105.1, t104))) = some (r1, r2, r3) := H
  have A5 := Aside0.mk A50
  clear A50
  replace H := Option.bind_eq_some_iff.mp H
  obtain ⟨⟨t105, t106⟩, A60, H⟩ := H
  replace H : (some (IntKind.u64.wrap (t101 + t106), t105, t104)) = some (r1, r2, r3) := H
  have A6 := Aside0.mk A60
  clear A60
  simp only [Option.some.injEq, Prod.mk.injEq] at H
  obtain ⟨rfl, rfl, rfl⟩ := H
  go_enter Try.func23, Try.ntmps23
  go_wp2_with (first | ((with_reducible refine gate_callee (f := 18) rfl ?_); refine goesL_ (some 17) rfl rfl Try.func18 (by kernel_rfl) rfl #[.int .u64 a0, .int .u64 a2] rfl (by (try simp only [List.map_toArray, List.map_cons, List.map_nil]); first | done | rfl | (simp only [List.length_drop, List.length_take]; rfl)) ?_; (with_reducible refine (wide_Mul.calls a0 a2 t101 t102 _ A4.out).mono ?_); rintro e w7 ⟨rfl, hb⟩; refine ⟨_, rfl, ?_⟩; have n0_ := Aside0.mk (below_step (by repeat (first | (with_reducible first | exact HB.out | apply below_alloc | apply pw_below_drewN | apply below_drew1) | exact HB.out)) hb); clear HB; have HB := n0_; clear n0_; (try clear hb); (try clear hb2); (try clear hk); (try clear hi)) | ((with_reducible refine gate_callee (f := 18) rfl ?_); refine goesL_ (some 23) rfl rfl Try.func18 (by kernel_rfl) rfl #[.int .u64 a1, .int .u64 a2] rfl (by (try simp only [List.map_toArray, List.map_cons, List.map_nil]); first | done | rfl | (simp only [List.length_drop, List.length_take]; rfl)) ?_; (with_reducible refine (wide_Mul.calls a1 a2 t103 t104 _ A5.out).mono ?_); rintro e w8 ⟨rfl, hb⟩; refine ⟨_, rfl, ?_⟩; have n0_ := Aside0.mk (below_step (by repeat (first | (with_reducible first | exact HB.out | apply below_alloc | apply pw_below_drewN | apply below_drew1) | exact HB.out)) hb); clear HB; have HB := n0_; clear n0_; (try clear hb); (try clear hb2); (try clear hk); (try clear hi)) | ((with_reducible refine gate_callee (f := 14) rfl ?_); refine goesL_ (some 29) rfl rfl Try.func14 (by kernel_rfl) rfl #[.int .u64 t102, .int .u64 t103, .int .u64 0] rfl (by (try simp only [List.map_toArray, List.map_cons, List.map_nil]); first | done | rfl | (simp only [List.length_drop, List.length_take]; rfl)) ?_; (with_reducible refine (wide_Add.calls t102 t103 0 t105 t106 _ A6.out).mono ?_); rintro e w' ⟨rfl, ⟨nd, rfl⟩⟩; refine ⟨_, rfl, ?_⟩))
  go_ret3
  exact ⟨by first | rfl | (simp [errW_none, errW_some] <;> rfl) | (simp [*, errW_none, errW_some] <;> rfl), by repeat (first | (with_reducible first | exact HB.out | apply below_alloc | apply pw_below_drewN | apply below_drew1) | exact HB.out)⟩

/-! ### plumblaw01_WideRing: function 9 -/
mutual
def plumblaw01_WideRing.j0 : Nat → Int → Int → Int → Int → Int → Bool → Option (Bool)
  | 0, _, _, _, _, _, _ => none
  | k + 1, x0, x1, x2, x7, x8, x51 => if x51 = true then (some false) else ((wide_Mul.f x0 1).bind fun bt111 => ((wide_Mul.f x0 0).bind fun bt113 => (if bt111.1 = 0 then (if bt111.2 = x0 then (if bt113.1 = 0 then (plumblaw01_WideRing.j1 k x0 x1 x2 x7 x8 (bt113.2 != 0)) else (plumblaw01_WideRing.j1 k x0 x1 x2 x7 x8 true)) else (plumblaw01_WideRing.j1 k x0 x1 x2 x7 x8 true)) else (plumblaw01_WideRing.j1 k x0 x1 x2 x7 x8 true))))
def plumblaw01_WideRing.j1 : Nat → Int → Int → Int → Int → Int → Bool → Option (Bool)
  | 0, _, _, _, _, _, _ => none
  | k + 1, x0, x1, x2, x7, x8, x76 => if x76 = true then (some false) else ((wide_Add.f x1 x2 0).bind fun bt115 => ((wide_Mul3.f bt115.2 bt115.1 x0).bind fun bt117 => ((wide_Mul.f x0 x2).bind fun bt120 => ((wide_Add.f x8 bt120.2 0).bind fun bt122 => ((wide_Add.f x7 bt120.1 bt122.2).bind fun bt124 => (if bt117.1 = bt124.2 then (if bt117.2.1 = bt124.1 then (some (bt117.2.2 == bt122.1)) else (some false)) else (some false)))))))
end
def plumblaw01_WideRing.f (k : Nat) (a0 : Int) (a1 : Int) (a2 : Int) : Option (Bool) := (wide_Mul.f a0 a1).bind fun bt107 => ((wide_Mul.f a1 a0).bind fun bt109 => (if bt107.1 = bt109.1 then (if bt107.2 = bt109.2 then (plumblaw01_WideRing.j0 k a0 a1 a2 bt107.1 bt107.2 (bt107.2 != (IntKind.u64.wrap (a0 * a1)))) else (plumblaw01_WideRing.j0 k a0 a1 a2 bt107.1 bt107.2 true)) else (plumblaw01_WideRing.j0 k a0 a1 a2 bt107.1 bt107.2 true)))
theorem plumblaw01_WideRing.mono_l : ∀ k, (∀ y0 y1 y2 y3 y4 y5, LeO (plumblaw01_WideRing.j0 k y0 y1 y2 y3 y4 y5) (plumblaw01_WideRing.j0 (k + 1) y0 y1 y2 y3 y4 y5)) ∧ (∀ y0 y1 y2 y3 y4 y5, LeO (plumblaw01_WideRing.j1 k y0 y1 y2 y3 y4 y5) (plumblaw01_WideRing.j1 (k + 1) y0 y1 y2 y3 y4 y5))
  | 0 => ⟨fun _ _ _ _ _ _ r h => by simp [plumblaw01_WideRing.j0] at h, fun _ _ _ _ _ _ r h => by simp [plumblaw01_WideRing.j1] at h⟩
  | k + 1 => by
    obtain ⟨ih0, ih1⟩ := plumblaw01_WideRing.mono_l k
    refine ⟨?_, ?_⟩
    · intro y0 y1 y2 y3 y4 y5
      unfold plumblaw01_WideRing.j0
      repeat' first
      | (with_reducible exact ih0 _ _ _ _ _ _)
      | (with_reducible exact ih1 _ _ _ _ _ _)
      | (with_reducible exact LeO.refl _)
      | (with_reducible exact LeO.none _)
      | (with_reducible refine LeO.ite ?_ ?_)
      | (with_reducible refine LeO.bind ?_ (fun _ => ?_))
      | exact ih0 _ _ _ _ _ _
      | exact ih1 _ _ _ _ _ _
      | exact LeO.none _
      | refine LeO.ite ?_ ?_
      | refine LeO.bind ?_ (fun _ => ?_)
    · intro y0 y1 y2 y3 y4 y5
      unfold plumblaw01_WideRing.j1
      repeat' first
      | (with_reducible exact ih0 _ _ _ _ _ _)
      | (with_reducible exact ih1 _ _ _ _ _ _)
      | (with_reducible exact LeO.refl _)
      | (with_reducible exact LeO.none _)
      | (with_reducible refine LeO.ite ?_ ?_)
      | (with_reducible refine LeO.bind ?_ (fun _ => ?_))
      | exact ih0 _ _ _ _ _ _
      | exact ih1 _ _ _ _ _ _
      | exact LeO.none _
      | refine LeO.ite ?_ ?_
      | refine LeO.bind ?_ (fun _ => ?_)
theorem plumblaw01_WideRing.mono : ∀ a0 a1 a2 k, LeO (plumblaw01_WideRing.f k a0 a1 a2) (plumblaw01_WideRing.f (k + 1) a0 a1 a2) := by
  intro a0 a1 a2 k
  obtain ⟨ih0, ih1⟩ := plumblaw01_WideRing.mono_l k
  unfold plumblaw01_WideRing.f
  repeat' first
      | (with_reducible exact ih0 _ _ _ _ _ _)
      | (with_reducible exact ih1 _ _ _ _ _ _)
      | (with_reducible exact LeO.refl _)
      | (with_reducible exact LeO.none _)
      | (with_reducible refine LeO.ite ?_ ?_)
      | (with_reducible refine LeO.bind ?_ (fun _ => ?_))
      | exact ih0 _ _ _ _ _ _
      | exact ih1 _ _ _ _ _ _
      | exact LeO.none _
      | refine LeO.ite ?_ ?_
      | refine LeO.bind ?_ (fun _ => ?_)
set_option maxHeartbeats 8000000 in
set_option maxRecDepth 100000 in
theorem plumblaw01_WideRing.calls (k : Nat) (a0 : Int) (a1 : Int) (a2 : Int) (r : Bool) (w : World) (h : plumblaw01_WideRing.f k a0 a1 a2 = some r) :
    Calls Try.prog 9 #[.int .u64 a0, .int .u64 a1, .int .u64 a2] w fun e w' => e = .returned (.bool r) ∧ Below w.heap.size w w' := by
  have HB := Aside0.mk (Below.refl w.heap.size w)
  have H : ((wide_Mul.f a0 a1).bind fun bt107 => ((wide_Mul.f a1 a0).bind fun bt109 => (if bt107.1 = bt109.1 then (if bt107.2 = bt109.2 then (plumblaw01_WideRing.j0 k a0 a1 a2 bt107.1 bt107.2 (bt107.2 != (IntKind.u64.wrap (a0 * a1)))) else (plumblaw01_WideRing.j0 k a0 a1 a2 bt107.1 bt107.2 true)) else (plumblaw01_WideRing.j0 k a0 a1 a2 bt107.1 bt107.2 true)))) = some r := h
  clear h
  replace H := Option.bind_eq_some_iff.mp H
  obtain ⟨⟨t107, t108⟩, A40, H⟩ := H
  replace H : ((wide_Mul.f a1 a0).bind fun bt109 => (if t107 = bt109.1 then (if t108 = bt109.2 then (plumblaw01_WideRing.j0 k a0 a1 a2 t107 t108 (t108 != (IntKind.u64.wrap (a0 * a1)))) else (plumblaw01_WideRing.j0 k a0 a1 a2 t107 t108 true)) else (plumblaw01_WideRing.j0 k a0 a1 a2 t107 t108 true))) = some r := H
  have A4 := Aside0.mk A40
  clear A40
  replace H := Option.bind_eq_some_iff.mp H
  obtain ⟨⟨t109, t110⟩, A50, H⟩ := H
  replace H : (if t107 = t109 then (if t108 = t110 then (plumblaw01_WideRing.j0 k a0 a1 a2 t107 t108 (t108 != (IntKind.u64.wrap (a0 * a1)))) else (plumblaw01_WideRing.j0 k a0 a1 a2 t107 t108 true)) else (plumblaw01_WideRing.j0 k a0 a1 a2 t107 t108 true)) = some r := H
  have A5 := Aside0.mk A50
  clear A50
  have HC6 := Aside0.mk H
  clear H
  go_enter Try.func9, Try.ntmps9
  go_upto_region 3 with (first | ((with_reducible refine gate_callee (f := 18) rfl ?_); refine goesL_ (some 28) rfl rfl Try.func18 (by kernel_rfl) rfl #[.int .u64 a0, .int .u64 a1] rfl (by (try simp only [List.map_toArray, List.map_cons, List.map_nil]); first | done | rfl | (simp only [List.length_drop, List.length_take]; rfl)) ?_; (with_reducible refine (wide_Mul.calls a0 a1 t107 t108 _ A4.out).mono ?_); rintro e w7 ⟨rfl, hb⟩; refine ⟨_, rfl, ?_⟩; have n0_ := Aside0.mk (below_step (by repeat (first | (with_reducible first | exact HB.out | apply below_alloc | apply pw_below_drewN | apply below_drew1) | exact HB.out)) hb); clear HB; have HB := n0_; clear n0_; (try clear hb); (try clear hb2); (try clear hk); (try clear hi)) | ((with_reducible refine gate_callee (f := 18) rfl ?_); refine goesL_ (some 34) rfl rfl Try.func18 (by kernel_rfl) rfl #[.int .u64 a1, .int .u64 a0] rfl (by (try simp only [List.map_toArray, List.map_cons, List.map_nil]); first | done | rfl | (simp only [List.length_drop, List.length_take]; rfl)) ?_; (with_reducible refine (wide_Mul.calls a1 a0 t109 t110 _ A5.out).mono ?_); rintro e w8 ⟨rfl, hb⟩; refine ⟨_, rfl, ?_⟩; have n0_ := Aside0.mk (below_step (by repeat (first | (with_reducible first | exact HB.out | apply below_alloc | apply pw_below_drewN | apply below_drew1) | exact HB.out)) hb); clear HB; have HB := n0_; clear n0_; (try clear hb); (try clear hb2); (try clear hk); (try clear hi)))
  (try simp only [Act.put, List.setIfInBounds_toArray, List.set_cons_zero, List.set_cons_succ])
  go_cut [51] (fun v51 wc => ∃ (kq : Nat) (x51_5 : Bool), v51 = .bool x51_5 ∧ Aside0 (plumblaw01_WideRing.j0 kq a0 a1 a2 t107 t108 x51_5 = some r) ∧ Aside0 (kq ≤ k) ∧ Aside0 (Below w.heap.size w wc))
  case first =>
    have H := HC6.out
    clear HC6
    by_cases c9 : t107 = t109
    · rw [if_pos c9] at H
      have c9b0 : (t107 == t109) = true := beq_iff_eq.mpr c9
      have c9b1 : (t107 != t109) = false := bne_eq_false_iff_eq.mpr c9
      clear c9
      (first | rw [c9b0] | (simp only [i64_w, i32_w]; rw [c9b0]) | skip)
      by_cases c10 : t108 = t110
      · rw [if_pos c10] at H
        have c10b0 : (t108 == t110) = true := beq_iff_eq.mpr c10
        have c10b1 : (t108 != t110) = false := bne_eq_false_iff_eq.mpr c10
        clear c10
        have H' := Aside0.mk H
        clear H
        go_wp2
        go_meet
        case rel => exact ⟨_, ((t108 != (IntKind.u64.wrap (a0 * a1)))), (by first | rfl | (simp; done) | (simp [*]; done)), H', ⟨by first | omega | exact Nat.le_refl _⟩, ⟨by repeat (first | (with_reducible first | exact HB.out | apply below_alloc | apply pw_below_drewN | apply below_drew1) | exact HB.out)⟩⟩
      · rw [if_neg c10] at H
        have c10b0 : (t108 == t110) = false := beq_eq_false_iff_ne.mpr c10
        have c10b1 : (t108 != t110) = true := bne_iff_ne.mpr c10
        have H' := Aside0.mk H
        clear H
        go_wp2
        go_meet
        case rel => exact ⟨_, (true), (by first | rfl | (simp; done) | (simp [*]; done)), H', ⟨by first | omega | exact Nat.le_refl _⟩, ⟨by repeat (first | (with_reducible first | exact HB.out | apply below_alloc | apply pw_below_drewN | apply below_drew1) | exact HB.out)⟩⟩
    · rw [if_neg c9] at H
      have c9b0 : (t107 == t109) = false := beq_eq_false_iff_ne.mpr c9
      have c9b1 : (t107 != t109) = true := bne_iff_ne.mpr c9
      (first | rw [c9b0] | (simp only [i64_w, i32_w]; rw [c9b0]) | skip)
      have H' := Aside0.mk H
      clear H
      go_wp2
      go_meet
      case rel => exact ⟨_, (true), (by first | rfl | (simp; done) | (simp [*]; done)), H', ⟨by first | omega | exact Nat.le_refl _⟩, ⟨by repeat (first | (with_reducible first | exact HB.out | apply below_alloc | apply pw_below_drewN | apply below_drew1) | exact HB.out)⟩⟩
  case rest =>
    clear HC6
    try clear c1
    try clear p2
    try clear c9
    try clear c9b0
    try clear c9b1
    try clear c10
    try clear c10b0
    try clear c10b1
    obtain ⟨kq, x51_5, rfl, HA, HJ5, HB⟩ := hcut
    cases kq with
    | zero => exact absurd HA.out (by simp [plumblaw01_WideRing.j0])
    | succ kj5 =>
      have H := HA.out
      clear HA
      simp only [plumblaw01_WideRing.j0] at H
      by_cases c11 : x51_5 = true
      · subst c11
        have H1 : (some false) = some r := by rw [if_pos rfl] at H; exact H
        clear H
        have H := H1
        clear H1
        obtain rfl := Option.some.inj H
        go_wp2
        go_ret
        exact ⟨by first | rfl | (simp [errW_none, errW_some] <;> rfl) | (simp [*, errW_none, errW_some] <;> rfl), by repeat (first | (with_reducible first | exact HB.out | apply below_alloc | apply pw_below_drewN | apply below_drew1) | exact HB.out)⟩
      · replace c11 := Bool.eq_false_iff.mpr c11
        subst c11
        have H1 : ((wide_Mul.f a0 1).bind fun bt111 => ((wide_Mul.f a0 0).bind fun bt113 => (if bt111.1 = 0 then (if bt111.2 = a0 then (if bt113.1 = 0 then (plumblaw01_WideRing.j1 kj5 a0 a1 a2 t107 t108 (bt113.2 != 0)) else (plumblaw01_WideRing.j1 kj5 a0 a1 a2 t107 t108 true)) else (plumblaw01_WideRing.j1 kj5 a0 a1 a2 t107 t108 true)) else (plumblaw01_WideRing.j1 kj5 a0 a1 a2 t107 t108 true)))) = some r := by rw [if_neg (show ¬ (false = true) by decide)] at H; exact H
        clear H
        have H := H1
        clear H1
        replace H := Option.bind_eq_some_iff.mp H
        obtain ⟨⟨t111, t112⟩, A120, H⟩ := H
        replace H : ((wide_Mul.f a0 0).bind fun bt113 => (if t111 = 0 then (if t112 = a0 then (if bt113.1 = 0 then (plumblaw01_WideRing.j1 kj5 a0 a1 a2 t107 t108 (bt113.2 != 0)) else (plumblaw01_WideRing.j1 kj5 a0 a1 a2 t107 t108 true)) else (plumblaw01_WideRing.j1 kj5 a0 a1 a2 t107 t108 true)) else (plumblaw01_WideRing.j1 kj5 a0 a1 a2 t107 t108 true))) = some r := H
        have A12 := Aside0.mk A120
        clear A120
        replace H := Option.bind_eq_some_iff.mp H
        obtain ⟨⟨t113, t114⟩, A130, H⟩ := H
        replace H : (if t111 = 0 then (if t112 = a0 then (if t113 = 0 then (plumblaw01_WideRing.j1 kj5 a0 a1 a2 t107 t108 (t114 != 0)) else (plumblaw01_WideRing.j1 kj5 a0 a1 a2 t107 t108 true)) else (plumblaw01_WideRing.j1 kj5 a0 a1 a2 t107 t108 true)) else (plumblaw01_WideRing.j1 kj5 a0 a1 a2 t107 t108 true)) = some r := H
        have A13 := Aside0.mk A130
        clear A130
        have HC14 := Aside0.mk H
        clear H
        go_upto_region 7 with (first | ((with_reducible refine gate_callee (f := 18) rfl ?_); refine goesL_ (some 54) rfl rfl Try.func18 (by kernel_rfl) rfl #[.int .u64 a0, .int .u64 1] rfl (by (try simp only [List.map_toArray, List.map_cons, List.map_nil]); first | done | rfl | (simp only [List.length_drop, List.length_take]; rfl)) ?_; (with_reducible refine (wide_Mul.calls a0 1 t111 t112 _ A12.out).mono ?_); rintro e w15 ⟨rfl, hb⟩; refine ⟨_, rfl, ?_⟩; have n0_ := Aside0.mk (below_step (by repeat (first | (with_reducible first | exact HB.out | apply below_alloc | apply pw_below_drewN | apply below_drew1) | exact HB.out)) hb); clear HB; have HB := n0_; clear n0_; (try clear hb); (try clear hb2); (try clear hk); (try clear hi)) | ((with_reducible refine gate_callee (f := 18) rfl ?_); refine goesL_ (some 59) rfl rfl Try.func18 (by kernel_rfl) rfl #[.int .u64 a0, .int .u64 0] rfl (by (try simp only [List.map_toArray, List.map_cons, List.map_nil]); first | done | rfl | (simp only [List.length_drop, List.length_take]; rfl)) ?_; (with_reducible refine (wide_Mul.calls a0 0 t113 t114 _ A13.out).mono ?_); rintro e w16 ⟨rfl, hb⟩; refine ⟨_, rfl, ?_⟩; have n0_ := Aside0.mk (below_step (by repeat (first | (with_reducible first | exact HB.out | apply below_alloc | apply pw_below_drewN | apply below_drew1) | exact HB.out)) hb); clear HB; have HB := n0_; clear n0_; (try clear hb); (try clear hb2); (try clear hk); (try clear hi)))
        (try simp only [Act.put, List.setIfInBounds_toArray, List.set_cons_zero, List.set_cons_succ])
        go_cut [76] (fun v76 wc => ∃ (kq : Nat) (x76_13 : Bool), v76 = .bool x76_13 ∧ Aside0 (plumblaw01_WideRing.j1 kq a0 a1 a2 t107 t108 x76_13 = some r) ∧ Aside0 (kq ≤ kj5) ∧ Aside0 (Below w.heap.size w wc))
        case first =>
          have H := HC14.out
          clear HC14
          by_cases c17 : t111 = 0
          · rw [if_pos c17] at H
            have c17b0 : (t111 == 0) = true := beq_iff_eq.mpr c17
            have c17b1 : (t111 != 0) = false := bne_eq_false_iff_eq.mpr c17
            clear c17
            (first | rw [c17b0] | (simp only [i64_w, i32_w]; rw [c17b0]) | skip)
            by_cases c18 : t112 = a0
            · rw [if_pos c18] at H
              have c18b0 : (t112 == a0) = true := beq_iff_eq.mpr c18
              have c18b1 : (t112 != a0) = false := bne_eq_false_iff_eq.mpr c18
              clear c18
              by_cases c19 : t113 = 0
              · rw [if_pos c19] at H
                have c19b0 : (t113 == 0) = true := beq_iff_eq.mpr c19
                have c19b1 : (t113 != 0) = false := bne_eq_false_iff_eq.mpr c19
                clear c19
                have H' := Aside0.mk H
                clear H
                go_wp2
                go_meet
                case rel => exact ⟨_, ((t114 != 0)), (by first | rfl | (simp; done) | (simp [*]; done)), H', ⟨by have := HJ5.out; first | omega | exact Nat.le_refl _⟩, ⟨by repeat (first | (with_reducible first | exact HB.out | apply below_alloc | apply pw_below_drewN | apply below_drew1) | exact HB.out)⟩⟩
              · rw [if_neg c19] at H
                have c19b0 : (t113 == 0) = false := beq_eq_false_iff_ne.mpr c19
                have c19b1 : (t113 != 0) = true := bne_iff_ne.mpr c19
                have H' := Aside0.mk H
                clear H
                go_wp2
                go_meet
                case rel => exact ⟨_, (true), (by first | rfl | (simp; done) | (simp [*]; done)), H', ⟨by have := HJ5.out; first | omega | exact Nat.le_refl _⟩, ⟨by repeat (first | (with_reducible first | exact HB.out | apply below_alloc | apply pw_below_drewN | apply below_drew1) | exact HB.out)⟩⟩
            · rw [if_neg c18] at H
              have c18b0 : (t112 == a0) = false := beq_eq_false_iff_ne.mpr c18
              have c18b1 : (t112 != a0) = true := bne_iff_ne.mpr c18
              have H' := Aside0.mk H
              clear H
              go_wp2
              go_meet
              case rel => exact ⟨_, (true), (by first | rfl | (simp; done) | (simp [*]; done)), H', ⟨by have := HJ5.out; first | omega | exact Nat.le_refl _⟩, ⟨by repeat (first | (with_reducible first | exact HB.out | apply below_alloc | apply pw_below_drewN | apply below_drew1) | exact HB.out)⟩⟩
          · rw [if_neg c17] at H
            have c17b0 : (t111 == 0) = false := beq_eq_false_iff_ne.mpr c17
            have c17b1 : (t111 != 0) = true := bne_iff_ne.mpr c17
            (first | rw [c17b0] | (simp only [i64_w, i32_w]; rw [c17b0]) | skip)
            have H' := Aside0.mk H
            clear H
            go_wp2
            go_meet
            case rel => exact ⟨_, (true), (by first | rfl | (simp; done) | (simp [*]; done)), H', ⟨by have := HJ5.out; first | omega | exact Nat.le_refl _⟩, ⟨by repeat (first | (with_reducible first | exact HB.out | apply below_alloc | apply pw_below_drewN | apply below_drew1) | exact HB.out)⟩⟩
        case rest =>
          clear HC14
          try clear c1
          try clear p2
          try clear c9
          try clear c9b0
          try clear c9b1
          try clear c10
          try clear c10b0
          try clear c10b1
          try clear c11
          try clear c17
          try clear c17b0
          try clear c17b1
          try clear c18
          try clear c18b0
          try clear c18b1
          try clear c19
          try clear c19b0
          try clear c19b1
          try clear p2
          obtain ⟨kq, x76_13, rfl, HA, HJ13, HB⟩ := hcut
          cases kq with
          | zero => exact absurd HA.out (by simp [plumblaw01_WideRing.j1])
          | succ kj13 =>
            have H := HA.out
            clear HA
            simp only [plumblaw01_WideRing.j1] at H
            by_cases c20 : x76_13 = true
            · subst c20
              have H1 : (some false) = some r := by rw [if_pos rfl] at H; exact H
              clear H
              have H := H1
              clear H1
              obtain rfl := Option.some.inj H
              go_wp2
              go_ret
              exact ⟨by first | rfl | (simp [errW_none, errW_some] <;> rfl) | (simp [*, errW_none, errW_some] <;> rfl), by repeat (first | (with_reducible first | exact HB.out | apply below_alloc | apply pw_below_drewN | apply below_drew1) | exact HB.out)⟩
            · replace c20 := Bool.eq_false_iff.mpr c20
              subst c20
              have H1 : ((wide_Add.f a1 a2 0).bind fun bt115 => ((wide_Mul3.f bt115.2 bt115.1 a0).bind fun bt117 => ((wide_Mul.f a0 a2).bind fun bt120 => ((wide_Add.f t108 bt120.2 0).bind fun bt122 => ((wide_Add.f t107 bt120.1 bt122.2).bind fun bt124 => (if bt117.1 = bt124.2 then (if bt117.2.1 = bt124.1 then (some (bt117.2.2 == bt122.1)) else (some false)) else (some false))))))) = some r := by rw [if_neg (show ¬ (false = true) by decide)] at H; exact H
              clear H
              have H := H1
              clear H1
              replace H := Option.bind_eq_some_iff.mp H
              obtain ⟨⟨t115, t116⟩, A210, H⟩ := H
              replace H : ((wide_Mul3.f t116 t115 a0).bind fun bt117 => ((wide_Mul.f a0 a2).bind fun bt120 => ((wide_Add.f t108 bt120.2 0).bind fun bt122 => ((wide_Add.f t107 bt120.1 bt122.2).bind fun bt124 => (if bt117.1 = bt124.2 then (if bt117.2.1 = bt124.1 then (some (bt117.2.2 == bt122.1)) else (some false)) else (some false)))))) = some r := H
              have A21 := Aside0.mk A210
              clear A210
              replace H := Option.bind_eq_some_iff.mp H
              obtain ⟨⟨t117, t118, t119⟩, A220, H⟩ := H
              replace H : ((wide_Mul.f a0 a2).bind fun bt120 => ((wide_Add.f t108 bt120.2 0).bind fun bt122 => ((wide_Add.f t107 bt120.1 bt122.2).bind fun bt124 => (if t117 = bt124.2 then (if t118 = bt124.1 then (some (t119 == bt122.1)) else (some false)) else (some false))))) = some r := H
              have A22 := Aside0.mk A220
              clear A220
              replace H := Option.bind_eq_some_iff.mp H
              obtain ⟨⟨t120, t121⟩, A230, H⟩ := H
              replace H : ((wide_Add.f t108 t121 0).bind fun bt122 => ((wide_Add.f t107 t120 bt122.2).bind fun bt124 => (if t117 = bt124.2 then (if t118 = bt124.1 then (some (t119 == bt122.1)) else (some false)) else (some false)))) = some r := H
              have A23 := Aside0.mk A230
              clear A230
              replace H := Option.bind_eq_some_iff.mp H
              obtain ⟨⟨t122, t123⟩, A240, H⟩ := H
              replace H : ((wide_Add.f t107 t120 t123).bind fun bt124 => (if t117 = bt124.2 then (if t118 = bt124.1 then (some (t119 == t122)) else (some false)) else (some false))) = some r := H
              have A24 := Aside0.mk A240
              clear A240
              replace H := Option.bind_eq_some_iff.mp H
              obtain ⟨⟨t124, t125⟩, A250, H⟩ := H
              replace H : (if t117 = t125 then (if t118 = t124 then (some (t119 == t122)) else (some false)) else (some false)) = some r := H
              have A25 := Aside0.mk A250
              clear A250
              by_cases c26 : t117 = t125
              · rw [if_pos c26] at H
                have c26b0 : (t117 == t125) = true := beq_iff_eq.mpr c26
                have c26b1 : (t117 != t125) = false := bne_eq_false_iff_eq.mpr c26
                clear c26
                by_cases c27 : t118 = t124
                · rw [if_pos c27] at H
                  have c27b0 : (t118 == t124) = true := beq_iff_eq.mpr c27
                  have c27b1 : (t118 != t124) = false := bne_eq_false_iff_eq.mpr c27
                  clear c27
                  obtain rfl := Option.some.inj H
                  go_wp2_with (first | ((with_reducible refine gate_callee (f := 14) rfl ?_); refine goesL_ (some 80) rfl rfl Try.func14 (by kernel_rfl) rfl #[.int .u64 a1, .int .u64 a2, .int .u64 0] rfl (by (try simp only [List.map_toArray, List.map_cons, List.map_nil]); first | done | rfl | (simp only [List.length_drop, List.length_take]; rfl)) ?_; (with_reducible refine (wide_Add.calls a1 a2 0 t115 t116 _ A21.out).mono ?_); rintro e w' ⟨rfl, ⟨nd, rfl⟩⟩; refine ⟨_, rfl, ?_⟩) | ((with_reducible refine gate_callee (f := 23) rfl ?_); refine goesL_ (some 87) rfl rfl Try.func23 (by kernel_rfl) rfl #[.int .u64 t116, .int .u64 t115, .int .u64 a0] rfl (by (try simp only [List.map_toArray, List.map_cons, List.map_nil]); first | done | rfl | (simp only [List.length_drop, List.length_take]; rfl)) ?_; (with_reducible refine (wide_Mul3.calls t116 t115 a0 t117 t118 t119 _ A22.out).mono ?_); rintro e w28 ⟨rfl, hb⟩; refine ⟨_, rfl, ?_⟩; have n0_ := Aside0.mk (below_step (by repeat (first | (with_reducible first | exact HB.out | apply below_alloc | apply pw_below_drewN | apply below_drew1) | exact HB.out)) hb); clear HB; have HB := n0_; clear n0_; (try clear hb); (try clear hb2); (try clear hk); (try clear hi)) | ((with_reducible refine gate_callee (f := 18) rfl ?_); refine goesL_ (some 94) rfl rfl Try.func18 (by kernel_rfl) rfl #[.int .u64 a0, .int .u64 a2] rfl (by (try simp only [List.map_toArray, List.map_cons, List.map_nil]); first | done | rfl | (simp only [List.length_drop, List.length_take]; rfl)) ?_; (with_reducible refine (wide_Mul.calls a0 a2 t120 t121 _ A23.out).mono ?_); rintro e w29 ⟨rfl, hb⟩; refine ⟨_, rfl, ?_⟩; have n0_ := Aside0.mk (below_step (by repeat (first | (with_reducible first | exact HB.out | apply below_alloc | apply pw_below_drewN | apply below_drew1) | exact HB.out)) hb); clear HB; have HB := n0_; clear n0_; (try clear hb); (try clear hb2); (try clear hk); (try clear hi)) | ((with_reducible refine gate_callee (f := 14) rfl ?_); refine goesL_ (some 100) rfl rfl Try.func14 (by kernel_rfl) rfl #[.int .u64 t108, .int .u64 t121, .int .u64 0] rfl (by (try simp only [List.map_toArray, List.map_cons, List.map_nil]); first | done | rfl | (simp only [List.length_drop, List.length_take]; rfl)) ?_; (with_reducible refine (wide_Add.calls t108 t121 0 t122 t123 _ A24.out).mono ?_); rintro e w' ⟨rfl, ⟨nd, rfl⟩⟩; refine ⟨_, rfl, ?_⟩) | ((with_reducible refine gate_callee (f := 14) rfl ?_); refine goesL_ (some 107) rfl rfl Try.func14 (by kernel_rfl) rfl #[.int .u64 t107, .int .u64 t120, .int .u64 t123] rfl (by (try simp only [List.map_toArray, List.map_cons, List.map_nil]); first | done | rfl | (simp only [List.length_drop, List.length_take]; rfl)) ?_; (with_reducible refine (wide_Add.calls t107 t120 t123 t124 t125 _ A25.out).mono ?_); rintro e w' ⟨rfl, ⟨nd, rfl⟩⟩; refine ⟨_, rfl, ?_⟩))
                  go_ret
                  exact ⟨by first | rfl | (simp [errW_none, errW_some] <;> rfl) | (simp [*, errW_none, errW_some] <;> rfl), by repeat (first | (with_reducible first | exact HB.out | apply below_alloc | apply pw_below_drewN | apply below_drew1) | exact HB.out)⟩
                · rw [if_neg c27] at H
                  have c27b0 : (t118 == t124) = false := beq_eq_false_iff_ne.mpr c27
                  have c27b1 : (t118 != t124) = true := bne_iff_ne.mpr c27
                  obtain rfl := Option.some.inj H
                  go_wp2_with (first | ((with_reducible refine gate_callee (f := 14) rfl ?_); refine goesL_ (some 80) rfl rfl Try.func14 (by kernel_rfl) rfl #[.int .u64 a1, .int .u64 a2, .int .u64 0] rfl (by (try simp only [List.map_toArray, List.map_cons, List.map_nil]); first | done | rfl | (simp only [List.length_drop, List.length_take]; rfl)) ?_; (with_reducible refine (wide_Add.calls a1 a2 0 t115 t116 _ A21.out).mono ?_); rintro e w' ⟨rfl, ⟨nd, rfl⟩⟩; refine ⟨_, rfl, ?_⟩) | ((with_reducible refine gate_callee (f := 23) rfl ?_); refine goesL_ (some 87) rfl rfl Try.func23 (by kernel_rfl) rfl #[.int .u64 t116, .int .u64 t115, .int .u64 a0] rfl (by (try simp only [List.map_toArray, List.map_cons, List.map_nil]); first | done | rfl | (simp only [List.length_drop, List.length_take]; rfl)) ?_; (with_reducible refine (wide_Mul3.calls t116 t115 a0 t117 t118 t119 _ A22.out).mono ?_); rintro e w30 ⟨rfl, hb⟩; refine ⟨_, rfl, ?_⟩; have n0_ := Aside0.mk (below_step (by repeat (first | (with_reducible first | exact HB.out | apply below_alloc | apply pw_below_drewN | apply below_drew1) | exact HB.out)) hb); clear HB; have HB := n0_; clear n0_; (try clear hb); (try clear hb2); (try clear hk); (try clear hi)) | ((with_reducible refine gate_callee (f := 18) rfl ?_); refine goesL_ (some 94) rfl rfl Try.func18 (by kernel_rfl) rfl #[.int .u64 a0, .int .u64 a2] rfl (by (try simp only [List.map_toArray, List.map_cons, List.map_nil]); first | done | rfl | (simp only [List.length_drop, List.length_take]; rfl)) ?_; (with_reducible refine (wide_Mul.calls a0 a2 t120 t121 _ A23.out).mono ?_); rintro e w31 ⟨rfl, hb⟩; refine ⟨_, rfl, ?_⟩; have n0_ := Aside0.mk (below_step (by repeat (first | (with_reducible first | exact HB.out | apply below_alloc | apply pw_below_drewN | apply below_drew1) | exact HB.out)) hb); clear HB; have HB := n0_; clear n0_; (try clear hb); (try clear hb2); (try clear hk); (try clear hi)) | ((with_reducible refine gate_callee (f := 14) rfl ?_); refine goesL_ (some 100) rfl rfl Try.func14 (by kernel_rfl) rfl #[.int .u64 t108, .int .u64 t121, .int .u64 0] rfl (by (try simp only [List.map_toArray, List.map_cons, List.map_nil]); first | done | rfl | (simp only [List.length_drop, List.length_take]; rfl)) ?_; (with_reducible refine (wide_Add.calls t108 t121 0 t122 t123 _ A24.out).mono ?_); rintro e w' ⟨rfl, ⟨nd, rfl⟩⟩; refine ⟨_, rfl, ?_⟩) | ((with_reducible refine gate_callee (f := 14) rfl ?_); refine goesL_ (some 107) rfl rfl Try.func14 (by kernel_rfl) rfl #[.int .u64 t107, .int .u64 t120, .int .u64 t123] rfl (by (try simp only [List.map_toArray, List.map_cons, List.map_nil]); first | done | rfl | (simp only [List.length_drop, List.length_take]; rfl)) ?_; (with_reducible refine (wide_Add.calls t107 t120 t123 t124 t125 _ A25.out).mono ?_); rintro e w' ⟨rfl, ⟨nd, rfl⟩⟩; refine ⟨_, rfl, ?_⟩))
                  go_ret
                  exact ⟨by first | rfl | (simp [errW_none, errW_some] <;> rfl) | (simp [*, errW_none, errW_some] <;> rfl), by repeat (first | (with_reducible first | exact HB.out | apply below_alloc | apply pw_below_drewN | apply below_drew1) | exact HB.out)⟩
              · rw [if_neg c26] at H
                have c26b0 : (t117 == t125) = false := beq_eq_false_iff_ne.mpr c26
                have c26b1 : (t117 != t125) = true := bne_iff_ne.mpr c26
                obtain rfl := Option.some.inj H
                go_wp2_with (first | ((with_reducible refine gate_callee (f := 14) rfl ?_); refine goesL_ (some 80) rfl rfl Try.func14 (by kernel_rfl) rfl #[.int .u64 a1, .int .u64 a2, .int .u64 0] rfl (by (try simp only [List.map_toArray, List.map_cons, List.map_nil]); first | done | rfl | (simp only [List.length_drop, List.length_take]; rfl)) ?_; (with_reducible refine (wide_Add.calls a1 a2 0 t115 t116 _ A21.out).mono ?_); rintro e w' ⟨rfl, ⟨nd, rfl⟩⟩; refine ⟨_, rfl, ?_⟩) | ((with_reducible refine gate_callee (f := 23) rfl ?_); refine goesL_ (some 87) rfl rfl Try.func23 (by kernel_rfl) rfl #[.int .u64 t116, .int .u64 t115, .int .u64 a0] rfl (by (try simp only [List.map_toArray, List.map_cons, List.map_nil]); first | done | rfl | (simp only [List.length_drop, List.length_take]; rfl)) ?_; (with_reducible refine (wide_Mul3.calls t116 t115 a0 t117 t118 t119 _ A22.out).mono ?_); rintro e w32 ⟨rfl, hb⟩; refine ⟨_, rfl, ?_⟩; have n0_ := Aside0.mk (below_step (by repeat (first | (with_reducible first | exact HB.out | apply below_alloc | apply pw_below_drewN | apply below_drew1) | exact HB.out)) hb); clear HB; have HB := n0_; clear n0_; (try clear hb); (try clear hb2); (try clear hk); (try clear hi)) | ((with_reducible refine gate_callee (f := 18) rfl ?_); refine goesL_ (some 94) rfl rfl Try.func18 (by kernel_rfl) rfl #[.int .u64 a0, .int .u64 a2] rfl (by (try simp only [List.map_toArray, List.map_cons, List.map_nil]); first | done | rfl | (simp only [List.length_drop, List.length_take]; rfl)) ?_; (with_reducible refine (wide_Mul.calls a0 a2 t120 t121 _ A23.out).mono ?_); rintro e w33 ⟨rfl, hb⟩; refine ⟨_, rfl, ?_⟩; have n0_ := Aside0.mk (below_step (by repeat (first | (with_reducible first | exact HB.out | apply below_alloc | apply pw_below_drewN | apply below_drew1) | exact HB.out)) hb); clear HB; have HB := n0_; clear n0_; (try clear hb); (try clear hb2); (try clear hk); (try clear hi)) | ((with_reducible refine gate_callee (f := 14) rfl ?_); refine goesL_ (some 100) rfl rfl Try.func14 (by kernel_rfl) rfl #[.int .u64 t108, .int .u64 t121, .int .u64 0] rfl (by (try simp only [List.map_toArray, List.map_cons, List.map_nil]); first | done | rfl | (simp only [List.length_drop, List.length_take]; rfl)) ?_; (with_reducible refine (wide_Add.calls t108 t121 0 t122 t123 _ A24.out).mono ?_); rintro e w' ⟨rfl, ⟨nd, rfl⟩⟩; refine ⟨_, rfl, ?_⟩) | ((with_reducible refine gate_callee (f := 14) rfl ?_); refine goesL_ (some 107) rfl rfl Try.func14 (by kernel_rfl) rfl #[.int .u64 t107, .int .u64 t120, .int .u64 t123] rfl (by (try simp only [List.map_toArray, List.map_cons, List.map_nil]); first | done | rfl | (simp only [List.length_drop, List.length_take]; rfl)) ?_; (with_reducible refine (wide_Add.calls t107 t120 t123 t124 t125 _ A25.out).mono ?_); rintro e w' ⟨rfl, ⟨nd, rfl⟩⟩; refine ⟨_, rfl, ?_⟩))
                go_ret
                exact ⟨by first | rfl | (simp [errW_none, errW_some] <;> rfl) | (simp [*, errW_none, errW_some] <;> rfl), by repeat (first | (with_reducible first | exact HB.out | apply below_alloc | apply pw_below_drewN | apply below_drew1) | exact HB.out)⟩

/-- THE ONE PURE STATEMENT of plumblaw01_WideRing: yours. -/
def plumblaw01_WideRing.Pure : Prop := ∀ (a0 : Int) (a1 : Int) (a2 : Int), (Lit.int .u64 a0).wf = true → (Lit.int .u64 a1).wf = true → (Lit.int .u64 a2).wf = true → ∃ k, plumblaw01_WideRing.f k a0 a1 a2 = some true
theorem plumblaw01_WideRing.walk (P : plumblaw01_WideRing.Pure) (a0 : Int) (a1 : Int) (a2 : Int) (w : World) (w0 : (Lit.int .u64 a0).wf = true) (w1 : (Lit.int .u64 a1).wf = true) (w2 : (Lit.int .u64 a2).wf = true) :
    Calls Try.prog 9 #[.int .u64 a0, .int .u64 a1, .int .u64 a2] w fun e w' => e = .returned (.bool true) ∧ Below w.heap.size w w' := by
  obtain ⟨k, h⟩ := P a0 a1 a2 w0 w1 w2
  refine (plumblaw01_WideRing.calls k a0 a1 a2 true w h).mono ?_
  rintro e w' ⟨rfl, hd⟩
  exact ⟨rfl, hd⟩

end Go.Proofs.Ythinhdnbhkppgaa.PWideRing
