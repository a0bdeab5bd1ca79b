/- Go functions as Lean functions and their contracts: each call comes to what the Lean function says; or a law's row out of them. No conditions. Written by this session's wip/hprint.py (the kit's print with contracts and repairs of my own). -/
import Derived.Test.YthinhdnbhkppgaaPWideShiftsx0
namespace Go.Proofs.Ythinhdnbhkppgaa.PWideShifts
open Go.RowKit Go.Proofs.YthinhdnbhkppgaaW.PrintWords Go.Proofs.YthinhdnbhkppgaaW.PrintLast Go.Proofs.YthinhdnbhkppgaaW.PrintMore
attribute [local go_sem] max2_int min2_int max_two min_two max_three min_three max_four min_four   -- for this text's walks alone
set_option linter.unusedVariables false
set_option linter.unusedSimpArgs false

/-! ### wide_Add: function 14 -/
def wide_Add.f (a0 : Int) (a1 : Int) (a2 : Int) : Option (Int × Int) := if (IntKind.u64.wrap (a0 + a1)) < a0 then (some (IntKind.u64.wrap ((IntKind.u64.wrap (a0 + a1)) + (Go.bits .and .u64 a2 1)), 1)) else (if (IntKind.u64.wrap ((IntKind.u64.wrap (a0 + a1)) + (Go.bits .and .u64 a2 1))) < (IntKind.u64.wrap (a0 + a1)) then (some (IntKind.u64.wrap ((IntKind.u64.wrap (a0 + a1)) + (Go.bits .and .u64 a2 1)), 1)) else (some (IntKind.u64.wrap ((IntKind.u64.wrap (a0 + a1)) + (Go.bits .and .u64 a2 1)), 0)))
set_option maxHeartbeats 8000000 in
set_option maxRecDepth 100000 in
theorem wide_Add.calls (a0 : Int) (a1 : Int) (a2 : Int) (r1 : Int) (r2 : Int) (w : World) (h : wide_Add.f a0 a1 a2 = some (r1, r2)) :
    Calls Try.prog 14 #[.int .u64 a0, .int .u64 a1, .int .u64 a2] w fun e w' => e = .returned (.tuple #[.int .u64 r1, .int .u64 r2]) ∧ Drawn0 w w' := by
  have H : (if (IntKind.u64.wrap (a0 + a1)) < a0 then (some (IntKind.u64.wrap ((IntKind.u64.wrap (a0 + a1)) + (Go.bits .and .u64 a2 1)), 1)) else (if (IntKind.u64.wrap ((IntKind.u64.wrap (a0 + a1)) + (Go.bits .and .u64 a2 1))) < (IntKind.u64.wrap (a0 + a1)) then (some (IntKind.u64.wrap ((IntKind.u64.wrap (a0 + a1)) + (Go.bits .and .u64 a2 1)), 1)) else (some (IntKind.u64.wrap ((IntKind.u64.wrap (a0 + a1)) + (Go.bits .and .u64 a2 1)), 0)))) = some (r1, r2) := h
  clear h
  by_cases c4 : (IntKind.u64.wrap (a0 + a1)) < a0
  · rw [if_pos c4] at H
    have c4b0 : decide ((IntKind.u64.wrap (a0 + a1)) < a0) = true := decide_eq_true c4
    clear c4
    simp only [Option.some.injEq, Prod.mk.injEq] at H
    obtain ⟨rfl, rfl⟩ := H
    go_enter Try.func14, Try.ntmps14
    go_wp2
    go_ret2
    exact ⟨by first | rfl | (simp; done) | (simp [*]; done), by repeat (first | exact Drawn0.refl _ | apply Drawn0.step)⟩
  · rw [if_neg c4] at H
    have c4b0 : decide ((IntKind.u64.wrap (a0 + a1)) < a0) = false := decide_eq_false c4
    clear c4
    by_cases c5 : (IntKind.u64.wrap ((IntKind.u64.wrap (a0 + a1)) + (Go.bits .and .u64 a2 1))) < (IntKind.u64.wrap (a0 + a1))
    · rw [if_pos c5] at H
      have c5b0 : decide ((IntKind.u64.wrap ((IntKind.u64.wrap (a0 + a1)) + (Go.bits .and .u64 a2 1))) < (IntKind.u64.wrap (a0 + a1))) = true := decide_eq_true c5
      clear c5
      simp only [Option.some.injEq, Prod.mk.injEq] at H
      obtain ⟨rfl, rfl⟩ := H
      go_enter Try.func14, Try.ntmps14
      go_wp2
      go_ret2
      exact ⟨by first | rfl | (simp; done) | (simp [*]; done), by repeat (first | exact Drawn0.refl _ | apply Drawn0.step)⟩
    · rw [if_neg c5] at H
      have c5b0 : decide ((IntKind.u64.wrap ((IntKind.u64.wrap (a0 + a1)) + (Go.bits .and .u64 a2 1))) < (IntKind.u64.wrap (a0 + a1))) = false := decide_eq_false c5
      clear c5
      simp only [Option.some.injEq, Prod.mk.injEq] at H
      obtain ⟨rfl, rfl⟩ := H
      go_enter Try.func14, Try.ntmps14
      go_wp2
      go_ret2
      exact ⟨by first | rfl | (simp; done) | (simp [*]; done), by repeat (first | exact Drawn0.refl _ | apply Drawn0.step)⟩

/-! ### wide_Len: function 20 -/
def wide_Len.l0 : Nat → Int → Int → Int → Option (Int)
  | 0, _, _, _ => none
  | k + 1, x0, x3, x4 => if x4 > 0 then (if 0 ≤ x4 then (if (shr .u64 x0 x4) = 0 then (wide_Len.l0 k x0 x3 (x4 / 2)) else (wide_Len.l0 k (shr .u64 x0 x4) (wrap64 (x3 + x4)) (x4 / 2))) else (none)) else (some (wrap64 (x3 + (wrap64 (x0)))))
def wide_Len.f (k : Nat) (a0 : Int) : Option (Int) := wide_Len.l0 k a0 0 32
theorem wide_Len.mono_l : ∀ k, (∀ y0 y1 y2, LeO (wide_Len.l0 k y0 y1 y2) (wide_Len.l0 (k + 1) y0 y1 y2))
  | 0 => fun _ _ _ r h => by simp [wide_Len.l0] at h
  | k + 1 => by
    have ih0 := wide_Len.mono_l k
    · intro y0 y1 y2
      unfold wide_Len.l0
      repeat' first
      | (with_reducible exact ih0 _ _ _)
      | (with_reducible exact LeO.refl _)
      | (with_reducible exact LeO.none _)
      | (with_reducible refine LeO.ite ?_ ?_)
      | (with_reducible refine LeO.bind ?_ (fun _ => ?_))
      | exact ih0 _ _ _
      | exact LeO.none _
      | refine LeO.ite ?_ ?_
      | refine LeO.bind ?_ (fun _ => ?_)
theorem wide_Len.mono : ∀ a0 k, LeO (wide_Len.f k a0) (wide_Len.f (k + 1) a0) := by
  intro a0 k
  have ih0 := wide_Len.mono_l k
  unfold wide_Len.f
  repeat' first
      | (with_reducible exact ih0 _ _ _)
      | (with_reducible exact LeO.refl _)
      | (with_reducible exact LeO.none _)
      | (with_reducible refine LeO.ite ?_ ?_)
      | (with_reducible refine LeO.bind ?_ (fun _ => ?_))
      | exact ih0 _ _ _
      | exact LeO.none _
      | refine LeO.ite ?_ ?_
      | refine LeO.bind ?_ (fun _ => ?_)
set_option maxHeartbeats 8000000 in
set_option maxRecDepth 100000 in
theorem wide_Len.calls (k : Nat) (a0 : Int) (r : Int) (w : World) (h : wide_Len.f k a0 = some r) :
    Calls Try.prog 20 #[.int .u64 a0] w fun e w' => e = .returned (.int .i64 r) ∧ Drawn0 w w' := by
  have H : (wide_Len.l0 k a0 0 32) = some r := h
  clear h
  have H' := Aside0.mk H
  clear H
  go_enter Try.func20, Try.ntmps20
  go_wp2
  go_loopg [0, 3, 4] k (fun kq v0 v3 v4 w' => ∃ (x0_1 : Int) (x3_1 : Int) (x4_1 : Int), v0 = .int .u64 x0_1 ∧ v3 = .int .i64 x3_1 ∧ v4 = .int .i64 x4_1 ∧ Aside0 (wide_Len.l0 kq x0_1 x3_1 x4_1 = some r) ∧ Aside0 (kq ≤ k) ∧ Drawn0 w w')
  case atStart => exact ⟨(a0), (0), (32), (by first | rfl | (simp; done) | (simp [*]; done)), (by first | rfl | (simp; done) | (simp [*]; done)), (by first | rfl | (simp; done) | (simp [*]; done)), H', ⟨Nat.le_refl _⟩, by repeat (first | exact Drawn0.refl _ | apply Drawn0.step)⟩
  case round =>
    clear H'
    obtain ⟨x0_1, x3_1, x4_1, rfl, rfl, rfl, HA, HK1, ⟨m1, rfl⟩⟩ := hrel
    cases gk with
    | zero => exact absurd HA.out (by simp [wide_Len.l0])
    | succ k1 =>
      have H := HA.out
      clear HA
      simp only [wide_Len.l0] at H
      by_cases c2 : x4_1 > 0
      · rw [if_pos c2] at H
        have c2b0 : decide (0 < x4_1) = true := decide_eq_true c2
        clear c2
        by_cases c3 : 0 ≤ x4_1
        · rw [if_pos c3] at H
          have c3b0 := eq_true c3
          have c3b1 : decide (0 ≤ x4_1) = true := decide_eq_true c3
          clear c3
          obtain ⟨ji4, hji4⟩ : ∃ j_ : Int, (shr .u64 x0_1 x4_1) = j_ := ⟨_, rfl⟩
          replace H : (if (ji4) = 0 then (wide_Len.l0 k1 x0_1 x3_1 (x4_1 / 2)) else (wide_Len.l0 k1 ji4 (wrap64 (x3_1 + x4_1)) (x4_1 / 2))) = some r := by first | (rw [hji4] at H; exact H) | (simp only [hji4] at H ⊢; exact H)
          have hji4_ : (x0_1 / 2 ^ min x4_1.toNat 64) = ji4 := hji4
          have hji4z : x4_1 ≤ 64 → (x0_1 / 2 ^ x4_1.toNat) = ji4 := shr_small hji4
          by_cases c5 : (ji4) = 0
          · rw [if_pos c5] at H
            have c5b0 : ((ji4) == 0) = true := beq_iff_eq.mpr c5
            have c5b1 : ((ji4) != 0) = false := bne_eq_false_iff_eq.mpr c5
            clear c5
            have H' := Aside0.mk H
            clear H
            go_wp2
            go_roundg k1
            case measure => have := HK1.out; omega
            case rel => exact ⟨(x0_1), (x3_1), (x4_1 / 2), (by first | rfl | (simp; done) | (simp [*]; done)), (by first | rfl | (simp; done) | (simp [*]; done)), (by first | rfl | (simp; done) | (simp [*]; done)), H', ⟨by have := HK1.out; omega⟩, by repeat (first | exact Drawn0.refl _ | apply Drawn0.step)⟩
          · rw [if_neg c5] at H
            have c5b0 : ((ji4) == 0) = false := beq_eq_false_iff_ne.mpr c5
            have c5b1 : ((ji4) != 0) = true := bne_iff_ne.mpr c5
            have c6b0 := eq_true (of_decide_eq_true (by first | (with_reducible assumption) | assumption) : 0 ≤ x4_1)
            have H' := Aside0.mk H
            clear H
            go_wp2
            go_roundg k1
            case measure => have := HK1.out; omega
            case rel => exact ⟨(ji4), (wrap64 (x3_1 + x4_1)), (x4_1 / 2), (by first | rfl | (simp; done) | (simp only [← hji4] <;> (first | rfl | simp)) | (simp [*]; done)), (by first | rfl | (simp; done) | (simp [*]; done)), (by first | rfl | (simp; done) | (simp [*]; done)), H', ⟨by have := HK1.out; omega⟩, by repeat (first | exact Drawn0.refl _ | apply Drawn0.step)⟩
        · rw [if_neg c3] at H
          exact absurd H (by simp)
      · rw [if_neg c2] at H
        have c2b0 : decide (0 < x4_1) = false := decide_eq_false c2
        clear c2
        obtain rfl := Option.some.inj H
        go_wp2
        go_ret
        exact ⟨by first | rfl | (simp; done) | (simp [*]; done), by repeat (first | exact Drawn0.refl _ | apply Drawn0.step)⟩

/-! ### wide_Zeros: function 21 -/
def wide_Zeros.f (k : Nat) (a0 : Int) : Option (Int) := if a0 = 0 then (some 64) else ((wide_Len.f k (Go.bits .and .u64 a0 (IntKind.u64.wrap (-a0)))).bind fun t101 => (some (wrap64 (t101 - 1))))
theorem wide_Zeros.mono : ∀ a0 k, LeO (wide_Zeros.f k a0) (wide_Zeros.f (k + 1) a0) := by
  intro a0 k
  unfold wide_Zeros.f
  repeat' first
      | (with_reducible exact wide_Len.mono _ _)
      | (with_reducible exact LeO.refl _)
      | (with_reducible exact LeO.none _)
      | (with_reducible refine LeO.ite ?_ ?_)
      | (with_reducible refine LeO.bind ?_ (fun _ => ?_))
      | exact wide_Len.mono _ _
      | exact LeO.none _
      | refine LeO.ite ?_ ?_
      | refine LeO.bind ?_ (fun _ => ?_)
set_option maxHeartbeats 8000000 in
set_option maxRecDepth 100000 in
theorem wide_Zeros.calls (k : Nat) (a0 : Int) (r : Int) (w : World) (h : wide_Zeros.f k a0 = some r) :
    Calls Try.prog 21 #[.int .u64 a0] w fun e w' => e = .returned (.int .i64 r) ∧ Drawn0 w w' := by
  have H : (if a0 = 0 then (some 64) else ((wide_Len.f k (Go.bits .and .u64 a0 (IntKind.u64.wrap (-a0)))).bind fun t101 => (some (wrap64 (t101 - 1))))) = some r := h
  clear h
  by_cases c2 : a0 = 0
  · rw [if_pos c2] at H
    have c2b0 : (a0 == 0) = true := beq_iff_eq.mpr c2
    have c2b1 : (a0 != 0) = false := bne_eq_false_iff_eq.mpr c2
    clear c2
    obtain rfl := Option.some.inj H
    go_enter Try.func21, Try.ntmps21
    go_wp2
    go_ret
    exact ⟨by first | rfl | (simp; done) | (simp [*]; done), by repeat (first | exact Drawn0.refl _ | apply Drawn0.step)⟩
  · rw [if_neg c2] at H
    have c2b0 : (a0 == 0) = false := beq_eq_false_iff_ne.mpr c2
    have c2b1 : (a0 != 0) = true := bne_iff_ne.mpr c2
    replace H := Option.bind_eq_some_iff.mp H
    obtain ⟨t101, A30, H⟩ := H
    replace H : (some (wrap64 (t101 - 1))) = some r := H
    have A3 := Aside0.mk A30
    clear A30
    obtain rfl := Option.some.inj H
    go_enter Try.func21, Try.ntmps21
    go_wp2_with (first | ((with_reducible refine gate_callee (f := 20) rfl ?_); refine goesL_ (some 9) rfl rfl Try.func20 (by kernel_rfl) rfl #[.int .u64 (Go.bits .and .u64 a0 (IntKind.u64.wrap (-a0)))] rfl (by (try simp only [List.map_toArray, List.map_cons, List.map_nil]); first | done | rfl | (simp only [List.length_drop, List.length_take]; rfl)) ?_; (with_reducible refine (wide_Len.calls k (Go.bits .and .u64 a0 (IntKind.u64.wrap (-a0))) t101 _ A3.out).mono ?_); rintro e w' ⟨rfl, ⟨nd, rfl⟩⟩; refine ⟨_, rfl, ?_⟩))
    go_ret
    exact ⟨by first | rfl | (simp; done) | (simp [*]; done), by repeat (first | exact Drawn0.refl _ | apply Drawn0.step)⟩

/-! ### plumblaw01_held: function 28 -/
def plumblaw01_held.f (a0 : Int) : Option (Int) := if a0 < 0 then (some 0) else (if a0 > 128 then (some 128) else (some a0))
set_option maxHeartbeats 8000000 in
set_option maxRecDepth 100000 in
theorem plumblaw01_held.calls (a0 : Int) (r : Int) (w : World) (h : plumblaw01_held.f a0 = some r) :
    Calls Try.prog 28 #[.int .i64 a0] w fun e w' => e = .returned (.int .i64 r) ∧ Drawn0 w w' := by
  have H : (if a0 < 0 then (some 0) else (if a0 > 128 then (some 128) else (some a0))) = some r := h
  clear h
  by_cases c2 : a0 < 0
  · rw [if_pos c2] at H
    have c2b0 : decide (a0 < 0) = true := decide_eq_true c2
    clear c2
    obtain rfl := Option.some.inj H
    go_enter Try.func28, Try.ntmps28
    go_wp2
    go_ret
    exact ⟨by first | rfl | (simp; done) | (simp [*]; done), by repeat (first | exact Drawn0.refl _ | apply Drawn0.step)⟩
  · rw [if_neg c2] at H
    have c2b0 : decide (a0 < 0) = false := decide_eq_false c2
    clear c2
    by_cases c3 : a0 > 128
    · rw [if_pos c3] at H
      have c3b0 : decide (128 < a0) = true := decide_eq_true c3
      clear c3
      obtain rfl := Option.some.inj H
      go_enter Try.func28, Try.ntmps28
      go_wp2
      go_ret
      exact ⟨by first | rfl | (simp; done) | (simp [*]; done), by repeat (first | exact Drawn0.refl _ | apply Drawn0.step)⟩
    · rw [if_neg c3] at H
      have c3b0 : decide (128 < a0) = false := decide_eq_false c3
      clear c3
      obtain rfl := Option.some.inj H
      go_enter Try.func28, Try.ntmps28
      go_wp2
      go_ret
      exact ⟨by first | rfl | (simp; done) | (simp [*]; done), by repeat (first | exact Drawn0.refl _ | apply Drawn0.step)⟩

/-! ### wide_within: function 36 -/
def wide_within.f (a0 : Int) : Option (Int) := some (mn (mx a0 0) 128)
set_option maxHeartbeats 8000000 in
set_option maxRecDepth 100000 in
theorem wide_within.calls (a0 : Int) (r : Int) (w : World) (h : wide_within.f a0 = some r) :
    Calls Try.prog 36 #[.int .i64 a0] w fun e w' => e = .returned (.int .i64 r) ∧ Below w.heap.size w w' := by
  have HB := Aside0.mk (Below.refl w.heap.size w)
  have H : (some (mn (mx a0 0) 128)) = some r := h
  clear h
  obtain ⟨ji2, hji2⟩ : ∃ j_ : Int, (mx a0 0) = j_ := ⟨_, rfl⟩
  replace H : (some (mn (ji2) 128)) = some r := by first | (rw [hji2] at H; exact H) | (simp only [hji2] at H ⊢; exact H)
  (try (have hji2l : 0 ≤ ji2 := by (rw [← hji2]; unfold mx; (repeat' split) <;> omega)))
  (try (have hji2m : 0 ≤ ji2 := by omega))
  have hji2_ : (if a0 < 0 then 0 else a0) = ji2 := hji2
  obtain ⟨ji3, hji3⟩ : ∃ j_ : Int, (mn (ji2) 128) = j_ := ⟨_, rfl⟩
  replace H : (some ji3) = some r := by first | (rw [hji3] at H; exact H) | (simp only [hji3] at H ⊢; exact H)
  have hji3_ : (if 128 < (ji2) then 128 else (ji2)) = ji3 := hji3
  obtain rfl := Option.some.inj H
  go_enter Try.func36, Try.ntmps36
  go_wp2
  go_ret
  exact ⟨by first | rfl | (simp [errW_none, errW_some] <;> rfl) | (simp only [← hji2, ← hji3]; first | rfl | (simp [errW_none, errW_some] <;> rfl)) | (simp [*, errW_none, errW_some] <;> rfl), by repeat (first | (with_reducible first | exact HB.out | apply below_alloc | apply pw_below_drewN | apply below_drew1) | exact HB.out)⟩

/-! ### wide_Shl: function 29 -/
def wide_Shl.f (a0 : Int) (a1 : Int) (a2 : Int) : Option (Int × Int) := (wide_within.f a2).bind fun t102 => (if t102 ≥ 64 then (if 0 ≤ (wrap64 (t102 - 64)) then (some (shl .u64 a1 (wrap64 (t102 - 64)), 0)) else (none)) else (if 0 ≤ t102 then (if 0 ≤ (wrap64 (64 - t102)) then (some (Go.bits .or .u64 (shl .u64 a0 t102) (shr .u64 a1 (wrap64 (64 - t102))), shl .u64 a1 t102)) else (none)) else (none)))
set_option maxHeartbeats 8000000 in
set_option maxRecDepth 100000 in
theorem wide_Shl.calls (a0 : Int) (a1 : Int) (a2 : Int) (r1 : Int) (r2 : Int) (w : World) (h : wide_Shl.f a0 a1 a2 = some (r1, r2)) :
    Calls Try.prog 29 #[.int .u64 a0, .int .u64 a1, .int .i64 a2] w fun e w' => e = .returned (.tuple #[.int .u64 r1, .int .u64 r2]) ∧ Below w.heap.size w w' := by
  have HB := Aside0.mk (Below.refl w.heap.size w)
  have H : ((wide_within.f a2).bind fun t102 => (if t102 ≥ 64 then (if 0 ≤ (wrap64 (t102 - 64)) then (some (shl .u64 a1 (wrap64 (t102 - 64)), 0)) else (none)) else (if 0 ≤ t102 then (if 0 ≤ (wrap64 (64 - t102)) then (some (Go.bits .or .u64 (shl .u64 a0 t102) (shr .u64 a1 (wrap64 (64 - t102))), shl .u64 a1 t102)) else (none)) else (none)))) = some (r1, r2) := h
  clear h
  replace H := Option.bind_eq_some_iff.mp H
  obtain ⟨t102, A40, H⟩ := H
  replace H : (if t102 ≥ 64 then (if 0 ≤ (wrap64 (t102 - 64)) then (some (shl .u64 a1 (wrap64 (t102 - 64)), 0)) else (none)) else (if 0 ≤ t102 then (if 0 ≤ (wrap64 (64 - t102)) then (some (Go.bits .or .u64 (shl .u64 a0 t102) (shr .u64 a1 (wrap64 (64 - t102))), shl .u64 a1 t102)) else (none)) else (none))) = some (r1, r2) := H
  have A4 := Aside0.mk A40
  clear A40
  by_cases c5 : t102 ≥ 64
  · rw [if_pos c5] at H
    have c5b0 : decide (64 ≤ t102) = true := decide_eq_true c5
    clear c5
    obtain ⟨ji6, hji6⟩ : ∃ j_ : Int, (wrap64 (t102 - 64)) = j_ := ⟨_, rfl⟩
    replace H : (if 0 ≤ (ji6) then (some (shl .u64 a1 (ji6), 0)) else (none)) = some (r1, r2) := by first | (rw [hji6] at H; exact H) | (simp only [hji6] at H ⊢; exact H)
    (try rw [hji6] at A4)
    have hji6w : (IntKind.i64.wrap (t102 - 64)) = ji6 := (i64_w _).trans hji6
    by_cases c7 : 0 ≤ (ji6)
    · rw [if_pos c7] at H
      have c7b0 := eq_true c7
      have c7b1 : decide (0 ≤ (ji6)) = true := decide_eq_true c7
      clear c7
      obtain ⟨ji8, hji8⟩ : ∃ j_ : Int, (shl .u64 a1 (ji6)) = j_ := ⟨_, rfl⟩
      replace H : (some (ji8, 0)) = some (r1, r2) := by first | (rw [hji8] at H; exact H) | (simp only [hji8] at H ⊢; exact H)
      (try rw [hji8] at A4)
      have hji8_ : (IntKind.u64.wrap (a1 * 2 ^ min (ji6).toNat 64)) = ji8 := hji8
      have hji8z : (ji6) ≤ 64 → (IntKind.u64.wrap (a1 * 2 ^ (ji6).toNat)) = ji8 := shl_small hji8
      simp only [Option.some.injEq, Prod.mk.injEq] at H
      obtain ⟨rfl, rfl⟩ := H
      go_enter Try.func29, Try.ntmps29
      go_wp2_with (first | (go_at_call 36; (with_reducible refine (wide_within.calls a2 t102 _ A4.out).mono ?_); rintro e w9 ⟨rfl, hb⟩; have n0_ := Aside0.mk (below_step (by repeat (first | (with_reducible first | exact HB.out | apply below_alloc | apply pw_below_drewN | apply below_drew1) | exact HB.out)) hb); clear HB; have HB := n0_; clear n0_; (try clear hb); (try clear hb2); (try clear hk); (try clear hi)))
      repeat (go_quiet (first | (go_at_call 36; (with_reducible refine (wide_within.calls a2 t102 _ A4.out).mono ?_); rintro e w9 ⟨rfl, hb⟩; have n0_ := Aside0.mk (below_step (by repeat (first | (with_reducible first | exact HB.out | apply below_alloc | apply pw_below_drewN | apply below_drew1) | exact HB.out)) hb); clear HB; have HB := n0_; clear n0_; (try clear hb); (try clear hb2); (try clear hk); (try clear hi))); try go_wp2_with (first | (go_at_call 36; (with_reducible refine (wide_within.calls a2 t102 _ A4.out).mono ?_); rintro e w9 ⟨rfl, hb⟩; have n0_ := Aside0.mk (below_step (by repeat (first | (with_reducible first | exact HB.out | apply below_alloc | apply pw_below_drewN | apply below_drew1) | exact HB.out)) hb); clear HB; have HB := n0_; clear n0_; (try clear hb); (try clear hb2); (try clear hk); (try clear hi))))
      go_ret2
      exact ⟨by first | rfl | (simp [errW_none, errW_some] <;> rfl) | (simp only [← hji6, ← hji8]; first | rfl | (simp [errW_none, errW_some] <;> rfl)) | (simp [*, errW_none, errW_some] <;> rfl), by repeat (first | (with_reducible first | exact HB.out | apply below_alloc | apply pw_below_drewN | apply below_drew1) | exact HB.out)⟩
    · rw [if_neg c7] at H
      exact absurd H (by simp)
  · rw [if_neg c5] at H
    have c5b0 : decide (64 ≤ t102) = false := decide_eq_false c5
    clear c5
    by_cases c10 : 0 ≤ t102
    · rw [if_pos c10] at H
      have c10b0 := eq_true c10
      have c10b1 : decide (0 ≤ t102) = true := decide_eq_true c10
      clear c10
      obtain ⟨ji11, hji11⟩ : ∃ j_ : Int, (shl .u64 a0 t102) = j_ := ⟨_, rfl⟩
      replace H : (if 0 ≤ (wrap64 (64 - t102)) then (some (Go.bits .or .u64 (ji11) (shr .u64 a1 (wrap64 (64 - t102))), shl .u64 a1 t102)) else (none)) = some (r1, r2) := by first | (rw [hji11] at H; exact H) | (simp only [hji11] at H ⊢; exact H)
      (try rw [hji11] at A4)
      have hji11_ : (IntKind.u64.wrap (a0 * 2 ^ min t102.toNat 64)) = ji11 := hji11
      have hji11z : t102 ≤ 64 → (IntKind.u64.wrap (a0 * 2 ^ t102.toNat)) = ji11 := shl_small hji11
      obtain ⟨ji12, hji12⟩ : ∃ j_ : Int, (wrap64 (64 - t102)) = j_ := ⟨_, rfl⟩
      replace H : (if 0 ≤ (ji12) then (some (Go.bits .or .u64 (ji11) (shr .u64 a1 (ji12)), shl .u64 a1 t102)) else (none)) = some (r1, r2) := by first | (rw [hji12] at H; exact H) | (simp only [hji12] at H ⊢; exact H)
      (try rw [hji12] at A4)
      have hji12w : (IntKind.i64.wrap (64 - t102)) = ji12 := (i64_w _).trans hji12
      by_cases c13 : 0 ≤ (ji12)
      · rw [if_pos c13] at H
        have c13b0 := eq_true c13
        have c13b1 : decide (0 ≤ (ji12)) = true := decide_eq_true c13
        clear c13
        obtain ⟨ji14, hji14⟩ : ∃ j_ : Int, (shr .u64 a1 (ji12)) = j_ := ⟨_, rfl⟩
        replace H : (some (Go.bits .or .u64 (ji11) (ji14), shl .u64 a1 t102)) = some (r1, r2) := by first | (rw [hji14] at H; exact H) | (simp only [hji14] at H ⊢; exact H)
        (try rw [hji14] at A4)
        have hji14_ : (a1 / 2 ^ min (ji12).toNat 64) = ji14 := hji14
        have hji14z : (ji12) ≤ 64 → (a1 / 2 ^ (ji12).toNat) = ji14 := shr_small hji14
        have c15b0 := eq_true (of_decide_eq_true (by first | (with_reducible assumption) | assumption) : 0 ≤ t102)
        obtain ⟨ji16, hji16⟩ : ∃ j_ : Int, (shl .u64 a1 t102) = j_ := ⟨_, rfl⟩
        replace H : (some (Go.bits .or .u64 (ji11) (ji14), ji16)) = some (r1, r2) := by first | (rw [hji16] at H; exact H) | (simp only [hji16] at H ⊢; exact H)
        (try rw [hji16] at A4)
        have hji16_ : (IntKind.u64.wrap (a1 * 2 ^ min t102.toNat 64)) = ji16 := hji16
        have hji16z : t102 ≤ 64 → (IntKind.u64.wrap (a1 * 2 ^ t102.toNat)) = ji16 := shl_small hji16
        simp only [Option.some.injEq, Prod.mk.injEq] at H
        obtain ⟨rfl, rfl⟩ := H
        go_enter Try.func29, Try.ntmps29
        go_wp2_with (first | (go_at_call 36; (with_reducible refine (wide_within.calls a2 t102 _ A4.out).mono ?_); rintro e w17 ⟨rfl, hb⟩; have n0_ := Aside0.mk (below_step (by repeat (first | (with_reducible first | exact HB.out | apply below_alloc | apply pw_below_drewN | apply below_drew1) | exact HB.out)) hb); clear HB; have HB := n0_; clear n0_; (try clear hb); (try clear hb2); (try clear hk); (try clear hi)))
        repeat (go_quiet (first | (go_at_call 36; (with_reducible refine (wide_within.calls a2 t102 _ A4.out).mono ?_); rintro e w17 ⟨rfl, hb⟩; have n0_ := Aside0.mk (below_step (by repeat (first | (with_reducible first | exact HB.out | apply below_alloc | apply pw_below_drewN | apply below_drew1) | exact HB.out)) hb); clear HB; have HB := n0_; clear n0_; (try clear hb); (try clear hb2); (try clear hk); (try clear hi))); try go_wp2_with (first | (go_at_call 36; (with_reducible refine (wide_within.calls a2 t102 _ A4.out).mono ?_); rintro e w17 ⟨rfl, hb⟩; have n0_ := Aside0.mk (below_step (by repeat (first | (with_reducible first | exact HB.out | apply below_alloc | apply pw_below_drewN | apply below_drew1) | exact HB.out)) hb); clear HB; have HB := n0_; clear n0_; (try clear hb); (try clear hb2); (try clear hk); (try clear hi))))
        go_ret2
        exact ⟨by first | rfl | (simp [errW_none, errW_some] <;> rfl) | (simp only [← hji11, ← hji12, ← hji14, ← hji16]; first | rfl | (simp [errW_none, errW_some] <;> rfl)) | (simp [*, errW_none, errW_some] <;> rfl), by repeat (first | (with_reducible first | exact HB.out | apply below_alloc | apply pw_below_drewN | apply below_drew1) | exact HB.out)⟩
      · rw [if_neg c13] at H
        exact absurd H (by simp)
    · rw [if_neg c10] at H
      exact absurd H (by simp)

/-! ### wide_Shr: function 30 -/
def wide_Shr.f (a0 : Int) (a1 : Int) (a2 : Int) : Option (Int × Int × Bool) := (wide_within.f a2).bind fun t103 => (if t103 ≥ 64 then (if a1 = 0 then (if 0 ≤ (wrap64 (128 - t103)) then (if 0 ≤ (wrap64 (t103 - 64)) then (some (0, shr .u64 a0 (wrap64 (t103 - 64)), ((shl .u64 a0 (wrap64 (128 - t103))) != 0))) else (none)) else (none)) else (if 0 ≤ (wrap64 (t103 - 64)) then (some (0, shr .u64 a0 (wrap64 (t103 - 64)), true)) else (none))) else (if 0 ≤ t103 then (if 0 ≤ (wrap64 (64 - t103)) then (some (shr .u64 a0 t103, Go.bits .or .u64 (shr .u64 a1 t103) (shl .u64 a0 (wrap64 (64 - t103))), ((shl .u64 a1 (wrap64 (64 - t103))) != 0))) else (none)) else (none)))
set_option maxHeartbeats 8000000 in
set_option maxRecDepth 100000 in
theorem wide_Shr.calls (a0 : Int) (a1 : Int) (a2 : Int) (r1 : Int) (r2 : Int) (r3 : Bool) (w : World) (h : wide_Shr.f a0 a1 a2 = some (r1, r2, r3)) :
    Calls Try.prog 30 #[.int .u64 a0, .int .u64 a1, .int .i64 a2] w fun e w' => e = .returned (.tuple #[.int .u64 r1, .int .u64 r2, .bool r3]) ∧ Below w.heap.size w w' := by
  have HB := Aside0.mk (Below.refl w.heap.size w)
  have H : ((wide_within.f a2).bind fun t103 => (if t103 ≥ 64 then (if a1 = 0 then (if 0 ≤ (wrap64 (128 - t103)) then (if 0 ≤ (wrap64 (t103 - 64)) then (some (0, shr .u64 a0 (wrap64 (t103 - 64)), ((shl .u64 a0 (wrap64 (128 - t103))) != 0))) else (none)) else (none)) else (if 0 ≤ (wrap64 (t103 - 64)) then (some (0, shr .u64 a0 (wrap64 (t103 - 64)), true)) else (none))) else (if 0 ≤ t103 then (if 0 ≤ (wrap64 (64 - t103)) then (some (shr .u64 a0 t103, Go.bits .or .u64 (shr .u64 a1 t103) (shl .u64 a0 (wrap64 (64 - t103))), ((shl .u64 a1 (wrap64 (64 - t103))) != 0))) else (none)) else (none)))) = some (r1, r2, r3) := h
  clear h
  replace H := Option.bind_eq_some_iff.mp H
  obtain ⟨t103, A40, H⟩ := H
  replace H : (if t103 ≥ 64 then (if a1 = 0 then (if 0 ≤ (wrap64 (128 - t103)) then (if 0 ≤ (wrap64 (t103 - 64)) then (some (0, shr .u64 a0 (wrap64 (t103 - 64)), ((shl .u64 a0 (wrap64 (128 - t103))) != 0))) else (none)) else (none)) else (if 0 ≤ (wrap64 (t103 - 64)) then (some (0, shr .u64 a0 (wrap64 (t103 - 64)), true)) else (none))) else (if 0 ≤ t103 then (if 0 ≤ (wrap64 (64 - t103)) then (some (shr .u64 a0 t103, Go.bits .or .u64 (shr .u64 a1 t103) (shl .u64 a0 (wrap64 (64 - t103))), ((shl .u64 a1 (wrap64 (64 - t103))) != 0))) else (none)) else (none))) = some (r1, r2, r3) := H
  have A4 := Aside0.mk A40
  clear A40
  by_cases c5 : t103 ≥ 64
  · rw [if_pos c5] at H
    have c5b0 : decide (64 ≤ t103) = true := decide_eq_true c5
    clear c5
    by_cases c6 : a1 = 0
    · rw [if_pos c6] at H
      have c6b0 : (a1 == 0) = true := beq_iff_eq.mpr c6
      have c6b1 : (a1 != 0) = false := bne_eq_false_iff_eq.mpr c6
      clear c6
      obtain ⟨ji7, hji7⟩ : ∃ j_ : Int, (wrap64 (128 - t103)) = j_ := ⟨_, rfl⟩
      replace H : (if 0 ≤ (ji7) then (if 0 ≤ (wrap64 (t103 - 64)) then (some (0, shr .u64 a0 (wrap64 (t103 - 64)), ((shl .u64 a0 (ji7)) != 0))) else (none)) else (none)) = some (r1, r2, r3) := by first | (rw [hji7] at H; exact H) | (simp only [hji7] at H ⊢; exact H)
      (try rw [hji7] at A4)
      have hji7w : (IntKind.i64.wrap (128 - t103)) = ji7 := (i64_w _).trans hji7
      by_cases c8 : 0 ≤ (ji7)
      · rw [if_pos c8] at H
        have c8b0 := eq_true c8
        have c8b1 : decide (0 ≤ (ji7)) = true := decide_eq_true c8
        clear c8
        obtain ⟨ji9, hji9⟩ : ∃ j_ : Int, (shl .u64 a0 (ji7)) = j_ := ⟨_, rfl⟩
        replace H : (if 0 ≤ (wrap64 (t103 - 64)) then (some (0, shr .u64 a0 (wrap64 (t103 - 64)), ((ji9) != 0))) else (none)) = some (r1, r2, r3) := by first | (rw [hji9] at H; exact H) | (simp only [hji9] at H ⊢; exact H)
        (try rw [hji9] at A4)
        have hji9_ : (IntKind.u64.wrap (a0 * 2 ^ min (ji7).toNat 64)) = ji9 := hji9
        have hji9z : (ji7) ≤ 64 → (IntKind.u64.wrap (a0 * 2 ^ (ji7).toNat)) = ji9 := shl_small hji9
        obtain ⟨ji10, hji10⟩ : ∃ j_ : Int, (wrap64 (t103 - 64)) = j_ := ⟨_, rfl⟩
        replace H : (if 0 ≤ (ji10) then (some (0, shr .u64 a0 (ji10), ((ji9) != 0))) else (none)) = some (r1, r2, r3) := by first | (rw [hji10] at H; exact H) | (simp only [hji10] at H ⊢; exact H)
        (try rw [hji10] at A4)
        have hji10w : (IntKind.i64.wrap (t103 - 64)) = ji10 := (i64_w _).trans hji10
        by_cases c11 : 0 ≤ (ji10)
        · rw [if_pos c11] at H
          have c11b0 := eq_true c11
          have c11b1 : decide (0 ≤ (ji10)) = true := decide_eq_true c11
          clear c11
          obtain ⟨ji12, hji12⟩ : ∃ j_ : Int, (shr .u64 a0 (ji10)) = j_ := ⟨_, rfl⟩
          replace H : (some (0, ji12, ((ji9) != 0))) = some (r1, r2, r3) := by first | (rw [hji12] at H; exact H) | (simp only [hji12] at H ⊢; exact H)
          (try rw [hji12] at A4)
          have hji12_ : (a0 / 2 ^ min (ji10).toNat 64) = ji12 := hji12
          have hji12z : (ji10) ≤ 64 → (a0 / 2 ^ (ji10).toNat) = ji12 := shr_small hji12
          simp only [Option.some.injEq, Prod.mk.injEq] at H
          obtain ⟨rfl, rfl, rfl⟩ := H
          go_enter Try.func30, Try.ntmps30
          go_wp2_with (first | (go_at_call 36; (with_reducible refine (wide_within.calls a2 t103 _ A4.out).mono ?_); rintro e w13 ⟨rfl, hb⟩; have n0_ := Aside0.mk (below_step (by repeat (first | (with_reducible first | exact HB.out | apply below_alloc | apply pw_below_drewN | apply below_drew1) | exact HB.out)) hb); clear HB; have HB := n0_; clear n0_; (try clear hb); (try clear hb2); (try clear hk); (try clear hi)))
          repeat (go_quiet (first | (go_at_call 36; (with_reducible refine (wide_within.calls a2 t103 _ A4.out).mono ?_); rintro e w13 ⟨rfl, hb⟩; have n0_ := Aside0.mk (below_step (by repeat (first | (with_reducible first | exact HB.out | apply below_alloc | apply pw_below_drewN | apply below_drew1) | exact HB.out)) hb); clear HB; have HB := n0_; clear n0_; (try clear hb); (try clear hb2); (try clear hk); (try clear hi))); try go_wp2_with (first | (go_at_call 36; (with_reducible refine (wide_within.calls a2 t103 _ A4.out).mono ?_); rintro e w13 ⟨rfl, hb⟩; have n0_ := Aside0.mk (below_step (by repeat (first | (with_reducible first | exact HB.out | apply below_alloc | apply pw_below_drewN | apply below_drew1) | exact HB.out)) hb); clear HB; have HB := n0_; clear n0_; (try clear hb); (try clear hb2); (try clear hk); (try clear hi))))
          go_ret3
          exact ⟨by first | rfl | (simp [errW_none, errW_some] <;> rfl) | (simp only [← hji7, ← hji9, ← hji10, ← hji12]; first | rfl | (simp [errW_none, errW_some] <;> rfl)) | (simp [*, errW_none, errW_some] <;> rfl), by repeat (first | (with_reducible first | exact HB.out | apply below_alloc | apply pw_below_drewN | apply below_drew1) | exact HB.out)⟩
        · rw [if_neg c11] at H
          exact absurd H (by simp)
      · rw [if_neg c8] at H
        exact absurd H (by simp)
    · rw [if_neg c6] at H
      have c6b0 : (a1 == 0) = false := beq_eq_false_iff_ne.mpr c6
      have c6b1 : (a1 != 0) = true := bne_iff_ne.mpr c6
      obtain ⟨ji14, hji14⟩ : ∃ j_ : Int, (wrap64 (t103 - 64)) = j_ := ⟨_, rfl⟩
      replace H : (if 0 ≤ (ji14) then (some (0, shr .u64 a0 (ji14), true)) else (none)) = some (r1, r2, r3) := by first | (rw [hji14] at H; exact H) | (simp only [hji14] at H ⊢; exact H)
      (try rw [hji14] at A4)
      have hji14w : (IntKind.i64.wrap (t103 - 64)) = ji14 := (i64_w _).trans hji14
      by_cases c15 : 0 ≤ (ji14)
      · rw [if_pos c15] at H
        have c15b0 := eq_true c15
        have c15b1 : decide (0 ≤ (ji14)) = true := decide_eq_true c15
        clear c15
        obtain ⟨ji16, hji16⟩ : ∃ j_ : Int, (shr .u64 a0 (ji14)) = j_ := ⟨_, rfl⟩
        replace H : (some (0, ji16, true)) = some (r1, r2, r3) := by first | (rw [hji16] at H; exact H) | (simp only [hji16] at H ⊢; exact H)
        (try rw [hji16] at A4)
        have hji16_ : (a0 / 2 ^ min (ji14).toNat 64) = ji16 := hji16
        have hji16z : (ji14) ≤ 64 → (a0 / 2 ^ (ji14).toNat) = ji16 := shr_small hji16
        simp only [Option.some.injEq, Prod.mk.injEq] at H
        obtain ⟨rfl, rfl, rfl⟩ := H
        go_enter Try.func30, Try.ntmps30
        go_wp2_with (first | (go_at_call 36; (with_reducible refine (wide_within.calls a2 t103 _ A4.out).mono ?_); rintro e w17 ⟨rfl, hb⟩; have n0_ := Aside0.mk (below_step (by repeat (first | (with_reducible first | exact HB.out | apply below_alloc | apply pw_below_drewN | apply below_drew1) | exact HB.out)) hb); clear HB; have HB := n0_; clear n0_; (try clear hb); (try clear hb2); (try clear hk); (try clear hi)))
        repeat (go_quiet (first | (go_at_call 36; (with_reducible refine (wide_within.calls a2 t103 _ A4.out).mono ?_); rintro e w17 ⟨rfl, hb⟩; have n0_ := Aside0.mk (below_step (by repeat (first | (with_reducible first | exact HB.out | apply below_alloc | apply pw_below_drewN | apply below_drew1) | exact HB.out)) hb); clear HB; have HB := n0_; clear n0_; (try clear hb); (try clear hb2); (try clear hk); (try clear hi))); try go_wp2_with (first | (go_at_call 36; (with_reducible refine (wide_within.calls a2 t103 _ A4.out).mono ?_); rintro e w17 ⟨rfl, hb⟩; have n0_ := Aside0.mk (below_step (by repeat (first | (with_reducible first | exact HB.out | apply below_alloc | apply pw_below_drewN | apply below_drew1) | exact HB.out)) hb); clear HB; have HB := n0_; clear n0_; (try clear hb); (try clear hb2); (try clear hk); (try clear hi))))
        go_ret3
        exact ⟨by first | rfl | (simp [errW_none, errW_some] <;> rfl) | (simp only [← hji14, ← hji16]; first | rfl | (simp [errW_none, errW_some] <;> rfl)) | (simp [*, errW_none, errW_some] <;> rfl), by repeat (first | (with_reducible first | exact HB.out | apply below_alloc | apply pw_below_drewN | apply below_drew1) | exact HB.out)⟩
      · rw [if_neg c15] at H
        exact absurd H (by simp)
  · rw [if_neg c5] at H
    have c5b0 : decide (64 ≤ t103) = false := decide_eq_false c5
    clear c5
    by_cases c18 : 0 ≤ t103
    · rw [if_pos c18] at H
      have c18b0 := eq_true c18
      have c18b1 : decide (0 ≤ t103) = true := decide_eq_true c18
      clear c18
      obtain ⟨ji19, hji19⟩ : ∃ j_ : Int, (shr .u64 a0 t103) = j_ := ⟨_, rfl⟩
      replace H : (if 0 ≤ (wrap64 (64 - t103)) then (some (ji19, Go.bits .or .u64 (shr .u64 a1 t103) (shl .u64 a0 (wrap64 (64 - t103))), ((shl .u64 a1 (wrap64 (64 - t103))) != 0))) else (none)) = some (r1, r2, r3) := by first | (rw [hji19] at H; exact H) | (simp only [hji19] at H ⊢; exact H)
      (try rw [hji19] at A4)
      have hji19_ : (a0 / 2 ^ min t103.toNat 64) = ji19 := hji19
      have hji19z : t103 ≤ 64 → (a0 / 2 ^ t103.toNat) = ji19 := shr_small hji19
      have c20b0 := eq_true (of_decide_eq_true (by first | (with_reducible assumption) | assumption) : 0 ≤ t103)
      obtain ⟨ji21, hji21⟩ : ∃ j_ : Int, (shr .u64 a1 t103) = j_ := ⟨_, rfl⟩
      replace H : (if 0 ≤ (wrap64 (64 - t103)) then (some (ji19, Go.bits .or .u64 (ji21) (shl .u64 a0 (wrap64 (64 - t103))), ((shl .u64 a1 (wrap64 (64 - t103))) != 0))) else (none)) = some (r1, r2, r3) := by first | (rw [hji21] at H; exact H) | (simp only [hji21] at H ⊢; exact H)
      (try rw [hji21] at A4)
      have hji21_ : (a1 / 2 ^ min t103.toNat 64) = ji21 := hji21
      have hji21z : t103 ≤ 64 → (a1 / 2 ^ t103.toNat) = ji21 := shr_small hji21
      obtain ⟨ji22, hji22⟩ : ∃ j_ : Int, (wrap64 (64 - t103)) = j_ := ⟨_, rfl⟩
      replace H : (if 0 ≤ (ji22) then (some (ji19, Go.bits .or .u64 (ji21) (shl .u64 a0 (ji22)), ((shl .u64 a1 (ji22)) != 0))) else (none)) = some (r1, r2, r3) := by first | (rw [hji22] at H; exact H) | (simp only [hji22] at H ⊢; exact H)
      (try rw [hji22] at A4)
      have hji22w : (IntKind.i64.wrap (64 - t103)) = ji22 := (i64_w _).trans hji22
      by_cases c23 : 0 ≤ (ji22)
      · rw [if_pos c23] at H
        have c23b0 := eq_true c23
        have c23b1 : decide (0 ≤ (ji22)) = true := decide_eq_true c23
        clear c23
        obtain ⟨ji24, hji24⟩ : ∃ j_ : Int, (shl .u64 a0 (ji22)) = j_ := ⟨_, rfl⟩
        replace H : (some (ji19, Go.bits .or .u64 (ji21) (ji24), ((shl .u64 a1 (ji22)) != 0))) = some (r1, r2, r3) := by first | (rw [hji24] at H; exact H) | (simp only [hji24] at H ⊢; exact H)
        (try rw [hji24] at A4)
        have hji24_ : (IntKind.u64.wrap (a0 * 2 ^ min (ji22).toNat 64)) = ji24 := hji24
        have hji24z : (ji22) ≤ 64 → (IntKind.u64.wrap (a0 * 2 ^ (ji22).toNat)) = ji24 := shl_small hji24
        have c25b0 := eq_true (of_decide_eq_true (by first | (with_reducible assumption) | assumption) : 0 ≤ (ji22))
        obtain ⟨ji26, hji26⟩ : ∃ j_ : Int, (shl .u64 a1 (ji22)) = j_ := ⟨_, rfl⟩
        replace H : (some (ji19, Go.bits .or .u64 (ji21) (ji24), ((ji26) != 0))) = some (r1, r2, r3) := by first | (rw [hji26] at H; exact H) | (simp only [hji26] at H ⊢; exact H)
        (try rw [hji26] at A4)
        have hji26_ : (IntKind.u64.wrap (a1 * 2 ^ min (ji22).toNat 64)) = ji26 := hji26
        have hji26z : (ji22) ≤ 64 → (IntKind.u64.wrap (a1 * 2 ^ (ji22).toNat)) = ji26 := shl_small hji26
        simp only [Option.some.injEq, Prod.mk.injEq] at H
        obtain ⟨rfl, rfl, rfl⟩ := H
        go_enter Try.func30, Try.ntmps30
        go_wp2_with (first | (go_at_call 36; (with_reducible refine (wide_within.calls a2 t103 _ A4.out).mono ?_); rintro e w27 ⟨rfl, hb⟩; have n0_ := Aside0.mk (below_step (by repeat (first | (with_reducible first | exact HB.out | apply below_alloc | apply pw_below_drewN | apply below_drew1) | exact HB.out)) hb); clear HB; have HB := n0_; clear n0_; (try clear hb); (try clear hb2); (try clear hk); (try clear hi)))
        repeat (go_quiet (first | (go_at_call 36; (with_reducible refine (wide_within.calls a2 t103 _ A4.out).mono ?_); rintro e w27 ⟨rfl, hb⟩; have n0_ := Aside0.mk (below_step (by repeat (first | (with_reducible first | exact HB.out | apply below_alloc | apply pw_below_drewN | apply below_drew1) | exact HB.out)) hb); clear HB; have HB := n0_; clear n0_; (try clear hb); (try clear hb2); (try clear hk); (try clear hi))); try go_wp2_with (first | (go_at_call 36; (with_reducible refine (wide_within.calls a2 t103 _ A4.out).mono ?_); rintro e w27 ⟨rfl, hb⟩; have n0_ := Aside0.mk (below_step (by repeat (first | (with_reducible first | exact HB.out | apply below_alloc | apply pw_below_drewN | apply below_drew1) | exact HB.out)) hb); clear HB; have HB := n0_; clear n0_; (try clear hb); (try clear hb2); (try clear hk); (try clear hi))))
        go_ret3
        exact ⟨by first | rfl | (simp [errW_none, errW_some] <;> rfl) | (simp only [← hji19, ← hji21, ← hji22, ← hji24, ← hji26]; first | rfl | (simp [errW_none, errW_some] <;> rfl)) | (simp [*, errW_none, errW_some] <;> rfl), by repeat (first | (with_reducible first | exact HB.out | apply below_alloc | apply pw_below_drewN | apply below_drew1) | exact HB.out)⟩
      · rw [if_neg c23] at H
        exact absurd H (by simp)
    · rw [if_neg c18] at H
      exact absurd H (by simp)

end Go.Proofs.Ythinhdnbhkppgaa.PWideShifts
