/- Go functions as Lean functions and their contracts: each call comes to what the Lean function says; or a law's row out of them. No conditions. Written by this session's wip/hprint.py (the kit's print with contracts and repairs of my own). -/
import Derived.Test.YthinhdnbhkppgaaPWideLensx0
namespace Go.Proofs.Ythinhdnbhkppgaa.PWideLens
open Go.RowKit Go.Proofs.YthinhdnbhkppgaaW.PrintWords Go.Proofs.YthinhdnbhkppgaaW.PrintLast Go.Proofs.YthinhdnbhkppgaaW.PrintMore
attribute [local go_sem] max2_int min2_int max_two min_two max_three min_three max_four min_four   -- for this text's walks alone
set_option linter.unusedVariables false
set_option linter.unusedSimpArgs false

/-! ### wide_Len: function 20 -/
def wide_Len.l0 : Nat → Int → Int → Int → Option (Int)
  | 0, _, _, _ => none
  | k + 1, x0, x3, x4 => if x4 > 0 then (if 0 ≤ x4 then (if (shr .u64 x0 x4) = 0 then (wide_Len.l0 k x0 x3 (x4 / 2)) else (wide_Len.l0 k (shr .u64 x0 x4) (wrap64 (x3 + x4)) (x4 / 2))) else (none)) else (some (wrap64 (x3 + (wrap64 (x0)))))
def wide_Len.f (k : Nat) (a0 : Int) : Option (Int) := wide_Len.l0 k a0 0 32
theorem wide_Len.mono_l : ∀ k, (∀ y0 y1 y2, LeO (wide_Len.l0 k y0 y1 y2) (wide_Len.l0 (k + 1) y0 y1 y2))
  | 0 => fun _ _ _ r h => by simp [wide_Len.l0] at h
  | k + 1 => by
    have ih0 := wide_Len.mono_l k
    · intro y0 y1 y2
      unfold wide_Len.l0
      repeat' first
      | (with_reducible exact ih0 _ _ _)
      | (with_reducible exact LeO.refl _)
      | (with_reducible exact LeO.none _)
      | (with_reducible refine LeO.ite ?_ ?_)
      | (with_reducible refine LeO.bind ?_ (fun _ => ?_))
      | exact ih0 _ _ _
      | exact LeO.none _
      | refine LeO.ite ?_ ?_
      | refine LeO.bind ?_ (fun _ => ?_)
theorem wide_Len.mono : ∀ a0 k, LeO (wide_Len.f k a0) (wide_Len.f (k + 1) a0) := by
  intro a0 k
  have ih0 := wide_Len.mono_l k
  unfold wide_Len.f
  repeat' first
      | (with_reducible exact ih0 _ _ _)
      | (with_reducible exact LeO.refl _)
      | (with_reducible exact LeO.none _)
      | (with_reducible refine LeO.ite ?_ ?_)
      | (with_reducible refine LeO.bind ?_ (fun _ => ?_))
      | exact ih0 _ _ _
      | exact LeO.none _
      | refine LeO.ite ?_ ?_
      | refine LeO.bind ?_ (fun _ => ?_)
set_option maxHeartbeats 8000000 in
set_option maxRecDepth 100000 in
theorem wide_Len.calls (k : Nat) (a0 : Int) (r : Int) (w : World) (h : wide_Len.f k a0 = some r) :
    Calls Try.prog 20 #[.int .u64 a0] w fun e w' => e = .returned (.int .i64 r) ∧ Drawn0 w w' := by
  have H : (wide_Len.l0 k a0 0 32) = some r := h
  clear h
  have H' := Aside0.mk H
  clear H
  go_enter Try.func20, Try.ntmps20
  go_wp2
  go_loopg [0, 3, 4] k (fun kq v0 v3 v4 w' => ∃ (x0_1 : Int) (x3_1 : Int) (x4_1 : Int), v0 = .int .u64 x0_1 ∧ v3 = .int .i64 x3_1 ∧ v4 = .int .i64 x4_1 ∧ Aside0 (wide_Len.l0 kq x0_1 x3_1 x4_1 = some r) ∧ Aside0 (kq ≤ k) ∧ Drawn0 w w')
  case atStart => exact ⟨(a0), (0), (32), (by first | rfl | (simp; done) | (simp [*]; done)), (by first | rfl | (simp; done) | (simp [*]; done)), (by first | rfl | (simp; done) | (simp [*]; done)), H', ⟨Nat.le_refl _⟩, by repeat (first | exact Drawn0.refl _ | apply Drawn0.step)⟩
  case round =>
    clear H'
    obtain ⟨x0_1, x3_1, x4_1, rfl, rfl, rfl, HA, HK1, ⟨m1, rfl⟩⟩ := hrel
    cases gk with
    | zero => exact absurd HA.out (by simp [wide_Len.l0])
    | succ k1 =>
      have H := HA.out
      clear HA
      simp only [wide_Len.l0] at H
      by_cases c2 : x4_1 > 0
      · rw [if_pos c2] at H
        have c2b0 : decide (0 < x4_1) = true := decide_eq_true c2
        clear c2
        by_cases c3 : 0 ≤ x4_1
        · rw [if_pos c3] at H
          have c3b0 := eq_true c3
          have c3b1 : decide (0 ≤ x4_1) = true := decide_eq_true c3
          clear c3
          obtain ⟨ji4, hji4⟩ : ∃ j_ : Int, (shr .u64 x0_1 x4_1) = j_ := ⟨_, rfl⟩
          replace H : (if (ji4) = 0 then (wide_Len.l0 k1 x0_1 x3_1 (x4_1 / 2)) else (wide_Len.l0 k1 ji4 (wrap64 (x3_1 + x4_1)) (x4_1 / 2))) = some r := by first | (rw [hji4] at H; exact H) | (simp only [hji4] at H ⊢; exact H)
          have hji4_ : (x0_1 / 2 ^ min x4_1.toNat 64) = ji4 := hji4
          have hji4z : x4_1 ≤ 64 → (x0_1 / 2 ^ x4_1.toNat) = ji4 := shr_small hji4
          by_cases c5 : (ji4) = 0
          · rw [if_pos c5] at H
            have c5b0 : ((ji4) == 0) = true := beq_iff_eq.mpr c5
            have c5b1 : ((ji4) != 0) = false := bne_eq_false_iff_eq.mpr c5
            clear c5
            have H' := Aside0.mk H
            clear H
            go_wp2
            go_roundg k1
            case measure => have := HK1.out; omega
            case rel => exact ⟨(x0_1), (x3_1), (x4_1 / 2), (by first | rfl | (simp; done) | (simp [*]; done)), (by first | rfl | (simp; done) | (simp [*]; done)), (by first | rfl | (simp; done) | (simp [*]; done)), H', ⟨by have := HK1.out; omega⟩, by repeat (first | exact Drawn0.refl _ | apply Drawn0.step)⟩
          · rw [if_neg c5] at H
            have c5b0 : ((ji4) == 0) = false := beq_eq_false_iff_ne.mpr c5
            have c5b1 : ((ji4) != 0) = true := bne_iff_ne.mpr c5
            have c6b0 := eq_true (of_decide_eq_true (by first | (with_reducible assumption) | assumption) : 0 ≤ x4_1)
            have H' := Aside0.mk H
            clear H
            go_wp2
            go_roundg k1
            case measure => have := HK1.out; omega
            case rel => exact ⟨(ji4), (wrap64 (x3_1 + x4_1)), (x4_1 / 2), (by first | rfl | (simp; done) | (simp only [← hji4] <;> (first | rfl | simp)) | (simp [*]; done)), (by first | rfl | (simp; done) | (simp [*]; done)), (by first | rfl | (simp; done) | (simp [*]; done)), H', ⟨by have := HK1.out; omega⟩, by repeat (first | exact Drawn0.refl _ | apply Drawn0.step)⟩
        · rw [if_neg c3] at H
          exact absurd H (by simp)
      · rw [if_neg c2] at H
        have c2b0 : decide (0 < x4_1) = false := decide_eq_false c2
        clear c2
        obtain rfl := Option.some.inj H
        go_wp2
        go_ret
        exact ⟨by first | rfl | (simp; done) | (simp [*]; done), by repeat (first | exact Drawn0.refl _ | apply Drawn0.step)⟩

/-! ### wide_Zeros: function 21 -/
def wide_Zeros.f (k : Nat) (a0 : Int) : Option (Int) := if a0 = 0 then (some 64) else ((wide_Len.f k (Go.bits .and .u64 a0 (IntKind.u64.wrap (-a0)))).bind fun t101 => (some (wrap64 (t101 - 1))))
theorem wide_Zeros.mono : ∀ a0 k, LeO (wide_Zeros.f k a0) (wide_Zeros.f (k + 1) a0) := by
  intro a0 k
  unfold wide_Zeros.f
  repeat' first
      | (with_reducible exact wide_Len.mono _ _)
      | (with_reducible exact LeO.refl _)
      | (with_reducible exact LeO.none _)
      | (with_reducible refine LeO.ite ?_ ?_)
      | (with_reducible refine LeO.bind ?_ (fun _ => ?_))
      | exact wide_Len.mono _ _
      | exact LeO.none _
      | refine LeO.ite ?_ ?_
      | refine LeO.bind ?_ (fun _ => ?_)
set_option maxHeartbeats 8000000 in
set_option maxRecDepth 100000 in
theorem wide_Zeros.calls (k : Nat) (a0 : Int) (r : Int) (w : World) (h : wide_Zeros.f k a0 = some r) :
    Calls Try.prog 21 #[.int .u64 a0] w fun e w' => e = .returned (.int .i64 r) ∧ Drawn0 w w' := by
  have H : (if a0 = 0 then (some 64) else ((wide_Len.f k (Go.bits .and .u64 a0 (IntKind.u64.wrap (-a0)))).bind fun t101 => (some (wrap64 (t101 - 1))))) = some r := h
  clear h
  by_cases c2 : a0 = 0
  · rw [if_pos c2] at H
    have c2b0 : (a0 == 0) = true := beq_iff_eq.mpr c2
    have c2b1 : (a0 != 0) = false := bne_eq_false_iff_eq.mpr c2
    clear c2
    obtain rfl := Option.some.inj H
    go_enter Try.func21, Try.ntmps21
    go_wp2
    go_ret
    exact ⟨by first | rfl | (simp; done) | (simp [*]; done), by repeat (first | exact Drawn0.refl _ | apply Drawn0.step)⟩
  · rw [if_neg c2] at H
    have c2b0 : (a0 == 0) = false := beq_eq_false_iff_ne.mpr c2
    have c2b1 : (a0 != 0) = true := bne_iff_ne.mpr c2
    replace H := Option.bind_eq_some_iff.mp H
    obtain ⟨t101, A30, H⟩ := H
    replace H : (some (wrap64 (t101 - 1))) = some r := H
    have A3 := Aside0.mk A30
    clear A30
    obtain rfl := Option.some.inj H
    go_enter Try.func21, Try.ntmps21
    go_wp2_with (first | ((with_reducible refine gate_callee (f := 20) rfl ?_); refine goesL_ (some 9) rfl rfl Try.func20 (by kernel_rfl) rfl #[.int .u64 (Go.bits .and .u64 a0 (IntKind.u64.wrap (-a0)))] rfl (by (try simp only [List.map_toArray, List.map_cons, List.map_nil]); first | done | rfl | (simp only [List.length_drop, List.length_take]; rfl)) ?_; (with_reducible refine (wide_Len.calls k (Go.bits .and .u64 a0 (IntKind.u64.wrap (-a0))) t101 _ A3.out).mono ?_); rintro e w' ⟨rfl, ⟨nd, rfl⟩⟩; refine ⟨_, rfl, ?_⟩))
    go_ret
    exact ⟨by first | rfl | (simp; done) | (simp [*]; done), by repeat (first | exact Drawn0.refl _ | apply Drawn0.step)⟩

/-! ### plumblaw01_WideLens: function 7 -/
def plumblaw01_WideLens.j0 : Nat → Int → Int → Int → Bool → Option (Bool)
  | 0, _, _, _, _ => none
  | k + 1, x0, x3, x4, x22 => if x22 = true then (some false) else (if x0 = 0 then (if x3 = 0 then (some (x4 == 64)) else (some false)) else (if x3 = 0 then (some false) else (if x4 ≥ x3 then (some false) else (if 0 ≤ (wrap64 (x3 - 1)) then (if (shr .u64 x0 (wrap64 (x3 - 1))) = 1 then (if 0 ≤ x4 then (if (Go.bits .and .u64 (shr .u64 x0 x4) 1) = 1 then (some ((shl .u64 (shr .u64 x0 x4) x4) == x0)) else (some false)) else (none)) else (some false)) else (none)))))
def plumblaw01_WideLens.f (k : Nat) (a0 : Int) : Option (Bool) := (wide_Len.f k a0).bind fun t102 => ((wide_Zeros.f k a0).bind fun t103 => (if t102 < 0 then (plumblaw01_WideLens.j0 k a0 t102 t103 true) else (if t102 > 64 then (plumblaw01_WideLens.j0 k a0 t102 t103 true) else (if t103 < 0 then (plumblaw01_WideLens.j0 k a0 t102 t103 true) else (plumblaw01_WideLens.j0 k a0 t102 t103 (decide (t103 > 64)))))))
theorem plumblaw01_WideLens.mono_l : ∀ k, (∀ y0 y1 y2 y3, LeO (plumblaw01_WideLens.j0 k y0 y1 y2 y3) (plumblaw01_WideLens.j0 (k + 1) y0 y1 y2 y3))
  | 0 => fun _ _ _ _ r h => by simp [plumblaw01_WideLens.j0] at h
  | k + 1 => by
    have ih0 := plumblaw01_WideLens.mono_l k
    · intro y0 y1 y2 y3
      unfold plumblaw01_WideLens.j0
      repeat' first
      | (with_reducible exact ih0 _ _ _ _)
      | (with_reducible exact wide_Len.mono _ _)
      | (with_reducible exact wide_Zeros.mono _ _)
      | (with_reducible exact LeO.refl _)
      | (with_reducible exact LeO.none _)
      | (with_reducible refine LeO.ite ?_ ?_)
      | (with_reducible refine LeO.bind ?_ (fun _ => ?_))
      | exact ih0 _ _ _ _
      | exact wide_Len.mono _ _
      | exact wide_Zeros.mono _ _
      | exact LeO.none _
      | refine LeO.ite ?_ ?_
      | refine LeO.bind ?_ (fun _ => ?_)
theorem plumblaw01_WideLens.mono : ∀ a0 k, LeO (plumblaw01_WideLens.f k a0) (plumblaw01_WideLens.f (k + 1) a0) := by
  intro a0 k
  have ih0 := plumblaw01_WideLens.mono_l k
  unfold plumblaw01_WideLens.f
  repeat' first
      | (with_reducible exact ih0 _ _ _ _)
      | (with_reducible exact wide_Len.mono _ _)
      | (with_reducible exact wide_Zeros.mono _ _)
      | (with_reducible exact LeO.refl _)
      | (with_reducible exact LeO.none _)
      | (with_reducible refine LeO.ite ?_ ?_)
      | (with_reducible refine LeO.bind ?_ (fun _ => ?_))
      | exact ih0 _ _ _ _
      | exact wide_Len.mono _ _
      | exact wide_Zeros.mono _ _
      | exact LeO.none _
      | refine LeO.ite ?_ ?_
      | refine LeO.bind ?_ (fun _ => ?_)
set_option maxHeartbeats 8000000 in
set_option maxRecDepth 100000 in
theorem plumblaw01_WideLens.calls (k : Nat) (a0 : Int) (r : Bool) (w : World) (h : plumblaw01_WideLens.f k a0 = some r) :
    Calls Try.prog 7 #[.int .u64 a0] w fun e w' => e = .returned (.bool r) ∧ Drawn0 w w' := by
  have H : ((wide_Len.f k a0).bind fun t102 => ((wide_Zeros.f k a0).bind fun t103 => (if t102 < 0 then (plumblaw01_WideLens.j0 k a0 t102 t103 true) else (if t102 > 64 then (plumblaw01_WideLens.j0 k a0 t102 t103 true) else (if t103 < 0 then (plumblaw01_WideLens.j0 k a0 t102 t103 true) else (plumblaw01_WideLens.j0 k a0 t102 t103 (decide (t103 > 64)))))))) = some r := h
  clear h
  replace H := Option.bind_eq_some_iff.mp H
  obtain ⟨t102, A20, H⟩ := H
  replace H : ((wide_Zeros.f k a0).bind fun t103 => (if t102 < 0 then (plumblaw01_WideLens.j0 k a0 t102 t103 true) else (if t102 > 64 then (plumblaw01_WideLens.j0 k a0 t102 t103 true) else (if t103 < 0 then (plumblaw01_WideLens.j0 k a0 t102 t103 true) else (plumblaw01_WideLens.j0 k a0 t102 t103 (decide (t103 > 64))))))) = some r := H
  have A2 := Aside0.mk A20
  clear A20
  replace H := Option.bind_eq_some_iff.mp H
  obtain ⟨t103, A30, H⟩ := H
  replace H : (if t102 < 0 then (plumblaw01_WideLens.j0 k a0 t102 t103 true) else (if t102 > 64 then (plumblaw01_WideLens.j0 k a0 t102 t103 true) else (if t103 < 0 then (plumblaw01_WideLens.j0 k a0 t102 t103 true) else (plumblaw01_WideLens.j0 k a0 t102 t103 (decide (t103 > 64)))))) = some r := H
  have A3 := Aside0.mk A30
  clear A30
  have HC4 := Aside0.mk H
  clear H
  go_enter Try.func7, Try.ntmps7
  go_upto_region 3 with (first | ((with_reducible refine gate_callee (f := 20) rfl ?_); refine goesL_ (some 6) rfl rfl Try.func20 (by kernel_rfl) rfl #[.int .u64 a0] rfl (by (try simp only [List.map_toArray, List.map_cons, List.map_nil]); first | done | rfl | (simp only [List.length_drop, List.length_take]; rfl)) ?_; (with_reducible refine (wide_Len.calls k a0 t102 _ A2.out).mono ?_); rintro e w' ⟨rfl, ⟨nd, rfl⟩⟩; refine ⟨_, rfl, ?_⟩) | ((with_reducible refine gate_callee (f := 21) rfl ?_); refine goesL_ (some 8) rfl rfl Try.func21 (by kernel_rfl) rfl #[.int .u64 a0] rfl (by (try simp only [List.map_toArray, List.map_cons, List.map_nil]); first | done | rfl | (simp only [List.length_drop, List.length_take]; rfl)) ?_; (with_reducible refine (wide_Zeros.calls k a0 t103 _ A3.out).mono ?_); rintro e w' ⟨rfl, ⟨nd, rfl⟩⟩; refine ⟨_, rfl, ?_⟩))
  (try simp only [Act.put, List.setIfInBounds_toArray, List.set_cons_zero, List.set_cons_succ])
  go_cut [22] (fun v22 wc => ∃ (kq : Nat) (x22_3 : Bool), v22 = .bool x22_3 ∧ Aside0 (plumblaw01_WideLens.j0 kq a0 t102 t103 x22_3 = some r) ∧ Aside0 (kq ≤ k) ∧ Drawn0 w wc)
  case first =>
    have H := HC4.out
    clear HC4
    by_cases c5 : t102 < 0
    · rw [if_pos c5] at H
      have c5b0 : decide (t102 < 0) = true := decide_eq_true c5
      clear c5
      (first | rw [c5b0] | (simp only [i64_w, i32_w]; rw [c5b0]) | skip)
      have H' := Aside0.mk H
      clear H
      go_wp2
      go_meet
      case rel => exact ⟨_, (true), (by first | rfl | (simp; done) | (simp [*]; done)), H', ⟨by first | omega | exact Nat.le_refl _⟩, by repeat (first | exact Drawn0.refl _ | apply Drawn0.step)⟩
    · rw [if_neg c5] at H
      have c5b0 : decide (t102 < 0) = false := decide_eq_false c5
      clear c5
      (first | rw [c5b0] | (simp only [i64_w, i32_w]; rw [c5b0]) | skip)
      by_cases c6 : t102 > 64
      · rw [if_pos c6] at H
        have c6b0 : decide (64 < t102) = true := decide_eq_true c6
        clear c6
        have H' := Aside0.mk H
        clear H
        go_wp2
        go_meet
        case rel => exact ⟨_, (true), (by first | rfl | (simp; done) | (simp [*]; done)), H', ⟨by first | omega | exact Nat.le_refl _⟩, by repeat (first | exact Drawn0.refl _ | apply Drawn0.step)⟩
      · rw [if_neg c6] at H
        have c6b0 : decide (64 < t102) = false := decide_eq_false c6
        clear c6
        by_cases c7 : t103 < 0
        · rw [if_pos c7] at H
          have c7b0 : decide (t103 < 0) = true := decide_eq_true c7
          clear c7
          have H' := Aside0.mk H
          clear H
          go_wp2
          go_meet
          case rel => exact ⟨_, (true), (by first | rfl | (simp; done) | (simp [*]; done)), H', ⟨by first | omega | exact Nat.le_refl _⟩, by repeat (first | exact Drawn0.refl _ | apply Drawn0.step)⟩
        · rw [if_neg c7] at H
          have c7b0 : decide (t103 < 0) = false := decide_eq_false c7
          clear c7
          have H' := Aside0.mk H
          clear H
          go_wp2
          go_meet
          case rel => exact ⟨_, (decide (t103 > 64)), (by first | rfl | (simp; done) | (simp [*]; done)), H', ⟨by first | omega | exact Nat.le_refl _⟩, by repeat (first | exact Drawn0.refl _ | apply Drawn0.step)⟩
  case rest =>
    clear HC4
    try clear c2
    try clear p2
    try clear c5
    try clear c5b0
    try clear c6
    try clear c6b0
    try clear c7
    try clear c7b0
    obtain ⟨kq, x22_3, rfl, HA, HJ3, ⟨mc3, rfl⟩⟩ := hcut
    cases kq with
    | zero => exact absurd HA.out (by simp [plumblaw01_WideLens.j0])
    | succ kj3 =>
      have H := HA.out
      clear HA
      simp only [plumblaw01_WideLens.j0] at H
      by_cases c8 : x22_3 = true
      · subst c8
        have H1 : (some false) = some r := by rw [if_pos rfl] at H; exact H
        clear H
        have H := H1
        clear H1
        obtain rfl := Option.some.inj H
        go_wp2
        go_ret
        exact ⟨by first | rfl | (simp; done) | (simp [*]; done), by repeat (first | exact Drawn0.refl _ | apply Drawn0.step)⟩
      · replace c8 := Bool.eq_false_iff.mpr c8
        subst c8
        have H1 : (if a0 = 0 then (if t102 = 0 then (some (t103 == 64)) else (some false)) else (if t102 = 0 then (some false) else (if t103 ≥ t102 then (some false) else (if 0 ≤ (wrap64 (t102 - 1)) then (if (shr .u64 a0 (wrap64 (t102 - 1))) = 1 then (if 0 ≤ t103 then (if (Go.bits .and .u64 (shr .u64 a0 t103) 1) = 1 then (some ((shl .u64 (shr .u64 a0 t103) t103) == a0)) else (some false)) else (none)) else (some false)) else (none))))) = some r := by rw [if_neg (show ¬ (false = true) by decide)] at H; exact H
        clear H
        have H := H1
        clear H1
        by_cases c9 : a0 = 0
        · rw [if_pos c9] at H
          have c9b0 : (a0 == 0) = true := beq_iff_eq.mpr c9
          have c9b1 : (a0 != 0) = false := bne_eq_false_iff_eq.mpr c9
          clear c9
          by_cases c10 : t102 = 0
          · rw [if_pos c10] at H
            have c10b0 : (t102 == 0) = true := beq_iff_eq.mpr c10
            have c10b1 : (t102 != 0) = false := bne_eq_false_iff_eq.mpr c10
            clear c10
            obtain rfl := Option.some.inj H
            go_wp2
            go_ret
            exact ⟨by first | rfl | (simp; done) | (simp [*]; done), by repeat (first | exact Drawn0.refl _ | apply Drawn0.step)⟩
          · rw [if_neg c10] at H
            have c10b0 : (t102 == 0) = false := beq_eq_false_iff_ne.mpr c10
            have c10b1 : (t102 != 0) = true := bne_iff_ne.mpr c10
            obtain rfl := Option.some.inj H
            go_wp2
            go_ret
            exact ⟨by first | rfl | (simp; done) | (simp [*]; done), by repeat (first | exact Drawn0.refl _ | apply Drawn0.step)⟩
        · rw [if_neg c9] at H
          have c9b0 : (a0 == 0) = false := beq_eq_false_iff_ne.mpr c9
          have c9b1 : (a0 != 0) = true := bne_iff_ne.mpr c9
          by_cases c11 : t102 = 0
          · rw [if_pos c11] at H
            have c11b0 : (t102 == 0) = true := beq_iff_eq.mpr c11
            have c11b1 : (t102 != 0) = false := bne_eq_false_iff_eq.mpr c11
            clear c11
            obtain rfl := Option.some.inj H
            go_wp2
            go_ret
            exact ⟨by first | rfl | (simp; done) | (simp [*]; done), by repeat (first | exact Drawn0.refl _ | apply Drawn0.step)⟩
          · rw [if_neg c11] at H
            have c11b0 : (t102 == 0) = false := beq_eq_false_iff_ne.mpr c11
            have c11b1 : (t102 != 0) = true := bne_iff_ne.mpr c11
            by_cases c12 : t103 ≥ t102
            · rw [if_pos c12] at H
              have c12b0 : decide (t102 ≤ t103) = true := decide_eq_true c12
              clear c12
              obtain rfl := Option.some.inj H
              go_wp2
              go_ret
              exact ⟨by first | rfl | (simp; done) | (simp [*]; done), by repeat (first | exact Drawn0.refl _ | apply Drawn0.step)⟩
            · rw [if_neg c12] at H
              have c12b0 : decide (t102 ≤ t103) = false := decide_eq_false c12
              clear c12
              obtain ⟨ji13, hji13⟩ : ∃ j_ : Int, (wrap64 (t102 - 1)) = j_ := ⟨_, rfl⟩
              replace H : (if 0 ≤ (ji13) then (if (shr .u64 a0 (ji13)) = 1 then (if 0 ≤ t103 then (if (Go.bits .and .u64 (shr .u64 a0 t103) 1) = 1 then (some ((shl .u64 (shr .u64 a0 t103) t103) == a0)) else (some false)) else (none)) else (some false)) else (none)) = some r := by first | (rw [hji13] at H; exact H) | (simp only [hji13] at H ⊢; exact H)
              have hji13w : (IntKind.i64.wrap (t102 - 1)) = ji13 := (i64_w _).trans hji13
              by_cases c14 : 0 ≤ (ji13)
              · rw [if_pos c14] at H
                have c14b0 := eq_true c14
                have c14b1 : decide (0 ≤ (ji13)) = true := decide_eq_true c14
                clear c14
                obtain ⟨ji15, hji15⟩ : ∃ j_ : Int, (shr .u64 a0 (ji13)) = j_ := ⟨_, rfl⟩
                replace H : (if (ji15) = 1 then (if 0 ≤ t103 then (if (Go.bits .and .u64 (shr .u64 a0 t103) 1) = 1 then (some ((shl .u64 (shr .u64 a0 t103) t103) == a0)) else (some false)) else (none)) else (some false)) = some r := by first | (rw [hji15] at H; exact H) | (simp only [hji15] at H ⊢; exact H)
                have hji15_ : (a0 / 2 ^ min (ji13).toNat 64) = ji15 := hji15
                have hji15z : (ji13) ≤ 64 → (a0 / 2 ^ (ji13).toNat) = ji15 := shr_small hji15
                by_cases c16 : (ji15) = 1
                · rw [if_pos c16] at H
                  have c16b0 : ((ji15) == 1) = true := beq_iff_eq.mpr c16
                  have c16b1 : ((ji15) != 1) = false := bne_eq_false_iff_eq.mpr c16
                  clear c16
                  by_cases c17 : 0 ≤ t103
                  · rw [if_pos c17] at H
                    have c17b0 := eq_true c17
                    have c17b1 : decide (0 ≤ t103) = true := decide_eq_true c17
                    clear c17
                    obtain ⟨ji18, hji18⟩ : ∃ j_ : Int, (shr .u64 a0 t103) = j_ := ⟨_, rfl⟩
                    replace H : (if (Go.bits .and .u64 (ji18) 1) = 1 then (some ((shl .u64 (ji18) t103) == a0)) else (some false)) = some r := by first | (rw [hji18] at H; exact H) | (simp only [hji18] at H ⊢; exact H)
                    have hji18_ : (a0 / 2 ^ min t103.toNat 64) = ji18 := hji18
                    have hji18z : t103 ≤ 64 → (a0 / 2 ^ t103.toNat) = ji18 := shr_small hji18
                    by_cases c19 : (Go.bits .and .u64 (ji18) 1) = 1
                    · rw [if_pos c19] at H
                      have c19b0 : ((Go.bits .and .u64 (ji18) 1) == 1) = true := beq_iff_eq.mpr c19
                      have c19b1 : ((Go.bits .and .u64 (ji18) 1) != 1) = false := bne_eq_false_iff_eq.mpr c19
                      clear c19
                      have c20b0 := eq_true (of_decide_eq_true (by first | (with_reducible assumption) | assumption) : 0 ≤ t103)
                      have c21b0 := eq_true (of_decide_eq_true (by first | (with_reducible assumption) | assumption) : 0 ≤ t103)
                      obtain ⟨ji22, hji22⟩ : ∃ j_ : Int, (shl .u64 (ji18) t103) = j_ := ⟨_, rfl⟩
                      replace H : (some ((ji22) == a0)) = some r := by first | (rw [hji22] at H; exact H) | (simp only [hji22] at H ⊢; exact H)
                      have hji22_ : (IntKind.u64.wrap ((ji18) * 2 ^ min t103.toNat 64)) = ji22 := hji22
                      have hji22z : t103 ≤ 64 → (IntKind.u64.wrap ((ji18) * 2 ^ t103.toNat)) = ji22 := shl_small hji22
                      obtain rfl := Option.some.inj H
                      go_wp2
                      go_ret
                      exact ⟨by first | rfl | (simp; done) | (simp only [← hji13, ← hji15, ← hji18, ← hji22] <;> (first | rfl | simp)) | (simp [*]; done), by repeat (first | exact Drawn0.refl _ | apply Drawn0.step)⟩
                    · rw [if_neg c19] at H
                      have c19b0 : ((Go.bits .and .u64 (ji18) 1) == 1) = false := beq_eq_false_iff_ne.mpr c19
                      have c19b1 : ((Go.bits .and .u64 (ji18) 1) != 1) = true := bne_iff_ne.mpr c19
                      obtain rfl := Option.some.inj H
                      go_wp2
                      go_ret
                      exact ⟨by first | rfl | (simp; done) | (simp only [← hji13, ← hji15, ← hji18] <;> (first | rfl | simp)) | (simp [*]; done), by repeat (first | exact Drawn0.refl _ | apply Drawn0.step)⟩
                  · rw [if_neg c17] at H
                    exact absurd H (by simp)
                · rw [if_neg c16] at H
                  have c16b0 : ((ji15) == 1) = false := beq_eq_false_iff_ne.mpr c16
                  have c16b1 : ((ji15) != 1) = true := bne_iff_ne.mpr c16
                  obtain rfl := Option.some.inj H
                  go_wp2
                  go_ret
                  exact ⟨by first | rfl | (simp; done) | (simp only [← hji13, ← hji15] <;> (first | rfl | simp)) | (simp [*]; done), by repeat (first | exact Drawn0.refl _ | apply Drawn0.step)⟩
              · rw [if_neg c14] at H
                exact absurd H (by simp)

/-- THE ONE PURE STATEMENT of plumblaw01_WideLens: yours. -/
def plumblaw01_WideLens.Pure : Prop := ∀ (a0 : Int), (Lit.int .u64 a0).wf = true → ∃ k, plumblaw01_WideLens.f k a0 = some true
theorem plumblaw01_WideLens.walk (P : plumblaw01_WideLens.Pure) (a0 : Int) (w : World) (w0 : (Lit.int .u64 a0).wf = true) :
    Calls Try.prog 7 #[.int .u64 a0] w fun e w' => e = .returned (.bool true) ∧ Below w.heap.size w w' := by
  obtain ⟨k, h⟩ := P a0 w0
  refine (plumblaw01_WideLens.calls k a0 true w h).mono ?_
  rintro e w' ⟨rfl, hd⟩
  exact ⟨rfl, hd.below⟩

end Go.Proofs.Ythinhdnbhkppgaa.PWideLens
