/- Go functions as Lean functions and their contracts: each call comes to what the Lean function says; or a law's row out of them. No conditions. Written by this session's wip/hprint.py (the kit's print with contracts and repairs of my own). -/
import Derived.Test.YtpnndhbeahajkaaPF64Exactx0
namespace Go.Proofs.Ytpnndhbeahajkaa.PF64Exact
open Go.RowKit Go.Proofs.YtpnndhbeahajkaaW.PrintWords Go.Proofs.YtpnndhbeahajkaaW.PrintLast Go.Proofs.YtpnndhbeahajkaaW.PrintMore
attribute [local go_sem] max2_int min2_int max_two min_two max_three min_three max_four min_four   -- for this text's walks alone
set_option linter.unusedVariables false
set_option linter.unusedSimpArgs false

/-! ### wide_Len: function 36 -/
def wide_Len.l0 : Nat → Int → Int → Int → Option (Int)
  | 0, _, _, _ => none
  | k + 1, x0, x3, x4 => if x4 > 0 then (if 0 ≤ x4 then (if (shr .u64 x0 x4) = 0 then (wide_Len.l0 k x0 x3 (x4 / 2)) else (wide_Len.l0 k (shr .u64 x0 x4) (wrap64 (x3 + x4)) (x4 / 2))) else (none)) else (some (wrap64 (x3 + (wrap64 (x0)))))
def wide_Len.f (k : Nat) (a0 : Int) : Option (Int) := wide_Len.l0 k a0 0 32
theorem wide_Len.mono_l : ∀ k, (∀ y0 y1 y2, LeO (wide_Len.l0 k y0 y1 y2) (wide_Len.l0 (k + 1) y0 y1 y2))
  | 0 => fun _ _ _ r h => by simp [wide_Len.l0] at h
  | k + 1 => by
    have ih0 := wide_Len.mono_l k
    · intro y0 y1 y2
      unfold wide_Len.l0
      repeat' first
      | (with_reducible exact ih0 _ _ _)
      | (with_reducible exact LeO.refl _)
      | (with_reducible exact LeO.none _)
      | (with_reducible refine LeO.ite ?_ ?_)
      | (with_reducible refine LeO.bind ?_ (fun _ => ?_))
      | exact ih0 _ _ _
      | exact LeO.none _
      | refine LeO.ite ?_ ?_
      | refine LeO.bind ?_ (fun _ => ?_)
theorem wide_Len.mono : ∀ a0 k, LeO (wide_Len.f k a0) (wide_Len.f (k + 1) a0) := by
  intro a0 k
  have ih0 := wide_Len.mono_l k
  unfold wide_Len.f
  repeat' first
      | (with_reducible exact ih0 _ _ _)
      | (with_reducible exact LeO.refl _)
      | (with_reducible exact LeO.none _)
      | (with_reducible refine LeO.ite ?_ ?_)
      | (with_reducible refine LeO.bind ?_ (fun _ => ?_))
      | exact ih0 _ _ _
      | exact LeO.none _
      | refine LeO.ite ?_ ?_
      | refine LeO.bind ?_ (fun _ => ?_)
set_option maxHeartbeats 8000000 in
set_option maxRecDepth 100000 in
theorem wide_Len.calls (k : Nat) (a0 : Int) (r : Int) (w : World) (h : wide_Len.f k a0 = some r) :
    Calls Try.prog 36 #[.int .u64 a0] w fun e w' => e = .returned (.int .i64 r) ∧ Drawn0 w w' := by
  have H : (wide_Len.l0 k a0 0 32) = some r := h
  clear h
  have H' := Aside0.mk H
  clear H
  go_enter Try.func36, Try.ntmps36
  go_wp2
  go_loopg [0, 3, 4] k (fun kq v0 v3 v4 w' => ∃ (x0_1 : Int) (x3_1 : Int) (x4_1 : Int), v0 = .int .u64 x0_1 ∧ v3 = .int .i64 x3_1 ∧ v4 = .int .i64 x4_1 ∧ Aside0 (wide_Len.l0 kq x0_1 x3_1 x4_1 = some r) ∧ Aside0 (kq ≤ k) ∧ Drawn0 w w')
  case atStart => exact ⟨(a0), (0), (32), (by first | rfl | (simp; done) | (simp [*]; done)), (by first | rfl | (simp; done) | (simp [*]; done)), (by first | rfl | (simp; done) | (simp [*]; done)), H', ⟨Nat.le_refl _⟩, by repeat (first | exact Drawn0.refl _ | apply Drawn0.step)⟩
  case round =>
    clear H'
    obtain ⟨x0_1, x3_1, x4_1, rfl, rfl, rfl, HA, HK1, ⟨m1, rfl⟩⟩ := hrel
    cases gk with
    | zero => exact absurd HA.out (by simp [wide_Len.l0])
    | succ k1 =>
      have H := HA.out
      clear HA
      simp only [wide_Len.l0] at H
      by_cases c2 : x4_1 > 0
      · rw [if_pos c2] at H
        have c2b0 : decide (0 < x4_1) = true := decide_eq_true c2
        clear c2
        by_cases c3 : 0 ≤ x4_1
        · rw [if_pos c3] at H
          have c3b0 := eq_true c3
          have c3b1 : decide (0 ≤ x4_1) = true := decide_eq_true c3
          clear c3
          obtain ⟨ji4, hji4⟩ : ∃ j_ : Int, (shr .u64 x0_1 x4_1) = j_ := ⟨_, rfl⟩
          replace H : (if (ji4) = 0 then (wide_Len.l0 k1 x0_1 x3_1 (x4_1 / 2)) else (wide_Len.l0 k1 ji4 (wrap64 (x3_1 + x4_1)) (x4_1 / 2))) = some r := by first | (rw [hji4] at H; exact H) | (simp only [hji4] at H ⊢; exact H)
          have hji4_ : (x0_1 / 2 ^ min x4_1.toNat 64) = ji4 := hji4
          have hji4z : x4_1 ≤ 64 → (x0_1 / 2 ^ x4_1.toNat) = ji4 := shr_small hji4
          by_cases c5 : (ji4) = 0
          · rw [if_pos c5] at H
            have c5b0 : ((ji4) == 0) = true := beq_iff_eq.mpr c5
            have c5b1 : ((ji4) != 0) = false := bne_eq_false_iff_eq.mpr c5
            clear c5
            have H' := Aside0.mk H
            clear H
            go_wp2
            go_roundg k1
            case measure => have := HK1.out; omega
            case rel => exact ⟨(x0_1), (x3_1), (x4_1 / 2), (by first | rfl | (simp; done) | (simp [*]; done)), (by first | rfl | (simp; done) | (simp [*]; done)), (by first | rfl | (simp; done) | (simp [*]; done)), H', ⟨by have := HK1.out; omega⟩, by repeat (first | exact Drawn0.refl _ | apply Drawn0.step)⟩
          · rw [if_neg c5] at H
            have c5b0 : ((ji4) == 0) = false := beq_eq_false_iff_ne.mpr c5
            have c5b1 : ((ji4) != 0) = true := bne_iff_ne.mpr c5
            have c6b0 := eq_true (of_decide_eq_true (by first | (with_reducible assumption) | assumption) : 0 ≤ x4_1)
            have H' := Aside0.mk H
            clear H
            go_wp2
            go_roundg k1
            case measure => have := HK1.out; omega
            case rel => exact ⟨(ji4), (wrap64 (x3_1 + x4_1)), (x4_1 / 2), (by first | rfl | (simp; done) | (simp only [← hji4] <;> (first | rfl | simp)) | (simp [*]; done)), (by first | rfl | (simp; done) | (simp [*]; done)), (by first | rfl | (simp; done) | (simp [*]; done)), H', ⟨by have := HK1.out; omega⟩, by repeat (first | exact Drawn0.refl _ | apply Drawn0.step)⟩
        · rw [if_neg c3] at H
          exact absurd H (by simp)
      · rw [if_neg c2] at H
        have c2b0 : decide (0 < x4_1) = false := decide_eq_false c2
        clear c2
        obtain rfl := Option.some.inj H
        go_wp2
        go_ret
        exact ⟨by first | rfl | (simp; done) | (simp [*]; done), by repeat (first | exact Drawn0.refl _ | apply Drawn0.step)⟩

/-! ### wide_Zeros: function 35 -/
def wide_Zeros.f (k : Nat) (a0 : Int) : Option (Int) := if a0 = 0 then (some 64) else ((wide_Len.f k (Go.bits .and .u64 a0 (IntKind.u64.wrap (-a0)))).bind fun t101 => (some (wrap64 (t101 - 1))))
theorem wide_Zeros.mono : ∀ a0 k, LeO (wide_Zeros.f k a0) (wide_Zeros.f (k + 1) a0) := by
  intro a0 k
  unfold wide_Zeros.f
  repeat' first
      | (with_reducible exact wide_Len.mono _ _)
      | (with_reducible exact LeO.refl _)
      | (with_reducible exact LeO.none _)
      | (with_reducible refine LeO.ite ?_ ?_)
      | (with_reducible refine LeO.bind ?_ (fun _ => ?_))
      | exact wide_Len.mono _ _
      | exact LeO.none _
      | refine LeO.ite ?_ ?_
      | refine LeO.bind ?_ (fun _ => ?_)
set_option maxHeartbeats 8000000 in
set_option maxRecDepth 100000 in
theorem wide_Zeros.calls (k : Nat) (a0 : Int) (r : Int) (w : World) (h : wide_Zeros.f k a0 = some r) :
    Calls Try.prog 35 #[.int .u64 a0] w fun e w' => e = .returned (.int .i64 r) ∧ Drawn0 w w' := by
  have H : (if a0 = 0 then (some 64) else ((wide_Len.f k (Go.bits .and .u64 a0 (IntKind.u64.wrap (-a0)))).bind fun t101 => (some (wrap64 (t101 - 1))))) = some r := h
  clear h
  by_cases c2 : a0 = 0
  · rw [if_pos c2] at H
    have c2b0 : (a0 == 0) = true := beq_iff_eq.mpr c2
    have c2b1 : (a0 != 0) = false := bne_eq_false_iff_eq.mpr c2
    clear c2
    obtain rfl := Option.some.inj H
    go_enter Try.func35, Try.ntmps35
    go_wp2
    go_ret
    exact ⟨by first | rfl | (simp; done) | (simp [*]; done), by repeat (first | exact Drawn0.refl _ | apply Drawn0.step)⟩
  · rw [if_neg c2] at H
    have c2b0 : (a0 == 0) = false := beq_eq_false_iff_ne.mpr c2
    have c2b1 : (a0 != 0) = true := bne_iff_ne.mpr c2
    replace H := Option.bind_eq_some_iff.mp H
    obtain ⟨t101, A30, H⟩ := H
    replace H : (some (wrap64 (t101 - 1))) = some r := H
    have A3 := Aside0.mk A30
    clear A30
    obtain rfl := Option.some.inj H
    go_enter Try.func35, Try.ntmps35
    go_wp2_with (first | ((with_reducible refine gate_callee (f := 36) rfl ?_); refine goesL_ (some 9) rfl rfl Try.func36 (by kernel_rfl) rfl #[.int .u64 (Go.bits .and .u64 a0 (IntKind.u64.wrap (-a0)))] rfl (by (try simp only [List.map_toArray, List.map_cons, List.map_nil]); first | done | rfl | (simp only [List.length_drop, List.length_take]; rfl)) ?_; (with_reducible refine (wide_Len.calls k (Go.bits .and .u64 a0 (IntKind.u64.wrap (-a0))) t101 _ A3.out).mono ?_); rintro e w' ⟨rfl, ⟨nd, rfl⟩⟩; refine ⟨_, rfl, ?_⟩))
    go_ret
    exact ⟨by first | rfl | (simp; done) | (simp [*]; done), by repeat (first | exact Drawn0.refl _ | apply Drawn0.step)⟩

/-! ### f64_Join: function 11 -/
mutual
def f64_Join.j0 : Nat → Int → Int → Int → Option (Int × Int)
  | 0, _, _, _ => none
  | k + 1, x1, x2, x8 => if x1 = 0 then (some (x8, 0)) else (if x2 < (-1137) then (f64_Join.j1 k x1 x2 x8 true) else (f64_Join.j1 k x1 x2 x8 (decide (x2 > 1023))))
def f64_Join.j1 : Nat → Int → Int → Int → Bool → Option (Int × Int)
  | 0, _, _, _, _ => none
  | k + 1, x1, x2, x8, x21 => if x21 = true then (some (0, 61)) else ((wide_Zeros.f k x1).bind fun t102 => (if 0 ≤ t102 then ((wide_Len.f k (shr .u64 x1 t102)).bind fun t103 => (if t103 > 53 then (f64_Join.j2 k (shr .u64 x1 t102) (wrap64 (x2 + t102)) x8 t103 true) else (if (wrap64 ((wrap64 (x2 + t102)) + t103)) > 1024 then (f64_Join.j2 k (shr .u64 x1 t102) (wrap64 (x2 + t102)) x8 t103 true) else (f64_Join.j2 k (shr .u64 x1 t102) (wrap64 (x2 + t102)) x8 t103 (decide ((wrap64 (x2 + t102)) < (-1074))))))) else (none)))
def f64_Join.j2 : Nat → Int → Int → Int → Int → Bool → Option (Int × Int)
  | 0, _, _, _, _, _ => none
  | k + 1, x1, x2, x8, x10, x43 => if x43 = true then (some (0, 61)) else (if 0 ≤ (mn (wrap64 (53 - x10)) (wrap64 (x2 + 1074))) then (if (shl .u64 x1 (mn (wrap64 (53 - x10)) (wrap64 (x2 + 1074)))) < 4503599627370496 then (some (Go.bits .or .u64 x8 (shl .u64 x1 (mn (wrap64 (53 - x10)) (wrap64 (x2 + 1074)))), 0)) else (some (Go.bits .or .u64 (Go.bits .or .u64 x8 (IntKind.u64.wrap ((IntKind.u64.wrap (wrap64 ((wrap64 (x2 - (mn (wrap64 (53 - x10)) (wrap64 (x2 + 1074))))) + 1075))) * 4503599627370496))) (Go.bits .and .u64 (shl .u64 x1 (mn (wrap64 (53 - x10)) (wrap64 (x2 + 1074)))) 4503599627370495), 0))) else (none))
end
def f64_Join.f (k : Nat) (a0 : Bool) (a1 : Int) (a2 : Int) : Option (Int × Int) := if a0 = true then (f64_Join.j0 k a1 a2 9223372036854775808) else (f64_Join.j0 k a1 a2 0)
theorem f64_Join.mono_l : ∀ k, (∀ y0 y1 y2, LeO (f64_Join.j0 k y0 y1 y2) (f64_Join.j0 (k + 1) y0 y1 y2)) ∧ (∀ y0 y1 y2 y3, LeO (f64_Join.j1 k y0 y1 y2 y3) (f64_Join.j1 (k + 1) y0 y1 y2 y3)) ∧ (∀ y0 y1 y2 y3 y4, LeO (f64_Join.j2 k y0 y1 y2 y3 y4) (f64_Join.j2 (k + 1) y0 y1 y2 y3 y4))
  | 0 => ⟨fun _ _ _ r h => by simp [f64_Join.j0] at h, fun _ _ _ _ r h => by simp [f64_Join.j1] at h, fun _ _ _ _ _ r h => by simp [f64_Join.j2] at h⟩
  | k + 1 => by
    obtain ⟨ih0, ih1, ih2⟩ := f64_Join.mono_l k
    refine ⟨?_, ?_, ?_⟩
    · intro y0 y1 y2
      unfold f64_Join.j0
      repeat' first
      | (with_reducible exact ih0 _ _ _)
      | (with_reducible exact ih1 _ _ _ _)
      | (with_reducible exact ih2 _ _ _ _ _)
      | (with_reducible exact wide_Len.mono _ _)
      | (with_reducible exact wide_Zeros.mono _ _)
      | (with_reducible exact LeO.refl _)
      | (with_reducible exact LeO.none _)
      | (with_reducible refine LeO.ite ?_ ?_)
      | (with_reducible refine LeO.bind ?_ (fun _ => ?_))
      | exact ih0 _ _ _
      | exact ih1 _ _ _ _
      | exact ih2 _ _ _ _ _
      | exact wide_Len.mono _ _
      | exact wide_Zeros.mono _ _
      | exact LeO.none _
      | refine LeO.ite ?_ ?_
      | refine LeO.bind ?_ (fun _ => ?_)
    · intro y0 y1 y2 y3
      unfold f64_Join.j1
      repeat' first
      | (with_reducible exact ih0 _ _ _)
      | (with_reducible exact ih1 _ _ _ _)
      | (with_reducible exact ih2 _ _ _ _ _)
      | (with_reducible exact wide_Len.mono _ _)
      | (with_reducible exact wide_Zeros.mono _ _)
      | (with_reducible exact LeO.refl _)
      | (with_reducible exact LeO.none _)
      | (with_reducible refine LeO.ite ?_ ?_)
      | (with_reducible refine LeO.bind ?_ (fun _ => ?_))
      | exact ih0 _ _ _
      | exact ih1 _ _ _ _
      | exact ih2 _ _ _ _ _
      | exact wide_Len.mono _ _
      | exact wide_Zeros.mono _ _
      | exact LeO.none _
      | refine LeO.ite ?_ ?_
      | refine LeO.bind ?_ (fun _ => ?_)
    · intro y0 y1 y2 y3 y4
      unfold f64_Join.j2
      repeat' first
      | (with_reducible exact ih0 _ _ _)
      | (with_reducible exact ih1 _ _ _ _)
      | (with_reducible exact ih2 _ _ _ _ _)
      | (with_reducible exact wide_Len.mono _ _)
      | (with_reducible exact wide_Zeros.mono _ _)
      | (with_reducible exact LeO.refl _)
      | (with_reducible exact LeO.none _)
      | (with_reducible refine LeO.ite ?_ ?_)
      | (with_reducible refine LeO.bind ?_ (fun _ => ?_))
      | exact ih0 _ _ _
      | exact ih1 _ _ _ _
      | exact ih2 _ _ _ _ _
      | exact wide_Len.mono _ _
      | exact wide_Zeros.mono _ _
      | exact LeO.none _
      | refine LeO.ite ?_ ?_
      | refine LeO.bind ?_ (fun _ => ?_)
theorem f64_Join.mono : ∀ a0 a1 a2 k, LeO (f64_Join.f k a0 a1 a2) (f64_Join.f (k + 1) a0 a1 a2) := by
  intro a0 a1 a2 k
  obtain ⟨ih0, ih1, ih2⟩ := f64_Join.mono_l k
  unfold f64_Join.f
  repeat' first
      | (with_reducible exact ih0 _ _ _)
      | (with_reducible exact ih1 _ _ _ _)
      | (with_reducible exact ih2 _ _ _ _ _)
      | (with_reducible exact wide_Len.mono _ _)
      | (with_reducible exact wide_Zeros.mono _ _)
      | (with_reducible exact LeO.refl _)
      | (with_reducible exact LeO.none _)
      | (with_reducible refine LeO.ite ?_ ?_)
      | (with_reducible refine LeO.bind ?_ (fun _ => ?_))
      | exact ih0 _ _ _
      | exact ih1 _ _ _ _
      | exact ih2 _ _ _ _ _
      | exact wide_Len.mono _ _
      | exact wide_Zeros.mono _ _
      | exact LeO.none _
      | refine LeO.ite ?_ ?_
      | refine LeO.bind ?_ (fun _ => ?_)
set_option maxHeartbeats 8000000 in
set_option maxRecDepth 100000 in
theorem f64_Join.calls (k : Nat) (a0 : Bool) (a1 : Int) (a2 : Int) (r1 : Int) (r2 : Int) (w : World) (h : f64_Join.f k a0 a1 a2 = some (r1, r2)) :
    Calls Try.prog 11 #[.bool a0, .int .u64 a1, .int .i64 a2] w fun e w' => e = .returned (.tuple #[.int .u64 r1, .int .i64 r2]) ∧ Below w.heap.size w w' := by
  have HB := Aside0.mk (Below.refl w.heap.size w)
  have H : (if a0 = true then (f64_Join.j0 k a1 a2 9223372036854775808) else (f64_Join.j0 k a1 a2 0)) = some (r1, r2) := h
  clear h
  have HC4 := Aside0.mk H
  clear H
  go_enter Try.func11, Try.ntmps11
  go_upto_if 12 with (fail)
  go_cut [8] (fun v8 wc => ∃ (kq : Nat) (x8_3 : Int), v8 = .int .u64 x8_3 ∧ Aside0 (f64_Join.j0 kq a1 a2 x8_3 = some (r1, r2)) ∧ Aside0 (kq ≤ k) ∧ Aside0 (Below w.heap.size w wc))
  case first =>
    have H := HC4.out
    clear HC4
    by_cases c5 : a0 = true
    · subst c5
      have H1 : (f64_Join.j0 k a1 a2 9223372036854775808) = some (r1, r2) := by rw [if_pos rfl] at H; exact H
      clear H
      have H := H1
      clear H1
      have H' := Aside0.mk H
      clear H
      go_wp2
      go_meet
      case rel => exact ⟨_, (9223372036854775808), (by first | rfl | (simp; done) | (simp [*]; done)), H', ⟨by first | omega | exact Nat.le_refl _⟩, ⟨by repeat (first | (with_reducible first | exact HB.out | apply below_alloc | apply pw_below_drewN | apply below_drew1) | exact HB.out)⟩⟩
    · replace c5 := Bool.eq_false_iff.mpr c5
      subst c5
      have H1 : (f64_Join.j0 k a1 a2 0) = some (r1, r2) := by rw [if_neg (show ¬ (false = true) by decide)] at H; exact H
      clear H
      have H := H1
      clear H1
      have H' := Aside0.mk H
      clear H
      go_wp2
      go_meet
      case rel => exact ⟨_, (0), (by first | rfl | (simp; done) | (simp [*]; done)), H', ⟨by first | omega | exact Nat.le_refl _⟩, ⟨by repeat (first | (with_reducible first | exact HB.out | apply below_alloc | apply pw_below_drewN | apply below_drew1) | exact HB.out)⟩⟩
  case rest =>
    clear HC4
    try clear c1
    try clear p2
    try clear c5
    obtain ⟨kq, x8_3, rfl, HA, HJ3, HB⟩ := hcut
    cases kq with
    | zero => exact absurd HA.out (by simp [f64_Join.j0])
    | succ kj3 =>
      have H := HA.out
      clear HA
      simp only [f64_Join.j0] at H
      by_cases c6 : a1 = 0
      · rw [if_pos c6] at H
        have c6b0 : (a1 == 0) = true := beq_iff_eq.mpr c6
        have c6b1 : (a1 != 0) = false := bne_eq_false_iff_eq.mpr c6
        clear c6
        simp only [Option.some.injEq, Prod.mk.injEq] at H
        obtain ⟨rfl, rfl⟩ := H
        go_wp2
        go_ret2
        exact ⟨by first | rfl | (simp [errW_none, errW_some] <;> rfl) | (simp [*, errW_none, errW_some] <;> rfl), by repeat (first | (with_reducible first | exact HB.out | apply below_alloc | apply pw_below_drewN | apply below_drew1) | exact HB.out)⟩
      · rw [if_neg c6] at H
        have c6b0 : (a1 == 0) = false := beq_eq_false_iff_ne.mpr c6
        have c6b1 : (a1 != 0) = true := bne_iff_ne.mpr c6
        have HC7 := Aside0.mk H
        clear H
        go_upto_region 6 with (fail)
        go_cut [21] (fun v21 wc => ∃ (kq : Nat) (x21_6 : Bool), v21 = .bool x21_6 ∧ Aside0 (f64_Join.j1 kq a1 a2 x8_3 x21_6 = some (r1, r2)) ∧ Aside0 (kq ≤ kj3) ∧ Aside0 (Below w.heap.size w wc))
        case first =>
          have H := HC7.out
          clear HC7
          by_cases c8 : a2 < (-1137)
          · rw [if_pos c8] at H
            have c8b0 : decide (a2 < (-1137)) = true := decide_eq_true c8
            clear c8
            (first | rw [c8b0] | (simp only [i64_w, i32_w]; rw [c8b0]) | skip)
            have H' := Aside0.mk H
            clear H
            go_wp2
            go_meet
            case rel => exact ⟨_, (true), (by first | rfl | (simp; done) | (simp [*]; done)), H', ⟨by have := HJ3.out; first | omega | exact Nat.le_refl _⟩, ⟨by repeat (first | (with_reducible first | exact HB.out | apply below_alloc | apply pw_below_drewN | apply below_drew1) | exact HB.out)⟩⟩
          · rw [if_neg c8] at H
            have c8b0 : decide (a2 < (-1137)) = false := decide_eq_false c8
            clear c8
            (first | rw [c8b0] | (simp only [i64_w, i32_w]; rw [c8b0]) | skip)
            have H' := Aside0.mk H
            clear H
            go_wp2
            go_meet
            case rel => exact ⟨_, (decide (a2 > 1023)), (by first | rfl | (simp; done) | (simp [*]; done)), H', ⟨by have := HJ3.out; first | omega | exact Nat.le_refl _⟩, ⟨by repeat (first | (with_reducible first | exact HB.out | apply below_alloc | apply pw_below_drewN | apply below_drew1) | exact HB.out)⟩⟩
        case rest =>
          clear HC7
          try clear c1
          try clear p2
          try clear c5
          try clear c6
          try clear c6b0
          try clear c6b1
          try clear c8
          try clear c8b0
          try clear p2
          obtain ⟨kq, x21_6, rfl, HA, HJ6, HB⟩ := hcut
          cases kq with
          | zero => exact absurd HA.out (by simp [f64_Join.j1])
          | succ kj6 =>
            have H := HA.out
            clear HA
            simp only [f64_Join.j1] at H
            by_cases c9 : x21_6 = true
            · subst c9
              have H1 : (some (0, 61)) = some (r1, r2) := by rw [if_pos rfl] at H; exact H
              clear H
              have H := H1
              clear H1
              simp only [Option.some.injEq, Prod.mk.injEq] at H
              obtain ⟨rfl, rfl⟩ := H
              go_wp2
              go_ret2
              exact ⟨by first | rfl | (simp [errW_none, errW_some] <;> rfl) | (simp [*, errW_none, errW_some] <;> rfl), by repeat (first | (with_reducible first | exact HB.out | apply below_alloc | apply pw_below_drewN | apply below_drew1) | exact HB.out)⟩
            · replace c9 := Bool.eq_false_iff.mpr c9
              subst c9
              have H1 : ((wide_Zeros.f kj6 a1).bind fun t102 => (if 0 ≤ t102 then ((wide_Len.f kj6 (shr .u64 a1 t102)).bind fun t103 => (if t103 > 53 then (f64_Join.j2 kj6 (shr .u64 a1 t102) (wrap64 (a2 + t102)) x8_3 t103 true) else (if (wrap64 ((wrap64 (a2 + t102)) + t103)) > 1024 then (f64_Join.j2 kj6 (shr .u64 a1 t102) (wrap64 (a2 + t102)) x8_3 t103 true) else (f64_Join.j2 kj6 (shr .u64 a1 t102) (wrap64 (a2 + t102)) x8_3 t103 (decide ((wrap64 (a2 + t102)) < (-1074))))))) else (none))) = some (r1, r2) := by rw [if_neg (show ¬ (false = true) by decide)] at H; exact H
              clear H
              have H := H1
              clear H1
              replace H := Option.bind_eq_some_iff.mp H
              obtain ⟨t102, A100, H⟩ := H
              replace H : (if 0 ≤ t102 then ((wide_Len.f kj6 (shr .u64 a1 t102)).bind fun t103 => (if t103 > 53 then (f64_Join.j2 kj6 (shr .u64 a1 t102) (wrap64 (a2 + t102)) x8_3 t103 true) else (if (wrap64 ((wrap64 (a2 + t102)) + t103)) > 1024 then (f64_Join.j2 kj6 (shr .u64 a1 t102) (wrap64 (a2 + t102)) x8_3 t103 true) else (f64_Join.j2 kj6 (shr .u64 a1 t102) (wrap64 (a2 + t102)) x8_3 t103 (decide ((wrap64 (a2 + t102)) < (-1074))))))) else (none)) = some (r1, r2) := H
              have A10 := Aside0.mk A100
              clear A100
              by_cases c11 : 0 ≤ t102
              · rw [if_pos c11] at H
                have c11b0 := eq_true c11
                have c11b1 : decide (0 ≤ t102) = true := decide_eq_true c11
                clear c11
                obtain ⟨ji12, hji12⟩ : ∃ j_ : Int, (shr .u64 a1 t102) = j_ := ⟨_, rfl⟩
                replace H : ((wide_Len.f kj6 (ji12)).bind fun t103 => (if t103 > 53 then (f64_Join.j2 kj6 ji12 (wrap64 (a2 + t102)) x8_3 t103 true) else (if (wrap64 ((wrap64 (a2 + t102)) + t103)) > 1024 then (f64_Join.j2 kj6 ji12 (wrap64 (a2 + t102)) x8_3 t103 true) else (f64_Join.j2 kj6 ji12 (wrap64 (a2 + t102)) x8_3 t103 (decide ((wrap64 (a2 + t102)) < (-1074))))))) = some (r1, r2) := by first | (rw [hji12] at H; exact H) | (simp only [hji12] at H ⊢; exact H)
                (try rw [hji12] at A10)
                have hji12_ : (a1 / 2 ^ min t102.toNat 64) = ji12 := hji12
                have hji12z : t102 ≤ 64 → (a1 / 2 ^ t102.toNat) = ji12 := shr_small hji12
                replace H := Option.bind_eq_some_iff.mp H
                obtain ⟨t103, A130, H⟩ := H
                replace H : (if t103 > 53 then (f64_Join.j2 kj6 ji12 (wrap64 (a2 + t102)) x8_3 t103 true) else (if (wrap64 ((wrap64 (a2 + t102)) + t103)) > 1024 then (f64_Join.j2 kj6 ji12 (wrap64 (a2 + t102)) x8_3 t103 true) else (f64_Join.j2 kj6 ji12 (wrap64 (a2 + t102)) x8_3 t103 (decide ((wrap64 (a2 + t102)) < (-1074)))))) = some (r1, r2) := H
                have A13 := Aside0.mk A130
                clear A130
                have HC14 := Aside0.mk H
                clear H
                go_upto_region 12 with (first | ((with_reducible refine gate_callee (f := 35) rfl ?_); refine goesL_ (some 23) rfl rfl Try.func35 (by kernel_rfl) rfl #[.int .u64 a1] rfl (by (try simp only [List.map_toArray, List.map_cons, List.map_nil]); first | done | rfl | (simp only [List.length_drop, List.length_take]; rfl)) ?_; (with_reducible refine (wide_Zeros.calls kj6 a1 t102 _ A10.out).mono ?_); rintro e w' ⟨rfl, ⟨nd, rfl⟩⟩; refine ⟨_, rfl, ?_⟩) | ((with_reducible refine gate_callee (f := 36) rfl ?_); refine goesL_ (some 31) rfl rfl Try.func36 (by kernel_rfl) rfl #[.int .u64 ji12] rfl (by (try simp only [List.map_toArray, List.map_cons, List.map_nil]); first | done | (simp only [hji12]; rfl) | rfl | (simp only [List.length_drop, List.length_take]; rfl)) ?_; (with_reducible refine (wide_Len.calls kj6 ji12 t103 _ A13.out).mono ?_); rintro e w' ⟨rfl, ⟨nd, rfl⟩⟩; refine ⟨_, rfl, ?_⟩))
                (try simp only [Act.put, List.setIfInBounds_toArray, List.set_cons_zero, List.set_cons_succ])
                go_cut [43] (fun v43 wc => ∃ (kq : Nat) (x43_13 : Bool), v43 = .bool x43_13 ∧ Aside0 (f64_Join.j2 kq ji12 (wrap64 (a2 + t102)) x8_3 t103 x43_13 = some (r1, r2)) ∧ Aside0 (kq ≤ kj6) ∧ Aside0 (Below w.heap.size w wc))
                case first =>
                  have H := HC14.out
                  clear HC14
                  by_cases c15 : t103 > 53
                  · rw [if_pos c15] at H
                    have c15b0 : decide (53 < t103) = true := decide_eq_true c15
                    clear c15
                    (first | rw [c15b0] | (simp only [i64_w, i32_w]; rw [c15b0]) | skip)
                    have H' := Aside0.mk H
                    clear H
                    go_wp2
                    go_meet
                    case rel => exact ⟨_, (true), (by first | rfl | (simp; done) | (simp [*]; done)), H', ⟨by have := HJ3.out; have := HJ6.out; first | omega | exact Nat.le_refl _⟩, ⟨by repeat (first | (with_reducible first | exact HB.out | apply below_alloc | apply pw_below_drewN | apply below_drew1) | exact HB.out)⟩⟩
                  · rw [if_neg c15] at H
                    have c15b0 : decide (53 < t103) = false := decide_eq_false c15
                    clear c15
                    (first | rw [c15b0] | (simp only [i64_w, i32_w]; rw [c15b0]) | skip)
                    by_cases c16 : (wrap64 ((wrap64 (a2 + t102)) + t103)) > 1024
                    · rw [if_pos c16] at H
                      have c16b0 : decide (1024 < (wrap64 ((wrap64 (a2 + t102)) + t103))) = true := decide_eq_true c16
                      clear c16
                      have H' := Aside0.mk H
                      clear H
                      go_wp2
                      go_meet
                      case rel => exact ⟨_, (true), (by first | rfl | (simp; done) | (simp [*]; done)), H', ⟨by have := HJ3.out; have := HJ6.out; first | omega | exact Nat.le_refl _⟩, ⟨by repeat (first | (with_reducible first | exact HB.out | apply below_alloc | apply pw_below_drewN | apply below_drew1) | exact HB.out)⟩⟩
                    · rw [if_neg c16] at H
                      have c16b0 : decide (1024 < (wrap64 ((wrap64 (a2 + t102)) + t103))) = false := decide_eq_false c16
                      clear c16
                      have H' := Aside0.mk H
                      clear H
                      go_wp2
                      go_meet
                      case rel => exact ⟨_, (decide ((wrap64 (a2 + t102)) < (-1074))), (by first | rfl | (simp; done) | (simp [*]; done)), H', ⟨by have := HJ3.out; have := HJ6.out; first | omega | exact Nat.le_refl _⟩, ⟨by repeat (first | (with_reducible first | exact HB.out | apply below_alloc | apply pw_below_drewN | apply below_drew1) | exact HB.out)⟩⟩
                case rest =>
                  clear HC14
                  try clear c1
                  try clear p2
                  try clear c3
                  try clear c5
                  try clear c6
                  try clear c6b0
                  try clear c6b1
                  try clear p6
                  try clear c8
                  try clear c8b0
                  try clear c9
                  try clear c11
                  try clear c11b0
                  try clear c11b1
                  try clear c15
                  try clear c15b0
                  try clear c16
                  try clear c16b0
                  try clear p2
                  obtain ⟨kq, x43_13, rfl, HA, HJ13, HB⟩ := hcut
                  cases kq with
                  | zero => exact absurd HA.out (by simp [f64_Join.j2])
                  | succ kj13 =>
                    have H := HA.out
                    clear HA
                    simp only [f64_Join.j2] at H
                    by_cases c17 : x43_13 = true
                    · subst c17
                      have H1 : (some (0, 61)) = some (r1, r2) := by rw [if_pos rfl] at H; exact H
                      clear H
                      have H := H1
                      clear H1
                      simp only [Option.some.injEq, Prod.mk.injEq] at H
                      obtain ⟨rfl, rfl⟩ := H
                      go_wp2
                      go_ret2
                      exact ⟨by first | rfl | (simp [errW_none, errW_some] <;> rfl) | (simp only [← hji12]; first | rfl | (simp [errW_none, errW_some] <;> rfl)) | (simp [*, errW_none, errW_some] <;> rfl), by repeat (first | (with_reducible first | exact HB.out | apply below_alloc | apply pw_below_drewN | apply below_drew1) | exact HB.out)⟩
                    · replace c17 := Bool.eq_false_iff.mpr c17
                      subst c17
                      have H1 : (if 0 ≤ (mn (wrap64 (53 - t103)) (wrap64 ((wrap64 (a2 + t102)) + 1074))) then (if (shl .u64 ji12 (mn (wrap64 (53 - t103)) (wrap64 ((wrap64 (a2 + t102)) + 1074)))) < 4503599627370496 then (some (Go.bits .or .u64 x8_3 (shl .u64 ji12 (mn (wrap64 (53 - t103)) (wrap64 ((wrap64 (a2 + t102)) + 1074)))), 0)) else (some (Go.bits .or .u64 (Go.bits .or .u64 x8_3 (IntKind.u64.wrap ((IntKind.u64.wrap (wrap64 ((wrap64 ((wrap64 (a2 + t102)) - (mn (wrap64 (53 - t103)) (wrap64 ((wrap64 (a2 + t102)) + 1074))))) + 1075))) * 4503599627370496))) (Go.bits .and .u64 (shl .u64 ji12 (mn (wrap64 (53 - t103)) (wrap64 ((wrap64 (a2 + t102)) + 1074)))) 4503599627370495), 0))) else (none)) = some (r1, r2) := by rw [if_neg (show ¬ (false = true) by decide)] at H; exact H
                      clear H
                      have H := H1
                      clear H1
                      obtain ⟨ji18, hji18⟩ : ∃ j_ : Int, (mn (wrap64 (53 - t103)) (wrap64 ((wrap64 (a2 + t102)) + 1074))) = j_ := ⟨_, rfl⟩
                      replace H : (if 0 ≤ (ji18) then (if (shl .u64 ji12 (ji18)) < 4503599627370496 then (some (Go.bits .or .u64 x8_3 (shl .u64 ji12 (ji18)), 0)) else (some (Go.bits .or .u64 (Go.bits .or .u64 x8_3 (IntKind.u64.wrap ((IntKind.u64.wrap (wrap64 ((wrap64 ((wrap64 (a2 + t102)) - (ji18))) + 1075))) * 4503599627370496))) (Go.bits .and .u64 (shl .u64 ji12 (ji18)) 4503599627370495), 0))) else (none)) = some (r1, r2) := by first | (rw [hji18] at H; exact H) | (simp only [hji18] at H ⊢; exact H)
                      have hji18_ : (if (wrap64 ((wrap64 (a2 + t102)) + 1074)) < (wrap64 (53 - t103)) then (wrap64 ((wrap64 (a2 + t102)) + 1074)) else (wrap64 (53 - t103))) = ji18 := hji18
                      by_cases c19 : 0 ≤ (ji18)
                      · rw [if_pos c19] at H
                        have c19b0 := eq_true c19
                        have c19b1 : decide (0 ≤ (ji18)) = true := decide_eq_true c19
                        clear c19
                        obtain ⟨ji20, hji20⟩ : ∃ j_ : Int, (shl .u64 ji12 (ji18)) = j_ := ⟨_, rfl⟩
                        replace H : (if (ji20) < 4503599627370496 then (some (Go.bits .or .u64 x8_3 (ji20), 0)) else (some (Go.bits .or .u64 (Go.bits .or .u64 x8_3 (IntKind.u64.wrap ((IntKind.u64.wrap (wrap64 ((wrap64 ((wrap64 (a2 + t102)) - (ji18))) + 1075))) * 4503599627370496))) (Go.bits .and .u64 (ji20) 4503599627370495), 0))) = some (r1, r2) := by first | (rw [hji20] at H; exact H) | (simp only [hji20] at H ⊢; exact H)
                        have hji20_ : (IntKind.u64.wrap (ji12 * 2 ^ min (ji18).toNat 64)) = ji20 := hji20
                        have hji20z : (ji18) ≤ 64 → (IntKind.u64.wrap (ji12 * 2 ^ (ji18).toNat)) = ji20 := shl_small hji20
                        by_cases c21 : (ji20) < 4503599627370496
                        · rw [if_pos c21] at H
                          have c21b0 : decide ((ji20) < 4503599627370496) = true := decide_eq_true c21
                          clear c21
                          simp only [Option.some.injEq, Prod.mk.injEq] at H
                          obtain ⟨rfl, rfl⟩ := H
                          go_wp2
                          go_ret2
                          exact ⟨by first | rfl | (simp [errW_none, errW_some] <;> rfl) | (simp only [← hji12, ← hji18, ← hji20]; first | rfl | (simp [errW_none, errW_some] <;> rfl)) | (simp [*, errW_none, errW_some] <;> rfl), by repeat (first | (with_reducible first | exact HB.out | apply below_alloc | apply pw_below_drewN | apply below_drew1) | exact HB.out)⟩
                        · rw [if_neg c21] at H
                          have c21b0 : decide ((ji20) < 4503599627370496) = false := decide_eq_false c21
                          clear c21
                          simp only [Option.some.injEq, Prod.mk.injEq] at H
                          obtain ⟨rfl, rfl⟩ := H
                          go_wp2
                          go_ret2
                          exact ⟨by first | rfl | (simp [errW_none, errW_some] <;> rfl) | (simp only [← hji12, ← hji18, ← hji20]; first | rfl | (simp [errW_none, errW_some] <;> rfl)) | (simp [*, errW_none, errW_some] <;> rfl), by repeat (first | (with_reducible first | exact HB.out | apply below_alloc | apply pw_below_drewN | apply below_drew1) | exact HB.out)⟩
                      · rw [if_neg c19] at H
                        exact absurd H (by simp)
              · rw [if_neg c11] at H
                exact absurd H (by simp)

/-! ### f64_fields: function 37 -/
def f64_fields.f (a0 : Int) : Option (Int × Int) := some (wrap64 (Go.bits .and .u64 (a0 / 4503599627370496) 2047), Go.bits .and .u64 a0 4503599627370495)
set_option maxHeartbeats 8000000 in
set_option maxRecDepth 100000 in
theorem f64_fields.calls (a0 : Int) (r1 : Int) (r2 : Int) (w : World) (h : f64_fields.f a0 = some (r1, r2)) :
    Calls Try.prog 37 #[.int .u64 a0] w fun e w' => e = .returned (.tuple #[.int .i64 r1, .int .u64 r2]) ∧ Drawn0 w w' := by
  have H : (some (wrap64 (Go.bits .and .u64 (a0 / 4503599627370496) 2047), Go.bits .and .u64 a0 4503599627370495)) = some (r1, r2) := h
  clear h
  simp only [Option.some.injEq, Prod.mk.injEq] at H
  obtain ⟨rfl, rfl⟩ := H
  go_enter Try.func37, Try.ntmps37
  go_wp2
  go_ret2
  exact ⟨by first | rfl | (simp; done) | (simp [*]; done), by repeat (first | exact Drawn0.refl _ | apply Drawn0.step)⟩

/-! ### f64_Class: function 16 -/
def f64_Class.j0 : Nat → Int → Int → Bool → Option (Int)
  | 0, _, _, _ => none
  | k + 1, x3, x4, x10 => if x10 = true then (some 0) else (if x3 = 0 then (some 1) else (if x3 < 2047 then (some 2) else (if x4 = 0 then (some 3) else (some 4))))
def f64_Class.f (k : Nat) (a0 : Int) : Option (Int) := (f64_fields.f a0).bind fun bt104 => (if bt104.1 = 0 then (f64_Class.j0 k bt104.1 bt104.2 (bt104.2 == 0)) else (f64_Class.j0 k bt104.1 bt104.2 false))
theorem f64_Class.mono_l : ∀ k, (∀ y0 y1 y2, LeO (f64_Class.j0 k y0 y1 y2) (f64_Class.j0 (k + 1) y0 y1 y2))
  | 0 => fun _ _ _ r h => by simp [f64_Class.j0] at h
  | k + 1 => by
    have ih0 := f64_Class.mono_l k
    · intro y0 y1 y2
      unfold f64_Class.j0
      repeat' first
      | (with_reducible exact ih0 _ _ _)
      | (with_reducible exact LeO.refl _)
      | (with_reducible exact LeO.none _)
      | (with_reducible refine LeO.ite ?_ ?_)
      | (with_reducible refine LeO.bind ?_ (fun _ => ?_))
      | exact ih0 _ _ _
      | exact LeO.none _
      | refine LeO.ite ?_ ?_
      | refine LeO.bind ?_ (fun _ => ?_)
theorem f64_Class.mono : ∀ a0 k, LeO (f64_Class.f k a0) (f64_Class.f (k + 1) a0) := by
  intro a0 k
  have ih0 := f64_Class.mono_l k
  unfold f64_Class.f
  repeat' first
      | (with_reducible exact ih0 _ _ _)
      | (with_reducible exact LeO.refl _)
      | (with_reducible exact LeO.none _)
      | (with_reducible refine LeO.ite ?_ ?_)
      | (with_reducible refine LeO.bind ?_ (fun _ => ?_))
      | exact ih0 _ _ _
      | exact LeO.none _
      | refine LeO.ite ?_ ?_
      | refine LeO.bind ?_ (fun _ => ?_)
set_option maxHeartbeats 8000000 in
set_option maxRecDepth 100000 in
theorem f64_Class.calls (k : Nat) (a0 : Int) (r : Int) (w : World) (h : f64_Class.f k a0 = some r) :
    Calls Try.prog 16 #[.int .u64 a0] w fun e w' => e = .returned (.int .i64 r) ∧ Drawn0 w w' := by
  have H : ((f64_fields.f a0).bind fun bt104 => (if bt104.1 = 0 then (f64_Class.j0 k bt104.1 bt104.2 (bt104.2 == 0)) else (f64_Class.j0 k bt104.1 bt104.2 false))) = some r := h
  clear h
  replace H := Option.bind_eq_some_iff.mp H
  obtain ⟨⟨t104, t105⟩, A20, H⟩ := H
  replace H : (if t104 = 0 then (f64_Class.j0 k t104 t105 (t105 == 0)) else (f64_Class.j0 k t104 t105 false)) = some r := H
  have A2 := Aside0.mk A20
  clear A20
  have HC3 := Aside0.mk H
  clear H
  go_enter Try.func16, Try.ntmps16
  go_upto_region 2 with (first | ((with_reducible refine gate_callee (f := 37) rfl ?_); refine goesL_ (some 7) rfl rfl Try.func37 (by kernel_rfl) rfl #[.int .u64 a0] rfl (by (try simp only [List.map_toArray, List.map_cons, List.map_nil]); first | done | rfl | (simp only [List.length_drop, List.length_take]; rfl)) ?_; (with_reducible refine (f64_fields.calls a0 t104 t105 _ A2.out).mono ?_); rintro e w' ⟨rfl, ⟨nd, rfl⟩⟩; refine ⟨_, rfl, ?_⟩))
  (try simp only [Act.put, List.setIfInBounds_toArray, List.set_cons_zero, List.set_cons_succ])
  go_cut [10] (fun v10 wc => ∃ (kq : Nat) (x10_2 : Bool), v10 = .bool x10_2 ∧ Aside0 (f64_Class.j0 kq t104 t105 x10_2 = some r) ∧ Aside0 (kq ≤ k) ∧ Drawn0 w wc)
  case first =>
    have H := HC3.out
    clear HC3
    by_cases c4 : t104 = 0
    · rw [if_pos c4] at H
      have c4b0 : (t104 == 0) = true := beq_iff_eq.mpr c4
      have c4b1 : (t104 != 0) = false := bne_eq_false_iff_eq.mpr c4
      clear c4
      (first | rw [c4b0] | (simp only [i64_w, i32_w]; rw [c4b0]) | skip)
      have H' := Aside0.mk H
      clear H
      go_wp2
      go_meet
      case rel => exact ⟨_, ((t105 == 0)), (by first | rfl | (simp; done) | (simp [*]; done)), H', ⟨by first | omega | exact Nat.le_refl _⟩, by repeat (first | exact Drawn0.refl _ | apply Drawn0.step)⟩
    · rw [if_neg c4] at H
      have c4b0 : (t104 == 0) = false := beq_eq_false_iff_ne.mpr c4
      have c4b1 : (t104 != 0) = true := bne_iff_ne.mpr c4
      (first | rw [c4b0] | (simp only [i64_w, i32_w]; rw [c4b0]) | skip)
      have H' := Aside0.mk H
      clear H
      go_wp2
      go_meet
      case rel => exact ⟨_, (false), (by first | rfl | (simp; done) | (simp [*]; done)), H', ⟨by first | omega | exact Nat.le_refl _⟩, by repeat (first | exact Drawn0.refl _ | apply Drawn0.step)⟩
  case rest =>
    clear HC3
    try clear c1
    try clear p2
    try clear c3
    try clear c4
    try clear c4b0
    try clear c4b1
    obtain ⟨kq, x10_2, rfl, HA, HJ2, ⟨mc2, rfl⟩⟩ := hcut
    cases kq with
    | zero => exact absurd HA.out (by simp [f64_Class.j0])
    | succ kj2 =>
      have H := HA.out
      clear HA
      simp only [f64_Class.j0] at H
      by_cases c5 : x10_2 = true
      · subst c5
        have H1 : (some 0) = some r := by rw [if_pos rfl] at H; exact H
        clear H
        have H := H1
        clear H1
        obtain rfl := Option.some.inj H
        go_wp2
        go_ret
        exact ⟨by first | rfl | (simp; done) | (simp [*]; done), by repeat (first | exact Drawn0.refl _ | apply Drawn0.step)⟩
      · replace c5 := Bool.eq_false_iff.mpr c5
        subst c5
        have H1 : (if t104 = 0 then (some 1) else (if t104 < 2047 then (some 2) else (if t105 = 0 then (some 3) else (some 4)))) = some r := by rw [if_neg (show ¬ (false = true) by decide)] at H; exact H
        clear H
        have H := H1
        clear H1
        by_cases c6 : t104 = 0
        · rw [if_pos c6] at H
          have c6b0 : (t104 == 0) = true := beq_iff_eq.mpr c6
          have c6b1 : (t104 != 0) = false := bne_eq_false_iff_eq.mpr c6
          clear c6
          obtain rfl := Option.some.inj H
          go_wp2
          go_ret
          exact ⟨by first | rfl | (simp; done) | (simp [*]; done), by repeat (first | exact Drawn0.refl _ | apply Drawn0.step)⟩
        · rw [if_neg c6] at H
          have c6b0 : (t104 == 0) = false := beq_eq_false_iff_ne.mpr c6
          have c6b1 : (t104 != 0) = true := bne_iff_ne.mpr c6
          by_cases c7 : t104 < 2047
          · rw [if_pos c7] at H
            have c7b0 : decide (t104 < 2047) = true := decide_eq_true c7
            clear c7
            obtain rfl := Option.some.inj H
            go_wp2
            go_ret
            exact ⟨by first | rfl | (simp; done) | (simp [*]; done), by repeat (first | exact Drawn0.refl _ | apply Drawn0.step)⟩
          · rw [if_neg c7] at H
            have c7b0 : decide (t104 < 2047) = false := decide_eq_false c7
            clear c7
            by_cases c8 : t105 = 0
            · rw [if_pos c8] at H
              have c8b0 : (t105 == 0) = true := beq_iff_eq.mpr c8
              have c8b1 : (t105 != 0) = false := bne_eq_false_iff_eq.mpr c8
              clear c8
              obtain rfl := Option.some.inj H
              go_wp2
              go_ret
              exact ⟨by first | rfl | (simp; done) | (simp [*]; done), by repeat (first | exact Drawn0.refl _ | apply Drawn0.step)⟩
            · rw [if_neg c8] at H
              have c8b0 : (t105 == 0) = false := beq_eq_false_iff_ne.mpr c8
              have c8b1 : (t105 != 0) = true := bne_iff_ne.mpr c8
              obtain rfl := Option.some.inj H
              go_wp2
              go_ret
              exact ⟨by first | rfl | (simp; done) | (simp [*]; done), by repeat (first | exact Drawn0.refl _ | apply Drawn0.step)⟩

/-! ### f64_Split: function 14 -/
def f64_Split.f (k : Nat) (a0 : Int) : Option (Bool × Int × Int × Int) := (f64_fields.f a0).bind fun bt106 => ((f64_Class.f k a0).bind fun t108 => (if t108 = 0 then (some (((Go.bits .and .u64 a0 9223372036854775808) != 0), bt106.2, (-1074), 0)) else (if t108 = 1 then (some (((Go.bits .and .u64 a0 9223372036854775808) != 0), bt106.2, (-1074), 0)) else (if t108 = 2 then (some (((Go.bits .and .u64 a0 9223372036854775808) != 0), Go.bits .or .u64 4503599627370496 bt106.2, wrap64 (bt106.1 - 1075), 0)) else (some (false, 0, 0, 60))))))
theorem f64_Split.mono : ∀ a0 k, LeO (f64_Split.f k a0) (f64_Split.f (k + 1) a0) := by
  intro a0 k
  unfold f64_Split.f
  repeat' first
      | (with_reducible exact f64_Class.mono _ _)
      | (with_reducible exact LeO.refl _)
      | (with_reducible exact LeO.none _)
      | (with_reducible refine LeO.ite ?_ ?_)
      | (with_reducible refine LeO.bind ?_ (fun _ => ?_))
      | exact f64_Class.mono _ _
      | exact LeO.none _
      | refine LeO.ite ?_ ?_
      | refine LeO.bind ?_ (fun _ => ?_)
set_option maxHeartbeats 8000000 in
set_option maxRecDepth 100000 in
theorem f64_Split.calls (k : Nat) (a0 : Int) (r1 : Bool) (r2 : Int) (r3 : Int) (r4 : Int) (w : World) (h : f64_Split.f k a0 = some (r1, r2, r3, r4)) :
    Calls Try.prog 14 #[.int .u64 a0] w fun e w' => e = .returned (.tuple #[.bool r1, .int .u64 r2, .int .i64 r3, .int .i64 r4]) ∧ Drawn0 w w' := by
  have H : ((f64_fields.f a0).bind fun bt106 => ((f64_Class.f k a0).bind fun t108 => (if t108 = 0 then (some (((Go.bits .and .u64 a0 9223372036854775808) != 0), bt106.2, (-1074), 0)) else (if t108 = 1 then (some (((Go.bits .and .u64 a0 9223372036854775808) != 0), bt106.2, (-1074), 0)) else (if t108 = 2 then (some (((Go.bits .and .u64 a0 9223372036854775808) != 0), Go.bits .or .u64 4503599627370496 bt106.2, wrap64 (bt106.1 - 1075), 0)) else (some (false, 0, 0, 60))))))) = some (r1, r2, r3, r4) := h
  clear h
  replace H := Option.bind_eq_some_iff.mp H
  obtain ⟨⟨t106, t107⟩, A20, H⟩ := H
  replace H : ((f64_Class.f k a0).bind fun t108 => (if t108 = 0 then (some (((Go.bits .and .u64 a0 9223372036854775808) != 0), t107, (-1074), 0)) else (if t108 = 1 then (some (((Go.bits .and .u64 a0 9223372036854775808) != 0), t107, (-1074), 0)) else (if t108 = 2 then (some (((Go.bits .and .u64 a0 9223372036854775808) != 0), Go.bits .or .u64 4503599627370496 t107, wrap64 (t106 - 1075), 0)) else (some (false, 0, 0, 60)))))) = some (r1, r2, r3, r4) := H
  have A2 := Aside0.mk A20
  clear A20
  replace H := Option.bind_eq_some_iff.mp H
  obtain ⟨t108, A30, H⟩ := H
  replace H : (if t108 = 0 then (some (((Go.bits .and .u64 a0 9223372036854775808) != 0), t107, (-1074), 0)) else (if t108 = 1 then (some (((Go.bits .and .u64 a0 9223372036854775808) != 0), t107, (-1074), 0)) else (if t108 = 2 then (some (((Go.bits .and .u64 a0 9223372036854775808) != 0), Go.bits .or .u64 4503599627370496 t107, wrap64 (t106 - 1075), 0)) else (some (false, 0, 0, 60))))) = some (r1, r2, r3, r4) := H
  have A3 := Aside0.mk A30
  clear A30
  by_cases c4 : t108 = 0
  · rw [if_pos c4] at H
    have c4b0 : (t108 == 0) = true := beq_iff_eq.mpr c4
    have c4b1 : (t108 != 0) = false := bne_eq_false_iff_eq.mpr c4
    clear c4
    simp only [Option.some.injEq, Prod.mk.injEq] at H
    obtain ⟨rfl, rfl, rfl, rfl⟩ := H
    go_enter Try.func14, Try.ntmps14
    go_wp2_with (first | ((with_reducible refine gate_callee (f := 37) rfl ?_); refine goesL_ (some 11) rfl rfl Try.func37 (by kernel_rfl) rfl #[.int .u64 a0] rfl (by (try simp only [List.map_toArray, List.map_cons, List.map_nil]); first | done | rfl | (simp only [List.length_drop, List.length_take]; rfl)) ?_; (with_reducible refine (f64_fields.calls a0 t106 t107 _ A2.out).mono ?_); rintro e w' ⟨rfl, ⟨nd, rfl⟩⟩; refine ⟨_, rfl, ?_⟩) | ((with_reducible refine gate_callee (f := 16) rfl ?_); refine goesL_ (some 18) rfl rfl Try.func16 (by kernel_rfl) rfl #[.int .u64 a0] rfl (by (try simp only [List.map_toArray, List.map_cons, List.map_nil]); first | done | rfl | (simp only [List.length_drop, List.length_take]; rfl)) ?_; (with_reducible refine (f64_Class.calls k a0 t108 _ A3.out).mono ?_); rintro e w' ⟨rfl, ⟨nd, rfl⟩⟩; refine ⟨_, rfl, ?_⟩))
    refine bodyPost_ret (results_list (rs := [.tmp 2, .tmp 3, .tmp 4, .tmp 5]) rfl (by simp) (.tmp (.tmp (.tmp (.tmp .nil))))) rfl ?_
    exact ⟨by first | rfl | (simp; done) | (simp [*]; done), by repeat (first | exact Drawn0.refl _ | apply Drawn0.step)⟩
  · rw [if_neg c4] at H
    have c4b0 : (t108 == 0) = false := beq_eq_false_iff_ne.mpr c4
    have c4b1 : (t108 != 0) = true := bne_iff_ne.mpr c4
    by_cases c5 : t108 = 1
    · rw [if_pos c5] at H
      have c5b0 : (t108 == 1) = true := beq_iff_eq.mpr c5
      have c5b1 : (t108 != 1) = false := bne_eq_false_iff_eq.mpr c5
      clear c5
      simp only [Option.some.injEq, Prod.mk.injEq] at H
      obtain ⟨rfl, rfl, rfl, rfl⟩ := H
      go_enter Try.func14, Try.ntmps14
      go_wp2_with (first | ((with_reducible refine gate_callee (f := 37) rfl ?_); refine goesL_ (some 11) rfl rfl Try.func37 (by kernel_rfl) rfl #[.int .u64 a0] rfl (by (try simp only [List.map_toArray, List.map_cons, List.map_nil]); first | done | rfl | (simp only [List.length_drop, List.length_take]; rfl)) ?_; (with_reducible refine (f64_fields.calls a0 t106 t107 _ A2.out).mono ?_); rintro e w' ⟨rfl, ⟨nd, rfl⟩⟩; refine ⟨_, rfl, ?_⟩) | ((with_reducible refine gate_callee (f := 16) rfl ?_); refine goesL_ (some 18) rfl rfl Try.func16 (by kernel_rfl) rfl #[.int .u64 a0] rfl (by (try simp only [List.map_toArray, List.map_cons, List.map_nil]); first | done | rfl | (simp only [List.length_drop, List.length_take]; rfl)) ?_; (with_reducible refine (f64_Class.calls k a0 t108 _ A3.out).mono ?_); rintro e w' ⟨rfl, ⟨nd, rfl⟩⟩; refine ⟨_, rfl, ?_⟩))
      refine bodyPost_ret (results_list (rs := [.tmp 2, .tmp 3, .tmp 4, .tmp 5]) rfl (by simp) (.tmp (.tmp (.tmp (.tmp .nil))))) rfl ?_
      exact ⟨by first | rfl | (simp; done) | (simp [*]; done), by repeat (first | exact Drawn0.refl _ | apply Drawn0.step)⟩
    · rw [if_neg c5] at H
      have c5b0 : (t108 == 1) = false := beq_eq_false_iff_ne.mpr c5
      have c5b1 : (t108 != 1) = true := bne_iff_ne.mpr c5
      by_cases c6 : t108 = 2
      · rw [if_pos c6] at H
        have c6b0 : (t108 == 2) = true := beq_iff_eq.mpr c6
        have c6b1 : (t108 != 2) = false := bne_eq_false_iff_eq.mpr c6
        clear c6
        simp only [Option.some.injEq, Prod.mk.injEq] at H
        obtain ⟨rfl, rfl, rfl, rfl⟩ := H
        go_enter Try.func14, Try.ntmps14
        go_wp2_with (first | ((with_reducible refine gate_callee (f := 37) rfl ?_); refine goesL_ (some 11) rfl rfl Try.func37 (by kernel_rfl) rfl #[.int .u64 a0] rfl (by (try simp only [List.map_toArray, List.map_cons, List.map_nil]); first | done | rfl | (simp only [List.length_drop, List.length_take]; rfl)) ?_; (with_reducible refine (f64_fields.calls a0 t106 t107 _ A2.out).mono ?_); rintro e w' ⟨rfl, ⟨nd, rfl⟩⟩; refine ⟨_, rfl, ?_⟩) | ((with_reducible refine gate_callee (f := 16) rfl ?_); refine goesL_ (some 18) rfl rfl Try.func16 (by kernel_rfl) rfl #[.int .u64 a0] rfl (by (try simp only [List.map_toArray, List.map_cons, List.map_nil]); first | done | rfl | (simp only [List.length_drop, List.length_take]; rfl)) ?_; (with_reducible refine (f64_Class.calls k a0 t108 _ A3.out).mono ?_); rintro e w' ⟨rfl, ⟨nd, rfl⟩⟩; refine ⟨_, rfl, ?_⟩))
        refine bodyPost_ret (results_list (rs := [.tmp 2, .tmp 3, .tmp 4, .tmp 5]) rfl (by simp) (.tmp (.tmp (.tmp (.tmp .nil))))) rfl ?_
        exact ⟨by first | rfl | (simp; done) | (simp [*]; done), by repeat (first | exact Drawn0.refl _ | apply Drawn0.step)⟩
      · rw [if_neg c6] at H
        have c6b0 : (t108 == 2) = false := beq_eq_false_iff_ne.mpr c6
        have c6b1 : (t108 != 2) = true := bne_iff_ne.mpr c6
        simp only [Option.some.injEq, Prod.mk.injEq] at H
        obtain ⟨rfl, rfl, rfl, rfl⟩ := H
        go_enter Try.func14, Try.ntmps14
        go_wp2_with (first | ((with_reducible refine gate_callee (f := 37) rfl ?_); refine goesL_ (some 11) rfl rfl Try.func37 (by kernel_rfl) rfl #[.int .u64 a0] rfl (by (try simp only [List.map_toArray, List.map_cons, List.map_nil]); first | done | rfl | (simp only [List.length_drop, List.length_take]; rfl)) ?_; (with_reducible refine (f64_fields.calls a0 t106 t107 _ A2.out).mono ?_); rintro e w' ⟨rfl, ⟨nd, rfl⟩⟩; refine ⟨_, rfl, ?_⟩) | ((with_reducible refine gate_callee (f := 16) rfl ?_); refine goesL_ (some 18) rfl rfl Try.func16 (by kernel_rfl) rfl #[.int .u64 a0] rfl (by (try simp only [List.map_toArray, List.map_cons, List.map_nil]); first | done | rfl | (simp only [List.length_drop, List.length_take]; rfl)) ?_; (with_reducible refine (f64_Class.calls k a0 t108 _ A3.out).mono ?_); rintro e w' ⟨rfl, ⟨nd, rfl⟩⟩; refine ⟨_, rfl, ?_⟩))
        refine bodyPost_ret (results_list (rs := [.tmp 2, .tmp 3, .tmp 4, .tmp 5]) rfl (by simp) (.tmp (.tmp (.tmp (.tmp .nil))))) rfl ?_
        exact ⟨by first | rfl | (simp; done) | (simp [*]; done), by repeat (first | exact Drawn0.refl _ | apply Drawn0.step)⟩

/-! ### f64_finite: function 39 -/
def f64_finite.f (k : Nat) (a0 : Int) : Option (Bool) := (f64_Class.f k a0).bind fun t109 => (if t109 = 3 then (some false) else (if t109 = 4 then (some false) else (some true)))
theorem f64_finite.mono : ∀ a0 k, LeO (f64_finite.f k a0) (f64_finite.f (k + 1) a0) := by
  intro a0 k
  unfold f64_finite.f
  repeat' first
      | (with_reducible exact f64_Class.mono _ _)
      | (with_reducible exact LeO.refl _)
      | (with_reducible exact LeO.none _)
      | (with_reducible refine LeO.ite ?_ ?_)
      | (with_reducible refine LeO.bind ?_ (fun _ => ?_))
      | exact f64_Class.mono _ _
      | exact LeO.none _
      | refine LeO.ite ?_ ?_
      | refine LeO.bind ?_ (fun _ => ?_)
set_option maxHeartbeats 8000000 in
set_option maxRecDepth 100000 in
theorem f64_finite.calls (k : Nat) (a0 : Int) (r : Bool) (w : World) (h : f64_finite.f k a0 = some r) :
    Calls Try.prog 39 #[.int .u64 a0] w fun e w' => e = .returned (.bool r) ∧ Drawn0 w w' := by
  have H : ((f64_Class.f k a0).bind fun t109 => (if t109 = 3 then (some false) else (if t109 = 4 then (some false) else (some true)))) = some r := h
  clear h
  replace H := Option.bind_eq_some_iff.mp H
  obtain ⟨t109, A20, H⟩ := H
  replace H : (if t109 = 3 then (some false) else (if t109 = 4 then (some false) else (some true))) = some r := H
  have A2 := Aside0.mk A20
  clear A20
  by_cases c3 : t109 = 3
  · rw [if_pos c3] at H
    have c3b0 : (t109 == 3) = true := beq_iff_eq.mpr c3
    have c3b1 : (t109 != 3) = false := bne_eq_false_iff_eq.mpr c3
    clear c3
    obtain rfl := Option.some.inj H
    go_enter Try.func39, Try.ntmps39
    go_wp2_with (first | ((with_reducible refine gate_callee (f := 16) rfl ?_); refine goesL_ (some 4) rfl rfl Try.func16 (by kernel_rfl) rfl #[.int .u64 a0] rfl (by (try simp only [List.map_toArray, List.map_cons, List.map_nil]); first | done | rfl | (simp only [List.length_drop, List.length_take]; rfl)) ?_; (with_reducible refine (f64_Class.calls k a0 t109 _ A2.out).mono ?_); rintro e w' ⟨rfl, ⟨nd, rfl⟩⟩; refine ⟨_, rfl, ?_⟩))
    go_ret
    exact ⟨by first | rfl | (simp; done) | (simp [*]; done), by repeat (first | exact Drawn0.refl _ | apply Drawn0.step)⟩
  · rw [if_neg c3] at H
    have c3b0 : (t109 == 3) = false := beq_eq_false_iff_ne.mpr c3
    have c3b1 : (t109 != 3) = true := bne_iff_ne.mpr c3
    by_cases c4 : t109 = 4
    · rw [if_pos c4] at H
      have c4b0 : (t109 == 4) = true := beq_iff_eq.mpr c4
      have c4b1 : (t109 != 4) = false := bne_eq_false_iff_eq.mpr c4
      clear c4
      obtain rfl := Option.some.inj H
      go_enter Try.func39, Try.ntmps39
      go_wp2_with (first | ((with_reducible refine gate_callee (f := 16) rfl ?_); refine goesL_ (some 4) rfl rfl Try.func16 (by kernel_rfl) rfl #[.int .u64 a0] rfl (by (try simp only [List.map_toArray, List.map_cons, List.map_nil]); first | done | rfl | (simp only [List.length_drop, List.length_take]; rfl)) ?_; (with_reducible refine (f64_Class.calls k a0 t109 _ A2.out).mono ?_); rintro e w' ⟨rfl, ⟨nd, rfl⟩⟩; refine ⟨_, rfl, ?_⟩))
      go_ret
      exact ⟨by first | rfl | (simp; done) | (simp [*]; done), by repeat (first | exact Drawn0.refl _ | apply Drawn0.step)⟩
    · rw [if_neg c4] at H
      have c4b0 : (t109 == 4) = false := beq_eq_false_iff_ne.mpr c4
      have c4b1 : (t109 != 4) = true := bne_iff_ne.mpr c4
      obtain rfl := Option.some.inj H
      go_enter Try.func39, Try.ntmps39
      go_wp2_with (first | ((with_reducible refine gate_callee (f := 16) rfl ?_); refine goesL_ (some 4) rfl rfl Try.func16 (by kernel_rfl) rfl #[.int .u64 a0] rfl (by (try simp only [List.map_toArray, List.map_cons, List.map_nil]); first | done | rfl | (simp only [List.length_drop, List.length_take]; rfl)) ?_; (with_reducible refine (f64_Class.calls k a0 t109 _ A2.out).mono ?_); rintro e w' ⟨rfl, ⟨nd, rfl⟩⟩; refine ⟨_, rfl, ?_⟩))
      go_ret
      exact ⟨by first | rfl | (simp; done) | (simp [*]; done), by repeat (first | exact Drawn0.refl _ | apply Drawn0.step)⟩

/-! ### f64_Next: function 22 -/
def f64_Next.f (k : Nat) (a0 : Int) : Option (Int × Int) := (f64_finite.f k a0).bind fun t110 => (if t110 = true then (if a0 = 9218868437227405311 then (some (0, 62)) else (if a0 = 9223372036854775808 then (some (1, 0)) else (if (Go.bits .and .u64 a0 9223372036854775808) = 0 then (some (IntKind.u64.wrap (a0 + 1), 0)) else (some (IntKind.u64.wrap (a0 - 1), 0))))) else (some (0, 60)))
theorem f64_Next.mono : ∀ a0 k, LeO (f64_Next.f k a0) (f64_Next.f (k + 1) a0) := by
  intro a0 k
  unfold f64_Next.f
  repeat' first
      | (with_reducible exact f64_finite.mono _ _)
      | (with_reducible exact LeO.refl _)
      | (with_reducible exact LeO.none _)
      | (with_reducible refine LeO.ite ?_ ?_)
      | (with_reducible refine LeO.bind ?_ (fun _ => ?_))
      | exact f64_finite.mono _ _
      | exact LeO.none _
      | refine LeO.ite ?_ ?_
      | refine LeO.bind ?_ (fun _ => ?_)
set_option maxHeartbeats 8000000 in
set_option maxRecDepth 100000 in
theorem f64_Next.calls (k : Nat) (a0 : Int) (r1 : Int) (r2 : Int) (w : World) (h : f64_Next.f k a0 = some (r1, r2)) :
    Calls Try.prog 22 #[.int .u64 a0] w fun e w' => e = .returned (.tuple #[.int .u64 r1, .int .i64 r2]) ∧ Drawn0 w w' := by
  have H : ((f64_finite.f k a0).bind fun t110 => (if t110 = true then (if a0 = 9218868437227405311 then (some (0, 62)) else (if a0 = 9223372036854775808 then (some (1, 0)) else (if (Go.bits .and .u64 a0 9223372036854775808) = 0 then (some (IntKind.u64.wrap (a0 + 1), 0)) else (some (IntKind.u64.wrap (a0 - 1), 0))))) else (some (0, 60)))) = some (r1, r2) := h
  clear h
  replace H := Option.bind_eq_some_iff.mp H
  obtain ⟨t110, A20, H⟩ := H
  replace H : (if t110 = true then (if a0 = 9218868437227405311 then (some (0, 62)) else (if a0 = 9223372036854775808 then (some (1, 0)) else (if (Go.bits .and .u64 a0 9223372036854775808) = 0 then (some (IntKind.u64.wrap (a0 + 1), 0)) else (some (IntKind.u64.wrap (a0 - 1), 0))))) else (some (0, 60))) = some (r1, r2) := H
  have A2 := Aside0.mk A20
  clear A20
  by_cases c3 : t110 = true
  · subst c3
    have H1 : (if a0 = 9218868437227405311 then (some (0, 62)) else (if a0 = 9223372036854775808 then (some (1, 0)) else (if (Go.bits .and .u64 a0 9223372036854775808) = 0 then (some (IntKind.u64.wrap (a0 + 1), 0)) else (some (IntKind.u64.wrap (a0 - 1), 0))))) = some (r1, r2) := by rw [if_pos rfl] at H; exact H
    clear H
    have H := H1
    clear H1
    by_cases c4 : a0 = 9218868437227405311
    · rw [if_pos c4] at H
      have c4b0 : (a0 == 9218868437227405311) = true := beq_iff_eq.mpr c4
      have c4b1 : (a0 != 9218868437227405311) = false := bne_eq_false_iff_eq.mpr c4
      clear c4
      simp only [Option.some.injEq, Prod.mk.injEq] at H
      obtain ⟨rfl, rfl⟩ := H
      go_enter Try.func22, Try.ntmps22
      go_wp2_with (first | ((with_reducible refine gate_callee (f := 39) rfl ?_); refine goesL_ (some 6) rfl rfl Try.func39 (by kernel_rfl) rfl #[.int .u64 a0] rfl (by (try simp only [List.map_toArray, List.map_cons, List.map_nil]); first | done | rfl | (simp only [List.length_drop, List.length_take]; rfl)) ?_; (with_reducible refine (f64_finite.calls k a0 true _ A2.out).mono ?_); rintro e w' ⟨rfl, ⟨nd, rfl⟩⟩; refine ⟨_, rfl, ?_⟩))
      go_ret2
      exact ⟨by first | rfl | (simp; done) | (simp [*]; done), by repeat (first | exact Drawn0.refl _ | apply Drawn0.step)⟩
    · rw [if_neg c4] at H
      have c4b0 : (a0 == 9218868437227405311) = false := beq_eq_false_iff_ne.mpr c4
      have c4b1 : (a0 != 9218868437227405311) = true := bne_iff_ne.mpr c4
      by_cases c5 : a0 = 9223372036854775808
      · rw [if_pos c5] at H
        have c5b0 : (a0 == 9223372036854775808) = true := beq_iff_eq.mpr c5
        have c5b1 : (a0 != 9223372036854775808) = false := bne_eq_false_iff_eq.mpr c5
        clear c5
        simp only [Option.some.injEq, Prod.mk.injEq] at H
        obtain ⟨rfl, rfl⟩ := H
        go_enter Try.func22, Try.ntmps22
        go_wp2_with (first | ((with_reducible refine gate_callee (f := 39) rfl ?_); refine goesL_ (some 6) rfl rfl Try.func39 (by kernel_rfl) rfl #[.int .u64 a0] rfl (by (try simp only [List.map_toArray, List.map_cons, List.map_nil]); first | done | rfl | (simp only [List.length_drop, List.length_take]; rfl)) ?_; (with_reducible refine (f64_finite.calls k a0 true _ A2.out).mono ?_); rintro e w' ⟨rfl, ⟨nd, rfl⟩⟩; refine ⟨_, rfl, ?_⟩))
        go_ret2
        exact ⟨by first | rfl | (simp; done) | (simp [*]; done), by repeat (first | exact Drawn0.refl _ | apply Drawn0.step)⟩
      · rw [if_neg c5] at H
        have c5b0 : (a0 == 9223372036854775808) = false := beq_eq_false_iff_ne.mpr c5
        have c5b1 : (a0 != 9223372036854775808) = true := bne_iff_ne.mpr c5
        by_cases c6 : (Go.bits .and .u64 a0 9223372036854775808) = 0
        · rw [if_pos c6] at H
          have c6b0 : ((Go.bits .and .u64 a0 9223372036854775808) == 0) = true := beq_iff_eq.mpr c6
          have c6b1 : ((Go.bits .and .u64 a0 9223372036854775808) != 0) = false := bne_eq_false_iff_eq.mpr c6
          clear c6
          simp only [Option.some.injEq, Prod.mk.injEq] at H
          obtain ⟨rfl, rfl⟩ := H
          go_enter Try.func22, Try.ntmps22
          go_wp2_with (first | ((with_reducible refine gate_callee (f := 39) rfl ?_); refine goesL_ (some 6) rfl rfl Try.func39 (by kernel_rfl) rfl #[.int .u64 a0] rfl (by (try simp only [List.map_toArray, List.map_cons, List.map_nil]); first | done | rfl | (simp only [List.length_drop, List.length_take]; rfl)) ?_; (with_reducible refine (f64_finite.calls k a0 true _ A2.out).mono ?_); rintro e w' ⟨rfl, ⟨nd, rfl⟩⟩; refine ⟨_, rfl, ?_⟩))
          go_ret2
          exact ⟨by first | rfl | (simp; done) | (simp [*]; done), by repeat (first | exact Drawn0.refl _ | apply Drawn0.step)⟩
        · rw [if_neg c6] at H
          have c6b0 : ((Go.bits .and .u64 a0 9223372036854775808) == 0) = false := beq_eq_false_iff_ne.mpr c6
          have c6b1 : ((Go.bits .and .u64 a0 9223372036854775808) != 0) = true := bne_iff_ne.mpr c6
          simp only [Option.some.injEq, Prod.mk.injEq] at H
          obtain ⟨rfl, rfl⟩ := H
          go_enter Try.func22, Try.ntmps22
          go_wp2_with (first | ((with_reducible refine gate_callee (f := 39) rfl ?_); refine goesL_ (some 6) rfl rfl Try.func39 (by kernel_rfl) rfl #[.int .u64 a0] rfl (by (try simp only [List.map_toArray, List.map_cons, List.map_nil]); first | done | rfl | (simp only [List.length_drop, List.length_take]; rfl)) ?_; (with_reducible refine (f64_finite.calls k a0 true _ A2.out).mono ?_); rintro e w' ⟨rfl, ⟨nd, rfl⟩⟩; refine ⟨_, rfl, ?_⟩))
          go_ret2
          exact ⟨by first | rfl | (simp; done) | (simp [*]; done), by repeat (first | exact Drawn0.refl _ | apply Drawn0.step)⟩
  · replace c3 := Bool.eq_false_iff.mpr c3
    subst c3
    have H1 : (some (0, 60)) = some (r1, r2) := by rw [if_neg (show ¬ (false = true) by decide)] at H; exact H
    clear H
    have H := H1
    clear H1
    simp only [Option.some.injEq, Prod.mk.injEq] at H
    obtain ⟨rfl, rfl⟩ := H
    go_enter Try.func22, Try.ntmps22
    go_wp2_with (first | ((with_reducible refine gate_callee (f := 39) rfl ?_); refine goesL_ (some 6) rfl rfl Try.func39 (by kernel_rfl) rfl #[.int .u64 a0] rfl (by (try simp only [List.map_toArray, List.map_cons, List.map_nil]); first | done | rfl | (simp only [List.length_drop, List.length_take]; rfl)) ?_; (with_reducible refine (f64_finite.calls k a0 false _ A2.out).mono ?_); rintro e w' ⟨rfl, ⟨nd, rfl⟩⟩; refine ⟨_, rfl, ?_⟩))
    go_ret2
    exact ⟨by first | rfl | (simp; done) | (simp [*]; done), by repeat (first | exact Drawn0.refl _ | apply Drawn0.step)⟩

end Go.Proofs.Ytpnndhbeahajkaa.PF64Exact
