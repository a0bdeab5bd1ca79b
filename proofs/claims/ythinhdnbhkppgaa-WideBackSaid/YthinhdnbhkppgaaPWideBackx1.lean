-- PRINTED BY print.sh 35421559b90ae4d0a3588c463048766b98c2df88dd9212a6774a882060cdf62d: not written by this session
import Derived.Test.YthinhdnbhkppgaaPWideBackx0
namespace Go.Proofs.Ythinhdnbhkppgaa.PWideBack
open Go.RowKit Go.Proofs.YthinhdnbhkppgaaW.PrintWords Go.Proofs.YthinhdnbhkppgaaW.PrintLast Go.Proofs.YthinhdnbhkppgaaW.PrintMore
attribute [local go_sem] max2_int min2_int max_two min_two max_three min_three max_four min_four   -- for this text's walks alone
set_option linter.unusedVariables false
set_option linter.unusedSimpArgs false

/-! ### wide_Add: function 14 -/
def wide_Add.f (a0 : Int) (a1 : Int) (a2 : Int) : Option (Int × Int) := if (IntKind.u64.wrap (a0 + a1)) < a0 then (some (IntKind.u64.wrap ((IntKind.u64.wrap (a0 + a1)) + (Go.bits .and .u64 a2 1)), 1)) else (if (IntKind.u64.wrap ((IntKind.u64.wrap (a0 + a1)) + (Go.bits .and .u64 a2 1))) < (IntKind.u64.wrap (a0 + a1)) then (some (IntKind.u64.wrap ((IntKind.u64.wrap (a0 + a1)) + (Go.bits .and .u64 a2 1)), 1)) else (some (IntKind.u64.wrap ((IntKind.u64.wrap (a0 + a1)) + (Go.bits .and .u64 a2 1)), 0)))
set_option maxHeartbeats 8000000 in
set_option maxRecDepth 100000 in
theorem wide_Add.calls (a0 : Int) (a1 : Int) (a2 : Int) (r1 : Int) (r2 : Int) (w : World) (h : wide_Add.f a0 a1 a2 = some (r1, r2)) :
    Calls Try.prog 14 #[.int .u64 a0, .int .u64 a1, .int .u64 a2] w fun e w' => e = .returned (.tuple #[.int .u64 r1, .int .u64 r2]) ∧ Drawn0 w w' := by
  have H : (if (IntKind.u64.wrap (a0 + a1)) < a0 then (some (IntKind.u64.wrap ((IntKind.u64.wrap (a0 + a1)) + (Go.bits .and .u64 a2 1)), 1)) else (if (IntKind.u64.wrap ((IntKind.u64.wrap (a0 + a1)) + (Go.bits .and .u64 a2 1))) < (IntKind.u64.wrap (a0 + a1)) then (some (IntKind.u64.wrap ((IntKind.u64.wrap (a0 + a1)) + (Go.bits .and .u64 a2 1)), 1)) else (some (IntKind.u64.wrap ((IntKind.u64.wrap (a0 + a1)) + (Go.bits .and .u64 a2 1)), 0)))) = some (r1, r2) := h
  clear h
  by_cases c4 : (IntKind.u64.wrap (a0 + a1)) < a0
  · rw [if_pos c4] at H
    have c4b0 : decide ((IntKind.u64.wrap (a0 + a1)) < a0) = true := decide_eq_true c4
    clear c4
    simp only [Option.some.injEq, Prod.mk.injEq] at H
    obtain ⟨rfl, rfl⟩ := H
    go_enter Try.func14, Try.ntmps14
    go_wp2
    go_ret2
    exact ⟨by first | rfl | (simp; done) | (simp [*]; done), by repeat (first | exact Drawn0.refl _ | apply Drawn0.step)⟩
  · rw [if_neg c4] at H
    have c4b0 : decide ((IntKind.u64.wrap (a0 + a1)) < a0) = false := decide_eq_false c4
    clear c4
    by_cases c5 : (IntKind.u64.wrap ((IntKind.u64.wrap (a0 + a1)) + (Go.bits .and .u64 a2 1))) < (IntKind.u64.wrap (a0 + a1))
    · rw [if_pos c5] at H
      have c5b0 : decide ((IntKind.u64.wrap ((IntKind.u64.wrap (a0 + a1)) + (Go.bits .and .u64 a2 1))) < (IntKind.u64.wrap (a0 + a1))) = true := decide_eq_true c5
      clear c5
      simp only [Option.some.injEq, Prod.mk.injEq] at H
      obtain ⟨rfl, rfl⟩ := H
      go_enter Try.func14, Try.ntmps14
      go_wp2
      go_ret2
      exact ⟨by first | rfl | (simp; done) | (simp [*]; done), by repeat (first | exact Drawn0.refl _ | apply Drawn0.step)⟩
    · rw [if_neg c5] at H
      have c5b0 : decide ((IntKind.u64.wrap ((IntKind.u64.wrap (a0 + a1)) + (Go.bits .and .u64 a2 1))) < (IntKind.u64.wrap (a0 + a1))) = false := decide_eq_false c5
      clear c5
      simp only [Option.some.injEq, Prod.mk.injEq] at H
      obtain ⟨rfl, rfl⟩ := H
      go_enter Try.func14, Try.ntmps14
      go_wp2
      go_ret2
      exact ⟨by first | rfl | (simp; done) | (simp [*]; done), by repeat (first | exact Drawn0.refl _ | apply Drawn0.step)⟩

/-! ### wide_Sub: function 16 -/
def wide_Sub.f (a0 : Int) (a1 : Int) (a2 : Int) : Option (Int × Int) := if a0 < a1 then (some (IntKind.u64.wrap ((IntKind.u64.wrap (a0 - a1)) - (Go.bits .and .u64 a2 1)), 1)) else (if a0 = a1 then (if (Go.bits .and .u64 a2 1) = 1 then (some (IntKind.u64.wrap ((IntKind.u64.wrap (a0 - a1)) - (Go.bits .and .u64 a2 1)), 1)) else (some (IntKind.u64.wrap ((IntKind.u64.wrap (a0 - a1)) - (Go.bits .and .u64 a2 1)), 0))) else (some (IntKind.u64.wrap ((IntKind.u64.wrap (a0 - a1)) - (Go.bits .and .u64 a2 1)), 0)))
set_option maxHeartbeats 8000000 in
set_option maxRecDepth 100000 in
theorem wide_Sub.calls (a0 : Int) (a1 : Int) (a2 : Int) (r1 : Int) (r2 : Int) (w : World) (h : wide_Sub.f a0 a1 a2 = some (r1, r2)) :
    Calls Try.prog 16 #[.int .u64 a0, .int .u64 a1, .int .u64 a2] w fun e w' => e = .returned (.tuple #[.int .u64 r1, .int .u64 r2]) ∧ Drawn0 w w' := by
  have H : (if a0 < a1 then (some (IntKind.u64.wrap ((IntKind.u64.wrap (a0 - a1)) - (Go.bits .and .u64 a2 1)), 1)) else (if a0 = a1 then (if (Go.bits .and .u64 a2 1) = 1 then (some (IntKind.u64.wrap ((IntKind.u64.wrap (a0 - a1)) - (Go.bits .and .u64 a2 1)), 1)) else (some (IntKind.u64.wrap ((IntKind.u64.wrap (a0 - a1)) - (Go.bits .and .u64 a2 1)), 0))) else (some (IntKind.u64.wrap ((IntKind.u64.wrap (a0 - a1)) - (Go.bits .and .u64 a2 1)), 0)))) = some (r1, r2) := h
  clear h
  by_cases c4 : a0 < a1
  · rw [if_pos c4] at H
    have c4b0 : decide (a0 < a1) = true := decide_eq_true c4
    clear c4
    simp only [Option.some.injEq, Prod.mk.injEq] at H
    obtain ⟨rfl, rfl⟩ := H
    go_enter Try.func16, Try.ntmps16
    go_wp2
    go_ret2
    exact ⟨by first | rfl | (simp; done) | (simp [*]; done), by repeat (first | exact Drawn0.refl _ | apply Drawn0.step)⟩
  · rw [if_neg c4] at H
    have c4b0 : decide (a0 < a1) = false := decide_eq_false c4
    clear c4
    by_cases c5 : a0 = a1
    · rw [if_pos c5] at H
      have c5b0 : (a0 == a1) = true := beq_iff_eq.mpr c5
      have c5b1 : (a0 != a1) = false := bne_eq_false_iff_eq.mpr c5
      clear c5
      by_cases c6 : (Go.bits .and .u64 a2 1) = 1
      · rw [if_pos c6] at H
        have c6b0 : ((Go.bits .and .u64 a2 1) == 1) = true := beq_iff_eq.mpr c6
        have c6b1 : ((Go.bits .and .u64 a2 1) != 1) = false := bne_eq_false_iff_eq.mpr c6
        clear c6
        simp only [Option.some.injEq, Prod.mk.injEq] at H
        obtain ⟨rfl, rfl⟩ := H
        go_enter Try.func16, Try.ntmps16
        go_wp2
        go_ret2
        exact ⟨by first | rfl | (simp; done) | (simp [*]; done), by repeat (first | exact Drawn0.refl _ | apply Drawn0.step)⟩
      · rw [if_neg c6] at H
        have c6b0 : ((Go.bits .and .u64 a2 1) == 1) = false := beq_eq_false_iff_ne.mpr c6
        have c6b1 : ((Go.bits .and .u64 a2 1) != 1) = true := bne_iff_ne.mpr c6
        simp only [Option.some.injEq, Prod.mk.injEq] at H
        obtain ⟨rfl, rfl⟩ := H
        go_enter Try.func16, Try.ntmps16
        go_wp2
        go_ret2
        exact ⟨by first | rfl | (simp; done) | (simp [*]; done), by repeat (first | exact Drawn0.refl _ | apply Drawn0.step)⟩
    · rw [if_neg c5] at H
      have c5b0 : (a0 == a1) = false := beq_eq_false_iff_ne.mpr c5
      have c5b1 : (a0 != a1) = true := bne_iff_ne.mpr c5
      simp only [Option.some.injEq, Prod.mk.injEq] at H
      obtain ⟨rfl, rfl⟩ := H
      go_enter Try.func16, Try.ntmps16
      go_wp2
      go_ret2
      exact ⟨by first | rfl | (simp; done) | (simp [*]; done), by repeat (first | exact Drawn0.refl _ | apply Drawn0.step)⟩

/-! ### plumblaw01_WideBack: function 5 -/
def plumblaw01_WideBack.j0 : Nat → Int → Int → Int → Int → Int → Bool → Option (Bool)
  | 0, _, _, _, _, _, _ => none
  | k + 1, x0, x1, x2, x7, x8, x29 => if x29 = true then (some false) else (if x7 < x0 then (if ((x8 == 1) != true) = true then (some false) else ((wide_Sub.f x7 x1 x2).bind fun bt103 => (if bt103.1 = x0 then (some (bt103.2 == x8)) else (some false)))) else (if x7 = x0 then (if x1 > 0 then (if ((x8 == 1) != true) = true then (some false) else ((wide_Sub.f x7 x1 x2).bind fun bt105 => (if bt105.1 = x0 then (some (bt105.2 == x8)) else (some false)))) else (if ((x8 == 1) != ((Go.bits .and .u64 x2 1) == 1)) = true then (some false) else ((wide_Sub.f x7 x1 x2).bind fun bt107 => (if bt107.1 = x0 then (some (bt107.2 == x8)) else (some false))))) else (if ((x8 == 1) != false) = true then (some false) else ((wide_Sub.f x7 x1 x2).bind fun bt109 => (if bt109.1 = x0 then (some (bt109.2 == x8)) else (some false))))))
def plumblaw01_WideBack.f (k : Nat) (a0 : Int) (a1 : Int) (a2 : Int) : Option (Bool) := (wide_Add.f a0 a1 a2).bind fun bt101 => (if bt101.1 = (IntKind.u64.wrap ((IntKind.u64.wrap (a0 + a1)) + (Go.bits .and .u64 a2 1))) then (plumblaw01_WideBack.j0 k a0 a1 a2 bt101.1 bt101.2 (decide (bt101.2 > 1))) else (plumblaw01_WideBack.j0 k a0 a1 a2 bt101.1 bt101.2 true))
theorem plumblaw01_WideBack.mono_l : ∀ k, (∀ y0 y1 y2 y3 y4 y5, LeO (plumblaw01_WideBack.j0 k y0 y1 y2 y3 y4 y5) (plumblaw01_WideBack.j0 (k + 1) y0 y1 y2 y3 y4 y5))
  | 0 => fun _ _ _ _ _ _ r h => by simp [plumblaw01_WideBack.j0] at h
  | k + 1 => by
    have ih0 := plumblaw01_WideBack.mono_l k
    · intro y0 y1 y2 y3 y4 y5
      unfold plumblaw01_WideBack.j0
      repeat' first
      | (with_reducible exact ih0 _ _ _ _ _ _)
      | (with_reducible exact LeO.refl _)
      | (with_reducible exact LeO.none _)
      | (with_reducible refine LeO.ite ?_ ?_)
      | (with_reducible refine LeO.bind ?_ (fun _ => ?_))
      | exact ih0 _ _ _ _ _ _
      | exact LeO.none _
      | refine LeO.ite ?_ ?_
      | refine LeO.bind ?_ (fun _ => ?_)
theorem plumblaw01_WideBack.mono : ∀ a0 a1 a2 k, LeO (plumblaw01_WideBack.f k a0 a1 a2) (plumblaw01_WideBack.f (k + 1) a0 a1 a2) := by
  intro a0 a1 a2 k
  have ih0 := plumblaw01_WideBack.mono_l k
  unfold plumblaw01_WideBack.f
  repeat' first
      | (with_reducible exact ih0 _ _ _ _ _ _)
      | (with_reducible exact LeO.refl _)
      | (with_reducible exact LeO.none _)
      | (with_reducible refine LeO.ite ?_ ?_)
      | (with_reducible refine LeO.bind ?_ (fun _ => ?_))
      | exact ih0 _ _ _ _ _ _
      | exact LeO.none _
      | refine LeO.ite ?_ ?_
      | refine LeO.bind ?_ (fun _ => ?_)
set_option maxHeartbeats 8000000 in
set_option maxRecDepth 100000 in
theorem plumblaw01_WideBack.calls (k : Nat) (a0 : Int) (a1 : Int) (a2 : Int) (r : Bool) (w : World) (h : plumblaw01_WideBack.f k a0 a1 a2 = some r) :
    Calls Try.prog 5 #[.int .u64 a0, .int .u64 a1, .int .u64 a2] w fun e w' => e = .returned (.bool r) ∧ Drawn0 w w' := by
  have H : ((wide_Add.f a0 a1 a2).bind fun bt101 => (if bt101.1 = (IntKind.u64.wrap ((IntKind.u64.wrap (a0 + a1)) + (Go.bits .and .u64 a2 1))) then (plumblaw01_WideBack.j0 k a0 a1 a2 bt101.1 bt101.2 (decide (bt101.2 > 1))) else (plumblaw01_WideBack.j0 k a0 a1 a2 bt101.1 bt101.2 true))) = some r := h
  clear h
  replace H := Option.bind_eq_some_iff.mp H
  obtain ⟨⟨t101, t102⟩, A40, H⟩ := H
  replace H : (if t101 = (IntKind.u64.wrap ((IntKind.u64.wrap (a0 + a1)) + (Go.bits .and .u64 a2 1))) then (plumblaw01_WideBack.j0 k a0 a1 a2 t101 t102 (decide (t102 > 1))) else (plumblaw01_WideBack.j0 k a0 a1 a2 t101 t102 true)) = some r := H
  have A4 := Aside0.mk A40
  clear A40
  have HC5 := Aside0.mk H
  clear H
  go_enter Try.func5, Try.ntmps5
  go_upto_region 2 with (first | ((with_reducible refine gate_callee (f := 14) rfl ?_); refine goesL_ (some 15) rfl rfl Try.func14 (by kernel_rfl) rfl #[.int .u64 a0, .int .u64 a1, .int .u64 a2] rfl (by (try simp only [List.map_toArray, List.map_cons, List.map_nil]); first | done | rfl | (simp only [List.length_drop, List.length_take]; rfl)) ?_; (with_reducible refine (wide_Add.calls a0 a1 a2 t101 t102 _ A4.out).mono ?_); rintro e w' ⟨rfl, ⟨nd, rfl⟩⟩; refine ⟨_, rfl, ?_⟩))
  (try simp only [Act.put, List.setIfInBounds_toArray, List.set_cons_zero, List.set_cons_succ])
  go_cut [29] (fun v29 wc => ∃ (kq : Nat) (x29_4 : Bool), v29 = .bool x29_4 ∧ Aside0 (plumblaw01_WideBack.j0 kq a0 a1 a2 t101 t102 x29_4 = some r) ∧ Aside0 (kq ≤ k) ∧ Drawn0 w wc)
  case first =>
    have H := HC5.out
    clear HC5
    by_cases c6 : t101 = (IntKind.u64.wrap ((IntKind.u64.wrap (a0 + a1)) + (Go.bits .and .u64 a2 1)))
    · rw [if_pos c6] at H
      have c6b0 : (t101 == (IntKind.u64.wrap ((IntKind.u64.wrap (a0 + a1)) + (Go.bits .and .u64 a2 1)))) = true := beq_iff_eq.mpr c6
      have c6b1 : (t101 != (IntKind.u64.wrap ((IntKind.u64.wrap (a0 + a1)) + (Go.bits .and .u64 a2 1)))) = false := bne_eq_false_iff_eq.mpr c6
      clear c6
      (first | rw [c6b0] | (simp only [i64_w, i32_w]; rw [c6b0]) | skip)
      have H' := Aside0.mk H
      clear H
      go_wp2
      go_meet
      case rel => exact ⟨_, (decide (t102 > 1)), (by first | rfl | (simp; done) | (simp [*]; done)), H', ⟨by first | omega | exact Nat.le_refl _⟩, by repeat (first | exact Drawn0.refl _ | apply Drawn0.step)⟩
    · rw [if_neg c6] at H
      have c6b0 : (t101 == (IntKind.u64.wrap ((IntKind.u64.wrap (a0 + a1)) + (Go.bits .and .u64 a2 1)))) = false := beq_eq_false_iff_ne.mpr c6
      have c6b1 : (t101 != (IntKind.u64.wrap ((IntKind.u64.wrap (a0 + a1)) + (Go.bits .and .u64 a2 1)))) = true := bne_iff_ne.mpr c6
      (first | rw [c6b0] | (simp only [i64_w, i32_w]; rw [c6b0]) | skip)
      have H' := Aside0.mk H
      clear H
      go_wp2
      go_meet
      case rel => exact ⟨_, (true), (by first | rfl | (simp; done) | (simp [*]; done)), H', ⟨by first | omega | exact Nat.le_refl _⟩, by repeat (first | exact Drawn0.refl _ | apply Drawn0.step)⟩
  case rest =>
    clear HC5
    try clear c1
    try clear p2
    try clear c5
    try clear c6
    try clear c6b0
    try clear c6b1
    obtain ⟨kq, x29_4, rfl, HA, HJ4, ⟨mc4, rfl⟩⟩ := hcut
    cases kq with
    | zero => exact absurd HA.out (by simp [plumblaw01_WideBack.j0])
    | succ kj4 =>
      have H := HA.out
      clear HA
      simp only [plumblaw01_WideBack.j0] at H
      by_cases c7 : x29_4 = true
      · subst c7
        have H1 : (some false) = some r := by rw [if_pos rfl] at H; exact H
        clear H
        have H := H1
        clear H1
        obtain rfl := Option.some.inj H
        go_wp2
        go_ret
        exact ⟨by first | rfl | (simp; done) | (simp [*]; done), by repeat (first | exact Drawn0.refl _ | apply Drawn0.step)⟩
      · replace c7 := Bool.eq_false_iff.mpr c7
        subst c7
        have H1 : (if t101 < a0 then (if ((t102 == 1) != true) = true then (some false) else ((wide_Sub.f t101 a1 a2).bind fun bt103 => (if bt103.1 = a0 then (some (bt103.2 == t102)) else (some false)))) else (if t101 = a0 then (if a1 > 0 then (if ((t102 == 1) != true) = true then (some false) else ((wide_Sub.f t101 a1 a2).bind fun bt105 => (if bt105.1 = a0 then (some (bt105.2 == t102)) else (some false)))) else (if ((t102 == 1) != ((Go.bits .and .u64 a2 1) == 1)) = true then (some false) else ((wide_Sub.f t101 a1 a2).bind fun bt107 => (if bt107.1 = a0 then (some (bt107.2 == t102)) else (some false))))) else (if ((t102 == 1) != false) = true then (some false) else ((wide_Sub.f t101 a1 a2).bind fun bt109 => (if bt109.1 = a0 then (some (bt109.2 == t102)) else (some false)))))) = some r := by rw [if_neg (show ¬ (false = true) by decide)] at H; exact H
        clear H
        have H := H1
        clear H1
        by_cases c8 : t101 < a0
        · rw [if_pos c8] at H
          have c8b0 : decide (t101 < a0) = true := decide_eq_true c8
          clear c8
          by_cases c9 : ((t102 == 1) != true) = true
          · rw [if_pos c9] at H
            have c9b0 : ((t102 == 1) != true) = true := c9
            (try (have c9b1 : decide ((t102 == 1) = true) = false := by simpa using c9))
            (try (have c9b2 : ((t102 == 1) == true) = false := by simpa using c9))
            (try (have c9b3 : ¬ ((t102 == 1) = true) := by simpa using c9))
            clear c9
            obtain rfl := Option.some.inj H
            go_wp2
            go_ret
            exact ⟨by first | rfl | (simp; done) | (simp [*]; done), by repeat (first | exact Drawn0.refl _ | apply Drawn0.step)⟩
          · rw [if_neg c9] at H
            have c9b0 : ((t102 == 1) != true) = false := by simpa using c9
            (try (have c9b1 : decide ((t102 == 1) = true) = true := by simpa using c9))
            (try (have c9b2 : ((t102 == 1) == true) = true := by simpa using c9))
            clear c9
            replace H := Option.bind_eq_some_iff.mp H
            obtain ⟨⟨t103, t104⟩, A100, H⟩ := H
            replace H : (if t103 = a0 then (some (t104 == t102)) else (some false)) = some r := H
            have A10 := Aside0.mk A100
            clear A100
            by_cases c11 : t103 = a0
            · rw [if_pos c11] at H
              have c11b0 : (t103 == a0) = true := beq_iff_eq.mpr c11
              have c11b1 : (t103 != a0) = false := bne_eq_false_iff_eq.mpr c11
              clear c11
              obtain rfl := Option.some.inj H
              go_wp2_with (first | ((with_reducible refine gate_callee (f := 16) rfl ?_); refine goesL_ (some 54) rfl rfl Try.func16 (by kernel_rfl) rfl #[.int .u64 t101, .int .u64 a1, .int .u64 a2] rfl (by (try simp only [List.map_toArray, List.map_cons, List.map_nil]); first | done | rfl | (simp only [List.length_drop, List.length_take]; rfl)) ?_; (with_reducible refine (wide_Sub.calls t101 a1 a2 t103 t104 _ A10.out).mono ?_); rintro e w' ⟨rfl, ⟨nd, rfl⟩⟩; refine ⟨_, rfl, ?_⟩))
              go_ret
              exact ⟨by first | rfl | (simp; done) | (simp [*]; done), by repeat (first | exact Drawn0.refl _ | apply Drawn0.step)⟩
            · rw [if_neg c11] at H
              have c11b0 : (t103 == a0) = false := beq_eq_false_iff_ne.mpr c11
              have c11b1 : (t103 != a0) = true := bne_iff_ne.mpr c11
              obtain rfl := Option.some.inj H
              go_wp2_with (first | ((with_reducible refine gate_callee (f := 16) rfl ?_); refine goesL_ (some 54) rfl rfl Try.func16 (by kernel_rfl) rfl #[.int .u64 t101, .int .u64 a1, .int .u64 a2] rfl (by (try simp only [List.map_toArray, List.map_cons, List.map_nil]); first | done | rfl | (simp only [List.length_drop, List.length_take]; rfl)) ?_; (with_reducible refine (wide_Sub.calls t101 a1 a2 t103 t104 _ A10.out).mono ?_); rintro e w' ⟨rfl, ⟨nd, rfl⟩⟩; refine ⟨_, rfl, ?_⟩))
              go_ret
              exact ⟨by first | rfl | (simp; done) | (simp [*]; done), by repeat (first | exact Drawn0.refl _ | apply Drawn0.step)⟩
        · rw [if_neg c8] at H
          have c8b0 : decide (t101 < a0) = false := decide_eq_false c8
          clear c8
          by_cases c12 : t101 = a0
          · rw [if_pos c12] at H
            have c12b0 : (t101 == a0) = true := beq_iff_eq.mpr c12
            have c12b1 : (t101 != a0) = false := bne_eq_false_iff_eq.mpr c12
            clear c12
            by_cases c13 : a1 > 0
            · rw [if_pos c13] at H
              have c13b0 : decide (0 < a1) = true := decide_eq_true c13
              clear c13
              by_cases c14 : ((t102 == 1) != true) = true
              · rw [if_pos c14] at H
                have c14b0 : ((t102 == 1) != true) = true := c14
                (try (have c14b1 : decide ((t102 == 1) = true) = false := by simpa using c14))
                (try (have c14b2 : ((t102 == 1) == true) = false := by simpa using c14))
                (try (have c14b3 : ¬ ((t102 == 1) = true) := by simpa using c14))
                clear c14
                obtain rfl := Option.some.inj H
                go_wp2
                go_ret
                exact ⟨by first | rfl | (simp; done) | (simp [*]; done), by repeat (first | exact Drawn0.refl _ | apply Drawn0.step)⟩
              · rw [if_neg c14] at H
                have c14b0 : ((t102 == 1) != true) = false := by simpa using c14
                (try (have c14b1 : decide ((t102 == 1) = true) = true := by simpa using c14))
                (try (have c14b2 : ((t102 == 1) == true) = true := by simpa using c14))
                clear c14
                replace H := Option.bind_eq_some_iff.mp H
                obtain ⟨⟨t105, t106⟩, A150, H⟩ := H
                replace H : (if t105 = a0 then (some (t106 == t102)) else (some false)) = some r := H
                have A15 := Aside0.mk A150
                clear A150
                by_cases c16 : t105 = a0
                · rw [if_pos c16] at H
                  have c16b0 : (t105 == a0) = true := beq_iff_eq.mpr c16
                  have c16b1 : (t105 != a0) = false := bne_eq_false_iff_eq.mpr c16
                  clear c16
                  obtain rfl := Option.some.inj H
                  go_wp2_with (first | ((with_reducible refine gate_callee (f := 16) rfl ?_); refine goesL_ (some 54) rfl rfl Try.func16 (by kernel_rfl) rfl #[.int .u64 t101, .int .u64 a1, .int .u64 a2] rfl (by (try simp only [List.map_toArray, List.map_cons, List.map_nil]); first | done | rfl | (simp only [List.length_drop, List.length_take]; rfl)) ?_; (with_reducible refine (wide_Sub.calls t101 a1 a2 t105 t106 _ A15.out).mono ?_); rintro e w' ⟨rfl, ⟨nd, rfl⟩⟩; refine ⟨_, rfl, ?_⟩))
                  go_ret
                  exact ⟨by first | rfl | (simp; done) | (simp [*]; done), by repeat (first | exact Drawn0.refl _ | apply Drawn0.step)⟩
                · rw [if_neg c16] at H
                  have c16b0 : (t105 == a0) = false := beq_eq_false_iff_ne.mpr c16
                  have c16b1 : (t105 != a0) = true := bne_iff_ne.mpr c16
                  obtain rfl := Option.some.inj H
                  go_wp2_with (first | ((with_reducible refine gate_callee (f := 16) rfl ?_); refine goesL_ (some 54) rfl rfl Try.func16 (by kernel_rfl) rfl #[.int .u64 t101, .int .u64 a1, .int .u64 a2] rfl (by (try simp only [List.map_toArray, List.map_cons, List.map_nil]); first | done | rfl | (simp only [List.length_drop, List.length_take]; rfl)) ?_; (with_reducible refine (wide_Sub.calls t101 a1 a2 t105 t106 _ A15.out).mono ?_); rintro e w' ⟨rfl, ⟨nd, rfl⟩⟩; refine ⟨_, rfl, ?_⟩))
                  go_ret
                  exact ⟨by first | rfl | (simp; done) | (simp [*]; done), by repeat (first | exact Drawn0.refl _ | apply Drawn0.step)⟩
            · rw [if_neg c13] at H
              have c13b0 : decide (0 < a1) = false := decide_eq_false c13
              clear c13
              by_cases c17 : ((t102 == 1) != ((Go.bits .and .u64 a2 1) == 1)) = true
              · rw [if_pos c17] at H
                have c17b0 : ((t102 == 1) != ((Go.bits .and .u64 a2 1) == 1)) = true := c17
                (try (have c17b1 : decide ((t102 == 1) = ((Go.bits .and .u64 a2 1) == 1)) = false := by simpa using c17))
                (try (have c17b2 : ((t102 == 1) == ((Go.bits .and .u64 a2 1) == 1)) = false := by simpa using c17))
                (try (have c17b3 : ¬ ((t102 == 1) = ((Go.bits .and .u64 a2 1) == 1)) := by simpa using c17))
                clear c17
                obtain rfl := Option.some.inj H
                go_wp2
                go_ret
                exact ⟨by first | rfl | (simp; done) | (simp [*]; done), by repeat (first | exact Drawn0.refl _ | apply Drawn0.step)⟩
              · rw [if_neg c17] at H
                have c17b0 : ((t102 == 1) != ((Go.bits .and .u64 a2 1) == 1)) = false := by simpa using c17
                (try (have c17b1 : decide ((t102 == 1) = ((Go.bits .and .u64 a2 1) == 1)) = true := by simpa using c17))
                (try (have c17b2 : ((t102 == 1) == ((Go.bits .and .u64 a2 1) == 1)) = true := by simpa using c17))
                clear c17
                replace H := Option.bind_eq_some_iff.mp H
                obtain ⟨⟨t107, t108⟩, A180, H⟩ := H
                replace H : (if t107 = a0 then (some (t108 == t102)) else (some false)) = some r := H
                have A18 := Aside0.mk A180
                clear A180
                by_cases c19 : t107 = a0
                · rw [if_pos c19] at H
                  have c19b0 : (t107 == a0) = true := beq_iff_eq.mpr c19
                  have c19b1 : (t107 != a0) = false := bne_eq_false_iff_eq.mpr c19
                  clear c19
                  obtain rfl := Option.some.inj H
                  go_wp2_with (first | ((with_reducible refine gate_callee (f := 16) rfl ?_); refine goesL_ (some 54) rfl rfl Try.func16 (by kernel_rfl) rfl #[.int .u64 t101, .int .u64 a1, .int .u64 a2] rfl (by (try simp only [List.map_toArray, List.map_cons, List.map_nil]); first | done | rfl | (simp only [List.length_drop, List.length_take]; rfl)) ?_; (with_reducible refine (wide_Sub.calls t101 a1 a2 t107 t108 _ A18.out).mono ?_); rintro e w' ⟨rfl, ⟨nd, rfl⟩⟩; refine ⟨_, rfl, ?_⟩))
                  go_ret
                  exact ⟨by first | rfl | (simp; done) | (simp [*]; done), by repeat (first | exact Drawn0.refl _ | apply Drawn0.step)⟩
                · rw [if_neg c19] at H
                  have c19b0 : (t107 == a0) = false := beq_eq_false_iff_ne.mpr c19
                  have c19b1 : (t107 != a0) = true := bne_iff_ne.mpr c19
                  obtain rfl := Option.some.inj H
                  go_wp2_with (first | ((with_reducible refine gate_callee (f := 16) rfl ?_); refine goesL_ (some 54) rfl rfl Try.func16 (by kernel_rfl) rfl #[.int .u64 t101, .int .u64 a1, .int .u64 a2] rfl (by (try simp only [List.map_toArray, List.map_cons, List.map_nil]); first | done | rfl | (simp only [List.length_drop, List.length_take]; rfl)) ?_; (with_reducible refine (wide_Sub.calls t101 a1 a2 t107 t108 _ A18.out).mono ?_); rintro e w' ⟨rfl, ⟨nd, rfl⟩⟩; refine ⟨_, rfl, ?_⟩))
                  go_ret
                  exact ⟨by first | rfl | (simp; done) | (simp [*]; done), by repeat (first | exact Drawn0.refl _ | apply Drawn0.step)⟩
          · rw [if_neg c12] at H
            have c12b0 : (t101 == a0) = false := beq_eq_false_iff_ne.mpr c12
            have c12b1 : (t101 != a0) = true := bne_iff_ne.mpr c12
            by_cases c20 : ((t102 == 1) != false) = true
            · rw [if_pos c20] at H
              have c20b0 : ((t102 == 1) != false) = true := c20
              (try (have c20b1 : decide ((t102 == 1) = false) = false := by simpa using c20))
              (try (have c20b2 : ((t102 == 1) == false) = false := by simpa using c20))
              (try (have c20b3 : ¬ ((t102 == 1) = false) := by simpa using c20))
              clear c20
              obtain rfl := Option.some.inj H
              go_wp2
              go_ret
              exact ⟨by first | rfl | (simp; done) | (simp [*]; done), by repeat (first | exact Drawn0.refl _ | apply Drawn0.step)⟩
            · rw [if_neg c20] at H
              have c20b0 : ((t102 == 1) != false) = false := by simpa using c20
              (try (have c20b1 : decide ((t102 == 1) = false) = true := by simpa using c20))
              (try (have c20b2 : ((t102 == 1) == false) = true := by simpa using c20))
              clear c20
              replace H := Option.bind_eq_some_iff.mp H
              obtain ⟨⟨t109, t110⟩, A210, H⟩ := H
              replace H : (if t109 = a0 then (some (t110 == t102)) else (some false)) = some r := H
              have A21 := Aside0.mk A210
              clear A210
              by_cases c22 : t109 = a0
              · rw [if_pos c22] at H
                have c22b0 : (t109 == a0) = true := beq_iff_eq.mpr c22
                have c22b1 : (t109 != a0) = false := bne_eq_false_iff_eq.mpr c22
                clear c22
                obtain rfl := Option.some.inj H
                go_wp2_with (first | ((with_reducible refine gate_callee (f := 16) rfl ?_); refine goesL_ (some 54) rfl rfl Try.func16 (by kernel_rfl) rfl #[.int .u64 t101, .int .u64 a1, .int .u64 a2] rfl (by (try simp only [List.map_toArray, List.map_cons, List.map_nil]); first | done | rfl | (simp only [List.length_drop, List.length_take]; rfl)) ?_; (with_reducible refine (wide_Sub.calls t101 a1 a2 t109 t110 _ A21.out).mono ?_); rintro e w' ⟨rfl, ⟨nd, rfl⟩⟩; refine ⟨_, rfl, ?_⟩))
                go_ret
                exact ⟨by first | rfl | (simp; done) | (simp [*]; done), by repeat (first | exact Drawn0.refl _ | apply Drawn0.step)⟩
              · rw [if_neg c22] at H
                have c22b0 : (t109 == a0) = false := beq_eq_false_iff_ne.mpr c22
                have c22b1 : (t109 != a0) = true := bne_iff_ne.mpr c22
                obtain rfl := Option.some.inj H
                go_wp2_with (first | ((with_reducible refine gate_callee (f := 16) rfl ?_); refine goesL_ (some 54) rfl rfl Try.func16 (by kernel_rfl) rfl #[.int .u64 t101, .int .u64 a1, .int .u64 a2] rfl (by (try simp only [List.map_toArray, List.map_cons, List.map_nil]); first | done | rfl | (simp only [List.length_drop, List.length_take]; rfl)) ?_; (with_reducible refine (wide_Sub.calls t101 a1 a2 t109 t110 _ A21.out).mono ?_); rintro e w' ⟨rfl, ⟨nd, rfl⟩⟩; refine ⟨_, rfl, ?_⟩))
                go_ret
                exact ⟨by first | rfl | (simp; done) | (simp [*]; done), by repeat (first | exact Drawn0.refl _ | apply Drawn0.step)⟩

/-- THE ONE PURE STATEMENT of plumblaw01_WideBack: yours. -/
def plumblaw01_WideBack.Pure : Prop := ∀ (a0 : Int) (a1 : Int) (a2 : Int), (Lit.int .u64 a0).wf = true → (Lit.int .u64 a1).wf = true → (Lit.int .u64 a2).wf = true → ∃ k, plumblaw01_WideBack.f k a0 a1 a2 = some true
theorem plumblaw01_WideBack.walk (P : plumblaw01_WideBack.Pure) (a0 : Int) (a1 : Int) (a2 : Int) (w : World) (w0 : (Lit.int .u64 a0).wf = true) (w1 : (Lit.int .u64 a1).wf = true) (w2 : (Lit.int .u64 a2).wf = true) :
    Calls Try.prog 5 #[.int .u64 a0, .int .u64 a1, .int .u64 a2] w fun e w' => e = .returned (.bool true) ∧ Below w.heap.size w w' := by
  obtain ⟨k, h⟩ := P a0 a1 a2 w0 w1 w2
  refine (plumblaw01_WideBack.calls k a0 a1 a2 true w h).mono ?_
  rintro e w' ⟨rfl, hd⟩
  exact ⟨rfl, hd.below⟩

end Go.Proofs.Ythinhdnbhkppgaa.PWideBack
