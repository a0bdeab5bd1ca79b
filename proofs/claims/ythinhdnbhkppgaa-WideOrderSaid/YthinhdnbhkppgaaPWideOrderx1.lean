-- PRINTED BY print.sh 35421559b90ae4d0a3588c463048766b98c2df88dd9212a6774a882060cdf62d: not written by this session
import Derived.Test.YthinhdnbhkppgaaPWideOrderx0
namespace Go.Proofs.Ythinhdnbhkppgaa.PWideOrder
open Go.RowKit Go.Proofs.YthinhdnbhkppgaaW.PrintWords Go.Proofs.YthinhdnbhkppgaaW.PrintLast Go.Proofs.YthinhdnbhkppgaaW.PrintMore
attribute [local go_sem] max2_int min2_int max_two min_two max_three min_three max_four min_four   -- for this text's walks alone
set_option linter.unusedVariables false
set_option linter.unusedSimpArgs false

/-! ### wide_Sub: function 16 -/
def wide_Sub.f (a0 : Int) (a1 : Int) (a2 : Int) : Option (Int × Int) := if a0 < a1 then (some (IntKind.u64.wrap ((IntKind.u64.wrap (a0 - a1)) - (Go.bits .and .u64 a2 1)), 1)) else (if a0 = a1 then (if (Go.bits .and .u64 a2 1) = 1 then (some (IntKind.u64.wrap ((IntKind.u64.wrap (a0 - a1)) - (Go.bits .and .u64 a2 1)), 1)) else (some (IntKind.u64.wrap ((IntKind.u64.wrap (a0 - a1)) - (Go.bits .and .u64 a2 1)), 0))) else (some (IntKind.u64.wrap ((IntKind.u64.wrap (a0 - a1)) - (Go.bits .and .u64 a2 1)), 0)))
set_option maxHeartbeats 8000000 in
set_option maxRecDepth 100000 in
theorem wide_Sub.calls (a0 : Int) (a1 : Int) (a2 : Int) (r1 : Int) (r2 : Int) (w : World) (h : wide_Sub.f a0 a1 a2 = some (r1, r2)) :
    Calls Try.prog 16 #[.int .u64 a0, .int .u64 a1, .int .u64 a2] w fun e w' => e = .returned (.tuple #[.int .u64 r1, .int .u64 r2]) ∧ Drawn0 w w' := by
  have H : (if a0 < a1 then (some (IntKind.u64.wrap ((IntKind.u64.wrap (a0 - a1)) - (Go.bits .and .u64 a2 1)), 1)) else (if a0 = a1 then (if (Go.bits .and .u64 a2 1) = 1 then (some (IntKind.u64.wrap ((IntKind.u64.wrap (a0 - a1)) - (Go.bits .and .u64 a2 1)), 1)) else (some (IntKind.u64.wrap ((IntKind.u64.wrap (a0 - a1)) - (Go.bits .and .u64 a2 1)), 0))) else (some (IntKind.u64.wrap ((IntKind.u64.wrap (a0 - a1)) - (Go.bits .and .u64 a2 1)), 0)))) = some (r1, r2) := h
  clear h
  by_cases c4 : a0 < a1
  · rw [if_pos c4] at H
    have c4b0 : decide (a0 < a1) = true := decide_eq_true c4
    clear c4
    simp only [Option.some.injEq, Prod.mk.injEq] at H
    obtain ⟨rfl, rfl⟩ := H
    go_enter Try.func16, Try.ntmps16
    go_wp2
    go_ret2
    exact ⟨by first | rfl | (simp; done) | (simp [*]; done), by repeat (first | exact Drawn0.refl _ | apply Drawn0.step)⟩
  · rw [if_neg c4] at H
    have c4b0 : decide (a0 < a1) = false := decide_eq_false c4
    clear c4
    by_cases c5 : a0 = a1
    · rw [if_pos c5] at H
      have c5b0 : (a0 == a1) = true := beq_iff_eq.mpr c5
      have c5b1 : (a0 != a1) = false := bne_eq_false_iff_eq.mpr c5
      clear c5
      by_cases c6 : (Go.bits .and .u64 a2 1) = 1
      · rw [if_pos c6] at H
        have c6b0 : ((Go.bits .and .u64 a2 1) == 1) = true := beq_iff_eq.mpr c6
        have c6b1 : ((Go.bits .and .u64 a2 1) != 1) = false := bne_eq_false_iff_eq.mpr c6
        clear c6
        simp only [Option.some.injEq, Prod.mk.injEq] at H
        obtain ⟨rfl, rfl⟩ := H
        go_enter Try.func16, Try.ntmps16
        go_wp2
        go_ret2
        exact ⟨by first | rfl | (simp; done) | (simp [*]; done), by repeat (first | exact Drawn0.refl _ | apply Drawn0.step)⟩
      · rw [if_neg c6] at H
        have c6b0 : ((Go.bits .and .u64 a2 1) == 1) = false := beq_eq_false_iff_ne.mpr c6
        have c6b1 : ((Go.bits .and .u64 a2 1) != 1) = true := bne_iff_ne.mpr c6
        simp only [Option.some.injEq, Prod.mk.injEq] at H
        obtain ⟨rfl, rfl⟩ := H
        go_enter Try.func16, Try.ntmps16
        go_wp2
        go_ret2
        exact ⟨by first | rfl | (simp; done) | (simp [*]; done), by repeat (first | exact Drawn0.refl _ | apply Drawn0.step)⟩
    · rw [if_neg c5] at H
      have c5b0 : (a0 == a1) = false := beq_eq_false_iff_ne.mpr c5
      have c5b1 : (a0 != a1) = true := bne_iff_ne.mpr c5
      simp only [Option.some.injEq, Prod.mk.injEq] at H
      obtain ⟨rfl, rfl⟩ := H
      go_enter Try.func16, Try.ntmps16
      go_wp2
      go_ret2
      exact ⟨by first | rfl | (simp; done) | (simp [*]; done), by repeat (first | exact Drawn0.refl _ | apply Drawn0.step)⟩

/-! ### wide_Cmp: function 19 -/
def wide_Cmp.j0 : Nat → Int → Int → Int → Int → Bool → Option (Int)
  | 0, _, _, _, _, _ => none
  | k + 1, x0, x1, x2, x3, x9 => if x9 = true then (some (-1)) else (if x0 = x2 then (if x1 = x3 then (some 0) else (some 1)) else (some 1))
def wide_Cmp.f (k : Nat) (a0 : Int) (a1 : Int) (a2 : Int) (a3 : Int) : Option (Int) := if a0 < a2 then (wide_Cmp.j0 k a0 a1 a2 a3 true) else (if a0 = a2 then (wide_Cmp.j0 k a0 a1 a2 a3 (decide (a1 < a3))) else (wide_Cmp.j0 k a0 a1 a2 a3 false))
theorem wide_Cmp.mono_l : ∀ k, (∀ y0 y1 y2 y3 y4, LeO (wide_Cmp.j0 k y0 y1 y2 y3 y4) (wide_Cmp.j0 (k + 1) y0 y1 y2 y3 y4))
  | 0 => fun _ _ _ _ _ r h => by simp [wide_Cmp.j0] at h
  | k + 1 => by
    have ih0 := wide_Cmp.mono_l k
    · intro y0 y1 y2 y3 y4
      unfold wide_Cmp.j0
      repeat' first
      | (with_reducible exact ih0 _ _ _ _ _)
      | (with_reducible exact LeO.refl _)
      | (with_reducible exact LeO.none _)
      | (with_reducible refine LeO.ite ?_ ?_)
      | (with_reducible refine LeO.bind ?_ (fun _ => ?_))
      | exact ih0 _ _ _ _ _
      | exact LeO.none _
      | refine LeO.ite ?_ ?_
      | refine LeO.bind ?_ (fun _ => ?_)
theorem wide_Cmp.mono : ∀ a0 a1 a2 a3 k, LeO (wide_Cmp.f k a0 a1 a2 a3) (wide_Cmp.f (k + 1) a0 a1 a2 a3) := by
  intro a0 a1 a2 a3 k
  have ih0 := wide_Cmp.mono_l k
  unfold wide_Cmp.f
  repeat' first
      | (with_reducible exact ih0 _ _ _ _ _)
      | (with_reducible exact LeO.refl _)
      | (with_reducible exact LeO.none _)
      | (with_reducible refine LeO.ite ?_ ?_)
      | (with_reducible refine LeO.bind ?_ (fun _ => ?_))
      | exact ih0 _ _ _ _ _
      | exact LeO.none _
      | refine LeO.ite ?_ ?_
      | refine LeO.bind ?_ (fun _ => ?_)
set_option maxHeartbeats 8000000 in
set_option maxRecDepth 100000 in
theorem wide_Cmp.calls (k : Nat) (a0 : Int) (a1 : Int) (a2 : Int) (a3 : Int) (r : Int) (w : World) (h : wide_Cmp.f k a0 a1 a2 a3 = some r) :
    Calls Try.prog 19 #[.int .u64 a0, .int .u64 a1, .int .u64 a2, .int .u64 a3] w fun e w' => e = .returned (.int .i64 r) ∧ Drawn0 w w' := by
  have H : (if a0 < a2 then (wide_Cmp.j0 k a0 a1 a2 a3 true) else (if a0 = a2 then (wide_Cmp.j0 k a0 a1 a2 a3 (decide (a1 < a3))) else (wide_Cmp.j0 k a0 a1 a2 a3 false))) = some r := h
  clear h
  have HC5 := Aside0.mk H
  clear H
  go_enter Try.func19, Try.ntmps19
  go_upto_region 1 with (fail)
  go_cut [9] (fun v9 wc => ∃ (kq : Nat) (x9_4 : Bool), v9 = .bool x9_4 ∧ Aside0 (wide_Cmp.j0 kq a0 a1 a2 a3 x9_4 = some r) ∧ Aside0 (kq ≤ k) ∧ Drawn0 w wc)
  case first =>
    have H := HC5.out
    clear HC5
    by_cases c6 : a0 < a2
    · rw [if_pos c6] at H
      have c6b0 : decide (a0 < a2) = true := decide_eq_true c6
      clear c6
      (first | rw [c6b0] | (simp only [i64_w, i32_w]; rw [c6b0]) | skip)
      have H' := Aside0.mk H
      clear H
      go_wp2
      go_meet
      case rel => exact ⟨_, (true), (by first | rfl | (simp; done) | (simp [*]; done)), H', ⟨by first | omega | exact Nat.le_refl _⟩, by repeat (first | exact Drawn0.refl _ | apply Drawn0.step)⟩
    · rw [if_neg c6] at H
      have c6b0 : decide (a0 < a2) = false := decide_eq_false c6
      clear c6
      (first | rw [c6b0] | (simp only [i64_w, i32_w]; rw [c6b0]) | skip)
      by_cases c7 : a0 = a2
      · rw [if_pos c7] at H
        have c7b0 : (a0 == a2) = true := beq_iff_eq.mpr c7
        have c7b1 : (a0 != a2) = false := bne_eq_false_iff_eq.mpr c7
        clear c7
        have H' := Aside0.mk H
        clear H
        go_wp2
        go_meet
        case rel => exact ⟨_, (decide (a1 < a3)), (by first | rfl | (simp; done) | (simp [*]; done)), H', ⟨by first | omega | exact Nat.le_refl _⟩, by repeat (first | exact Drawn0.refl _ | apply Drawn0.step)⟩
      · rw [if_neg c7] at H
        have c7b0 : (a0 == a2) = false := beq_eq_false_iff_ne.mpr c7
        have c7b1 : (a0 != a2) = true := bne_iff_ne.mpr c7
        have H' := Aside0.mk H
        clear H
        go_wp2
        go_meet
        case rel => exact ⟨_, (false), (by first | rfl | (simp; done) | (simp [*]; done)), H', ⟨by first | omega | exact Nat.le_refl _⟩, by repeat (first | exact Drawn0.refl _ | apply Drawn0.step)⟩
  case rest =>
    clear HC5
    try clear c1
    try clear p2
    try clear c6
    try clear c6b0
    try clear c7
    try clear c7b0
    try clear c7b1
    obtain ⟨kq, x9_4, rfl, HA, HJ4, ⟨mc4, rfl⟩⟩ := hcut
    cases kq with
    | zero => exact absurd HA.out (by simp [wide_Cmp.j0])
    | succ kj4 =>
      have H := HA.out
      clear HA
      simp only [wide_Cmp.j0] at H
      by_cases c8 : x9_4 = true
      · subst c8
        have H1 : (some (-1)) = some r := by rw [if_pos rfl] at H; exact H
        clear H
        have H := H1
        clear H1
        obtain rfl := Option.some.inj H
        go_wp2
        go_ret
        exact ⟨by first | rfl | (simp; done) | (simp [*]; done), by repeat (first | exact Drawn0.refl _ | apply Drawn0.step)⟩
      · replace c8 := Bool.eq_false_iff.mpr c8
        subst c8
        have H1 : (if a0 = a2 then (if a1 = a3 then (some 0) else (some 1)) else (some 1)) = some r := by rw [if_neg (show ¬ (false = true) by decide)] at H; exact H
        clear H
        have H := H1
        clear H1
        by_cases c9 : a0 = a2
        · rw [if_pos c9] at H
          have c9b0 : (a0 == a2) = true := beq_iff_eq.mpr c9
          have c9b1 : (a0 != a2) = false := bne_eq_false_iff_eq.mpr c9
          clear c9
          by_cases c10 : a1 = a3
          · rw [if_pos c10] at H
            have c10b0 : (a1 == a3) = true := beq_iff_eq.mpr c10
            have c10b1 : (a1 != a3) = false := bne_eq_false_iff_eq.mpr c10
            clear c10
            obtain rfl := Option.some.inj H
            go_wp2
            go_ret
            exact ⟨by first | rfl | (simp; done) | (simp [*]; done), by repeat (first | exact Drawn0.refl _ | apply Drawn0.step)⟩
          · rw [if_neg c10] at H
            have c10b0 : (a1 == a3) = false := beq_eq_false_iff_ne.mpr c10
            have c10b1 : (a1 != a3) = true := bne_iff_ne.mpr c10
            obtain rfl := Option.some.inj H
            go_wp2
            go_ret
            exact ⟨by first | rfl | (simp; done) | (simp [*]; done), by repeat (first | exact Drawn0.refl _ | apply Drawn0.step)⟩
        · rw [if_neg c9] at H
          have c9b0 : (a0 == a2) = false := beq_eq_false_iff_ne.mpr c9
          have c9b1 : (a0 != a2) = true := bne_iff_ne.mpr c9
          obtain rfl := Option.some.inj H
          go_wp2
          go_ret
          exact ⟨by first | rfl | (simp; done) | (simp [*]; done), by repeat (first | exact Drawn0.refl _ | apply Drawn0.step)⟩

-- NOT PRINTED: function 6 (plumblaw01_WideOrder)

end Go.Proofs.Ythinhdnbhkppgaa.PWideOrder
