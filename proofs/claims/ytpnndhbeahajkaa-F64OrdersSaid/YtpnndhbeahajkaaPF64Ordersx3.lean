/- Go functions as Lean functions and their contracts: each call comes to what the Lean function says; or a law's row out of them. No conditions. Written by this session's wip/hprint.py (the kit's print with contracts and repairs of my own). -/
import Derived.Test.YtpnndhbeahajkaaPF64Ordersx0
import Derived.Test.YtpnndhbeahajkaaPF64Ordersx1
import Derived.Test.YtpnndhbeahajkaaPF64Ordersx2
namespace Go.Proofs.Ytpnndhbeahajkaa.PF64Orders
open Go.RowKit Go.Proofs.YtpnndhbeahajkaaW.PrintWords Go.Proofs.YtpnndhbeahajkaaW.PrintLast Go.Proofs.YtpnndhbeahajkaaW.PrintMore
attribute [local go_sem] max2_int min2_int max_two min_two max_three min_three max_four min_four   -- for this text's walks alone
set_option linter.unusedVariables false
set_option linter.unusedSimpArgs false

/-! ### plumbref06_Cmp: function 27 -/
def plumbref06_Cmp.j0 : Nat → Int → Int → Bool → Option (Int × Int)
  | 0, _, _, _ => none
  | k + 1, x6, x8, x25 => if x25 = true then (some (0, 60)) else (if x6 < x8 then (some ((-1), 0)) else (if x6 > x8 then (some (1, 0)) else (some (0, 0))))
def plumbref06_Cmp.f (k : Nat) (a0 : Int) (a1 : Int) : Option (Int × Int) := (plumbref06_Rank.f a0).bind fun bt140 => ((plumbref06_Rank.f a1).bind fun bt142 => (if bt140.2 = 0 then (plumbref06_Cmp.j0 k bt140.1 bt142.1 (bt142.2 != 0)) else (plumbref06_Cmp.j0 k bt140.1 bt142.1 true)))
theorem plumbref06_Cmp.mono_l : ∀ k, (∀ y0 y1 y2, LeO (plumbref06_Cmp.j0 k y0 y1 y2) (plumbref06_Cmp.j0 (k + 1) y0 y1 y2))
  | 0 => fun _ _ _ r h => by simp [plumbref06_Cmp.j0] at h
  | k + 1 => by
    have ih0 := plumbref06_Cmp.mono_l k
    · intro y0 y1 y2
      unfold plumbref06_Cmp.j0
      repeat' first
      | (with_reducible exact ih0 _ _ _)
      | (with_reducible exact LeO.refl _)
      | (with_reducible exact LeO.none _)
      | (with_reducible refine LeO.ite ?_ ?_)
      | (with_reducible refine LeO.bind ?_ (fun _ => ?_))
      | exact ih0 _ _ _
      | exact LeO.none _
      | refine LeO.ite ?_ ?_
      | refine LeO.bind ?_ (fun _ => ?_)
theorem plumbref06_Cmp.mono : ∀ a0 a1 k, LeO (plumbref06_Cmp.f k a0 a1) (plumbref06_Cmp.f (k + 1) a0 a1) := by
  intro a0 a1 k
  have ih0 := plumbref06_Cmp.mono_l k
  unfold plumbref06_Cmp.f
  repeat' first
      | (with_reducible exact ih0 _ _ _)
      | (with_reducible exact LeO.refl _)
      | (with_reducible exact LeO.none _)
      | (with_reducible refine LeO.ite ?_ ?_)
      | (with_reducible refine LeO.bind ?_ (fun _ => ?_))
      | exact ih0 _ _ _
      | exact LeO.none _
      | refine LeO.ite ?_ ?_
      | refine LeO.bind ?_ (fun _ => ?_)
set_option maxHeartbeats 8000000 in
set_option maxRecDepth 100000 in
theorem plumbref06_Cmp.calls (k : Nat) (a0 : Int) (a1 : Int) (r1 : Int) (r2 : Int) (w : World) (h : plumbref06_Cmp.f k a0 a1 = some (r1, r2)) :
    Calls Try.prog 27 #[.int .u64 a0, .int .u64 a1] w fun e w' => e = .returned (.tuple #[.int .i64 r1, .int .i64 r2]) ∧ Drawn0 w w' := by
  have H : ((plumbref06_Rank.f a0).bind fun bt140 => ((plumbref06_Rank.f a1).bind fun bt142 => (if bt140.2 = 0 then (plumbref06_Cmp.j0 k bt140.1 bt142.1 (bt142.2 != 0)) else (plumbref06_Cmp.j0 k bt140.1 bt142.1 true)))) = some (r1, r2) := h
  clear h
  replace H := Option.bind_eq_some_iff.mp H
  obtain ⟨⟨t140, t141⟩, A30, H⟩ := H
  replace H : ((plumbref06_Rank.f a1).bind fun bt142 => (if t141 = 0 then (plumbref06_Cmp.j0 k t140 bt142.1 (bt142.2 != 0)) else (plumbref06_Cmp.j0 k t140 bt142.1 true))) = some (r1, r2) := H
  have A3 := Aside0.mk A30
  clear A30
  replace H := Option.bind_eq_some_iff.mp H
  obtain ⟨⟨t142, t143⟩, A40, H⟩ := H
  replace H : (if t141 = 0 then (plumbref06_Cmp.j0 k t140 t142 (t143 != 0)) else (plumbref06_Cmp.j0 k t140 t142 true)) = some (r1, r2) := H
  have A4 := Aside0.mk A40
  clear A40
  have HC5 := Aside0.mk H
  clear H
  go_enter Try.func27, Try.ntmps27
  go_upto_region 3 with (first | ((with_reducible refine gate_callee (f := 28) rfl ?_); refine goesL_ (some 12) rfl rfl Try.func28 (by kernel_rfl) rfl #[.int .u64 a0] rfl (by (try simp only [List.map_toArray, List.map_cons, List.map_nil]); first | done | rfl | (simp only [List.length_drop, List.length_take]; rfl)) ?_; (with_reducible refine (plumbref06_Rank.calls a0 t140 t141 _ A3.out).mono ?_); rintro e w' ⟨rfl, ⟨nd, rfl⟩⟩; refine ⟨_, rfl, ?_⟩) | ((with_reducible refine gate_callee (f := 28) rfl ?_); refine goesL_ (some 17) rfl rfl Try.func28 (by kernel_rfl) rfl #[.int .u64 a1] rfl (by (try simp only [List.map_toArray, List.map_cons, List.map_nil]); first | done | rfl | (simp only [List.length_drop, List.length_take]; rfl)) ?_; (with_reducible refine (plumbref06_Rank.calls a1 t142 t143 _ A4.out).mono ?_); rintro e w' ⟨rfl, ⟨nd, rfl⟩⟩; refine ⟨_, rfl, ?_⟩))
  (try simp only [Act.put, List.setIfInBounds_toArray, List.set_cons_zero, List.set_cons_succ])
  go_cut [25] (fun v25 wc => ∃ (kq : Nat) (x25_4 : Bool), v25 = .bool x25_4 ∧ Aside0 (plumbref06_Cmp.j0 kq t140 t142 x25_4 = some (r1, r2)) ∧ Aside0 (kq ≤ k) ∧ Drawn0 w wc)
  case first =>
    have H := HC5.out
    clear HC5
    by_cases c6 : t141 = 0
    · rw [if_pos c6] at H
      have c6b0 : (t141 == 0) = true := beq_iff_eq.mpr c6
      have c6b1 : (t141 != 0) = false := bne_eq_false_iff_eq.mpr c6
      clear c6
      (first | rw [c6b0] | (simp only [i64_w, i32_w]; rw [c6b0]) | skip)
      have H' := Aside0.mk H
      clear H
      go_wp2
      go_meet
      case rel => exact ⟨_, ((t143 != 0)), (by first | rfl | (simp; done) | (simp [*]; done)), H', ⟨by first | omega | exact Nat.le_refl _⟩, by repeat (first | exact Drawn0.refl _ | apply Drawn0.step)⟩
    · rw [if_neg c6] at H
      have c6b0 : (t141 == 0) = false := beq_eq_false_iff_ne.mpr c6
      have c6b1 : (t141 != 0) = true := bne_iff_ne.mpr c6
      (first | rw [c6b0] | (simp only [i64_w, i32_w]; rw [c6b0]) | skip)
      have H' := Aside0.mk H
      clear H
      go_wp2
      go_meet
      case rel => exact ⟨_, (true), (by first | rfl | (simp; done) | (simp [*]; done)), H', ⟨by first | omega | exact Nat.le_refl _⟩, by repeat (first | exact Drawn0.refl _ | apply Drawn0.step)⟩
  case rest =>
    clear HC5
    try clear c2
    try clear p2
    try clear c6
    try clear c6b0
    try clear c6b1
    obtain ⟨kq, x25_4, rfl, HA, HJ4, ⟨mc4, rfl⟩⟩ := hcut
    cases kq with
    | zero => exact absurd HA.out (by simp [plumbref06_Cmp.j0])
    | succ kj4 =>
      have H := HA.out
      clear HA
      simp only [plumbref06_Cmp.j0] at H
      by_cases c7 : x25_4 = true
      · subst c7
        have H1 : (some (0, 60)) = some (r1, r2) := by rw [if_pos rfl] at H; exact H
        clear H
        have H := H1
        clear H1
        simp only [Option.some.injEq, Prod.mk.injEq] at H
        obtain ⟨rfl, rfl⟩ := H
        go_wp2
        go_ret2
        exact ⟨by first | rfl | (simp; done) | (simp [*]; done), by repeat (first | exact Drawn0.refl _ | apply Drawn0.step)⟩
      · replace c7 := Bool.eq_false_iff.mpr c7
        subst c7
        have H1 : (if t140 < t142 then (some ((-1), 0)) else (if t140 > t142 then (some (1, 0)) else (some (0, 0)))) = some (r1, r2) := by rw [if_neg (show ¬ (false = true) by decide)] at H; exact H
        clear H
        have H := H1
        clear H1
        by_cases c8 : t140 < t142
        · rw [if_pos c8] at H
          have c8b0 : decide (t140 < t142) = true := decide_eq_true c8
          clear c8
          simp only [Option.some.injEq, Prod.mk.injEq] at H
          obtain ⟨rfl, rfl⟩ := H
          go_wp2
          go_ret2
          exact ⟨by first | rfl | (simp; done) | (simp [*]; done), by repeat (first | exact Drawn0.refl _ | apply Drawn0.step)⟩
        · rw [if_neg c8] at H
          have c8b0 : decide (t140 < t142) = false := decide_eq_false c8
          clear c8
          by_cases c9 : t140 > t142
          · rw [if_pos c9] at H
            have c9b0 : decide (t142 < t140) = true := decide_eq_true c9
            clear c9
            simp only [Option.some.injEq, Prod.mk.injEq] at H
            obtain ⟨rfl, rfl⟩ := H
            go_wp2
            go_ret2
            exact ⟨by first | rfl | (simp; done) | (simp [*]; done), by repeat (first | exact Drawn0.refl _ | apply Drawn0.step)⟩
          · rw [if_neg c9] at H
            have c9b0 : decide (t142 < t140) = false := decide_eq_false c9
            clear c9
            simp only [Option.some.injEq, Prod.mk.injEq] at H
            obtain ⟨rfl, rfl⟩ := H
            go_wp2
            go_ret2
            exact ⟨by first | rfl | (simp; done) | (simp [*]; done), by repeat (first | exact Drawn0.refl _ | apply Drawn0.step)⟩

/-! ### plumblaw06_F64Orders: function 8 -/
def plumblaw06_F64Orders.j0 : Nat → Int → Int → Int → Bool → Option (Bool)
  | 0, _, _, _, _ => none
  | k + 1, x0, x1, x2, x64 => if x64 = true then (some false) else ((f64_Cmp.f k x0 x1).bind fun bt153 => ((plumbref06_Cmp.f k x0 x1).bind fun bt155 => ((f64_Rank.f k x0).bind fun bt157 => ((plumbref06_Rank.f x0).bind fun bt159 => ((f64_At.f k x2).bind fun bt161 => ((plumbref06_At.f k x2).bind fun bt163 => (if bt153.1 = bt155.1 then (if bt153.2 = bt155.2 then (if bt157.1 = bt159.1 then (if bt157.2 = bt159.2 then (if bt161.1 = bt163.1 then (some (bt161.2 == bt163.2)) else (some false)) else (some false)) else (some false)) else (some false)) else (some false))))))))
def plumblaw06_F64Orders.f (k : Nat) (a0 : Int) (a1 : Int) (a2 : Int) : Option (Bool) := (f64_Next.f k a0).bind fun bt144 => ((plumbref06_Next.f k a0).bind fun bt146 => ((f64_Prev.f k a0).bind fun bt148 => ((plumbref06_Prev.f k a0).bind fun bt150 => ((plumblaw06_alive.f k).bind fun t152 => (if t152 = true then (if bt144.1 = bt146.1 then (if bt144.2 = bt146.2 then (if bt148.1 = bt150.1 then (plumblaw06_F64Orders.j0 k a0 a1 a2 (bt148.2 != bt150.2)) else (plumblaw06_F64Orders.j0 k a0 a1 a2 true)) else (plumblaw06_F64Orders.j0 k a0 a1 a2 true)) else (plumblaw06_F64Orders.j0 k a0 a1 a2 true)) else (plumblaw06_F64Orders.j0 k a0 a1 a2 true))))))
theorem plumblaw06_F64Orders.mono_l : ∀ k, (∀ y0 y1 y2 y3, LeO (plumblaw06_F64Orders.j0 k y0 y1 y2 y3) (plumblaw06_F64Orders.j0 (k + 1) y0 y1 y2 y3))
  | 0 => fun _ _ _ _ r h => by simp [plumblaw06_F64Orders.j0] at h
  | k + 1 => by
    have ih0 := plumblaw06_F64Orders.mono_l k
    · intro y0 y1 y2 y3
      unfold plumblaw06_F64Orders.j0
      repeat' first
      | (with_reducible exact ih0 _ _ _ _)
      | (with_reducible exact f64_At.mono _ _)
      | (with_reducible exact f64_Cmp.mono _ _ _)
      | (with_reducible exact f64_Next.mono _ _)
      | (with_reducible exact f64_Prev.mono _ _)
      | (with_reducible exact f64_Rank.mono _ _)
      | (with_reducible exact plumblaw06_alive.mono _)
      | (with_reducible exact plumbref06_At.mono _ _)
      | (with_reducible exact plumbref06_Cmp.mono _ _ _)
      | (with_reducible exact plumbref06_Next.mono _ _)
      | (with_reducible exact plumbref06_Prev.mono _ _)
      | (with_reducible exact LeO.refl _)
      | (with_reducible exact LeO.none _)
      | (with_reducible refine LeO.ite ?_ ?_)
      | (with_reducible refine LeO.bind ?_ (fun _ => ?_))
      | exact ih0 _ _ _ _
      | exact f64_At.mono _ _
      | exact f64_Cmp.mono _ _ _
      | exact f64_Next.mono _ _
      | exact f64_Prev.mono _ _
      | exact f64_Rank.mono _ _
      | exact plumblaw06_alive.mono _
      | exact plumbref06_At.mono _ _
      | exact plumbref06_Cmp.mono _ _ _
      | exact plumbref06_Next.mono _ _
      | exact plumbref06_Prev.mono _ _
      | exact LeO.none _
      | refine LeO.ite ?_ ?_
      | refine LeO.bind ?_ (fun _ => ?_)
theorem plumblaw06_F64Orders.mono : ∀ a0 a1 a2 k, LeO (plumblaw06_F64Orders.f k a0 a1 a2) (plumblaw06_F64Orders.f (k + 1) a0 a1 a2) := by
  intro a0 a1 a2 k
  have ih0 := plumblaw06_F64Orders.mono_l k
  unfold plumblaw06_F64Orders.f
  repeat' first
      | (with_reducible exact ih0 _ _ _ _)
      | (with_reducible exact f64_At.mono _ _)
      | (with_reducible exact f64_Cmp.mono _ _ _)
      | (with_reducible exact f64_Next.mono _ _)
      | (with_reducible exact f64_Prev.mono _ _)
      | (with_reducible exact f64_Rank.mono _ _)
      | (with_reducible exact plumblaw06_alive.mono _)
      | (with_reducible exact plumbref06_At.mono _ _)
      | (with_reducible exact plumbref06_Cmp.mono _ _ _)
      | (with_reducible exact plumbref06_Next.mono _ _)
      | (with_reducible exact plumbref06_Prev.mono _ _)
      | (with_reducible exact LeO.refl _)
      | (with_reducible exact LeO.none _)
      | (with_reducible refine LeO.ite ?_ ?_)
      | (with_reducible refine LeO.bind ?_ (fun _ => ?_))
      | exact ih0 _ _ _ _
      | exact f64_At.mono _ _
      | exact f64_Cmp.mono _ _ _
      | exact f64_Next.mono _ _
      | exact f64_Prev.mono _ _
      | exact f64_Rank.mono _ _
      | exact plumblaw06_alive.mono _
      | exact plumbref06_At.mono _ _
      | exact plumbref06_Cmp.mono _ _ _
      | exact plumbref06_Next.mono _ _
      | exact plumbref06_Prev.mono _ _
      | exact LeO.none _
      | refine LeO.ite ?_ ?_
      | refine LeO.bind ?_ (fun _ => ?_)
set_option maxHeartbeats 8000000 in
set_option maxRecDepth 100000 in
theorem plumblaw06_F64Orders.calls (k : Nat) (a0 : Int) (a1 : Int) (a2 : Int) (r : Bool) (w : World) (h : plumblaw06_F64Orders.f k a0 a1 a2 = some r) :
    Calls Try.prog 8 #[.int .u64 a0, .int .u64 a1, .int .i64 a2] w fun e w' => e = .returned (.bool r) ∧ Below w.heap.size w w' := by
  have HB := Aside0.mk (Below.refl w.heap.size w)
  have H : ((f64_Next.f k a0).bind fun bt144 => ((plumbref06_Next.f k a0).bind fun bt146 => ((f64_Prev.f k a0).bind fun bt148 => ((plumbref06_Prev.f k a0).bind fun bt150 => ((plumblaw06_alive.f k).bind fun t152 => (if t152 = true then (if bt144.1 = bt146.1 then (if bt144.2 = bt146.2 then (if bt148.1 = bt150.1 then (plumblaw06_F64Orders.j0 k a0 a1 a2 (bt148.2 != bt150.2)) else (plumblaw06_F64Orders.j0 k a0 a1 a2 true)) else (plumblaw06_F64Orders.j0 k a0 a1 a2 true)) else (plumblaw06_F64Orders.j0 k a0 a1 a2 true)) else (plumblaw06_F64Orders.j0 k a0 a1 a2 true))))))) = some r := h
  clear h
  replace H := Option.bind_eq_some_iff.mp H
  obtain ⟨⟨t144, t145⟩, A40, H⟩ := H
  replace H : ((plumbref06_Next.f k a0).bind fun bt146 => ((f64_Prev.f k a0).bind fun bt148 => ((plumbref06_Prev.f k a0).bind fun bt150 => ((plumblaw06_alive.f k).bind fun t152 => (if t152 = true then (if t144 = bt146.1 then (if t145 = bt146.2 then (if bt148.1 = bt150.1 then (plumblaw06_F64Orders.j0 k a0 a1 a2 (bt148.2 != bt150.2)) else (plumblaw06_F64Orders.j0 k a0 a1 a2 true)) else (plumblaw06_F64Orders.j0 k a0 a1 a2 true)) else (plumblaw06_F64Orders.j0 k a0 a1 a2 true)) else (plumblaw06_F64Orders.j0 k a0 a1 a2 true)))))) = some r := H
  have A4 := Aside0.mk A40
  clear A40
  replace H := Option.bind_eq_some_iff.mp H
  obtain ⟨⟨t146, t147⟩, A50, H⟩ := H
  replace H : ((f64_Prev.f k a0).bind fun bt148 => ((plumbref06_Prev.f k a0).bind fun bt150 => ((plumblaw06_alive.f k).bind fun t152 => (if t152 = true then (if t144 = t146 then (if t145 = t147 then (if bt148.1 = bt150.1 then (plumblaw06_F64Orders.j0 k a0 a1 a2 (bt148.2 != bt150.2)) else (plumblaw06_F64Orders.j0 k a0 a1 a2 true)) else (plumblaw06_F64Orders.j0 k a0 a1 a2 true)) else (plumblaw06_F64Orders.j0 k a0 a1 a2 true)) else (plumblaw06_F64Orders.j0 k a0 a1 a2 true))))) = some r := H
  have A5 := Aside0.mk A50
  clear A50
  replace H := Option.bind_eq_some_iff.mp H
  obtain ⟨⟨t148, t149⟩, A60, H⟩ := H
  replace H : ((plumbref06_Prev.f k a0).bind fun bt150 => ((plumblaw06_alive.f k).bind fun t152 => (if t152 = true then (if t144 = t146 then (if t145 = t147 then (if t148 = bt150.1 then (plumblaw06_F64Orders.j0 k a0 a1 a2 (t149 != bt150.2)) else (plumblaw06_F64Orders.j0 k a0 a1 a2 true)) else (plumblaw06_F64Orders.j0 k a0 a1 a2 true)) else (plumblaw06_F64Orders.j0 k a0 a1 a2 true)) else (plumblaw06_F64Orders.j0 k a0 a1 a2 true)))) = some r := H
  have A6 := Aside0.mk A60
  clear A60
  replace H := Option.bind_eq_some_iff.mp H
  obtain ⟨⟨t150, t151⟩, A70, H⟩ := H
  replace H : ((plumblaw06_alive.f k).bind fun t152 => (if t152 = true then (if t144 = t146 then (if t145 = t147 then (if t148 = t150 then (plumblaw06_F64Orders.j0 k a0 a1 a2 (t149 != t151)) else (plumblaw06_F64Orders.j0 k a0 a1 a2 true)) else (plumblaw06_F64Orders.j0 k a0 a1 a2 true)) else (plumblaw06_F64Orders.j0 k a0 a1 a2 true)) else (plumblaw06_F64Orders.j0 k a0 a1 a2 true))) = some r := H
  have A7 := Aside0.mk A70
  clear A70
  have HC8 := Aside0.mk H
  clear H
  go_enter Try.func8, Try.ntmps8
  go_upto_region 5 with (first | ((with_reducible refine gate_callee (f := 22) rfl ?_); refine goesL_ (some 25) rfl rfl Try.func22 (by kernel_rfl) rfl #[.int .u64 a0] rfl (by (try simp only [List.map_toArray, List.map_cons, List.map_nil]); first | done | rfl | (simp only [List.length_drop, List.length_take]; rfl)) ?_; (with_reducible refine (f64_Next.calls k a0 t144 t145 _ A4.out).mono ?_); rintro e w' ⟨rfl, ⟨nd, rfl⟩⟩; refine ⟨_, rfl, ?_⟩) | ((with_reducible refine gate_callee (f := 25) rfl ?_); refine goesL_ (some 30) rfl rfl Try.func25 (by kernel_rfl) rfl #[.int .u64 a0] rfl (by (try simp only [List.map_toArray, List.map_cons, List.map_nil]); first | done | rfl | (simp only [List.length_drop, List.length_take]; rfl)) ?_; (with_reducible refine (plumbref06_Next.calls k a0 t146 t147 _ A5.out).mono ?_); rintro e w' ⟨rfl, ⟨nd, rfl⟩⟩; refine ⟨_, rfl, ?_⟩) | ((with_reducible refine gate_callee (f := 24) rfl ?_); refine goesL_ (some 35) rfl rfl Try.func24 (by kernel_rfl) rfl #[.int .u64 a0] rfl (by (try simp only [List.map_toArray, List.map_cons, List.map_nil]); first | done | rfl | (simp only [List.length_drop, List.length_take]; rfl)) ?_; (with_reducible refine (f64_Prev.calls k a0 t148 t149 _ A6.out).mono ?_); rintro e w' ⟨rfl, ⟨nd, rfl⟩⟩; refine ⟨_, rfl, ?_⟩) | ((with_reducible refine gate_callee (f := 26) rfl ?_); refine goesL_ (some 40) rfl rfl Try.func26 (by kernel_rfl) rfl #[.int .u64 a0] rfl (by (try simp only [List.map_toArray, List.map_cons, List.map_nil]); first | done | rfl | (simp only [List.length_drop, List.length_take]; rfl)) ?_; (with_reducible refine (plumbref06_Prev.calls k a0 t150 t151 _ A7.out).mono ?_); rintro e w' ⟨rfl, ⟨nd, rfl⟩⟩; refine ⟨_, rfl, ?_⟩))
  (try simp only [Act.put, List.setIfInBounds_toArray, List.set_cons_zero, List.set_cons_succ])
  go_cut [64] (fun v64 wc => ∃ (kq : Nat) (x64_7 : Bool), v64 = .bool x64_7 ∧ Aside0 (plumblaw06_F64Orders.j0 kq a0 a1 a2 x64_7 = some r) ∧ Aside0 (kq ≤ k) ∧ Aside0 (Below w.heap.size w wc))
  case first =>
    have H := HC8.out
    clear HC8
    replace H := Option.bind_eq_some_iff.mp H
    obtain ⟨t152, A90, H⟩ := H
    replace H : (if t152 = true then (if t144 = t146 then (if t145 = t147 then (if t148 = t150 then (plumblaw06_F64Orders.j0 k a0 a1 a2 (t149 != t151)) else (plumblaw06_F64Orders.j0 k a0 a1 a2 true)) else (plumblaw06_F64Orders.j0 k a0 a1 a2 true)) else (plumblaw06_F64Orders.j0 k a0 a1 a2 true)) else (plumblaw06_F64Orders.j0 k a0 a1 a2 true)) = some r := H
    have A9 := Aside0.mk A90
    clear A90
    by_cases c10 : t152 = true
    · subst c10
      have H1 : (if t144 = t146 then (if t145 = t147 then (if t148 = t150 then (plumblaw06_F64Orders.j0 k a0 a1 a2 (t149 != t151)) else (plumblaw06_F64Orders.j0 k a0 a1 a2 true)) else (plumblaw06_F64Orders.j0 k a0 a1 a2 true)) else (plumblaw06_F64Orders.j0 k a0 a1 a2 true)) = some r := by rw [if_pos rfl] at H; exact H
      clear H
      have H := H1
      clear H1
      by_cases c11 : t144 = t146
      · rw [if_pos c11] at H
        have c11b0 : (t144 == t146) = true := beq_iff_eq.mpr c11
        have c11b1 : (t144 != t146) = false := bne_eq_false_iff_eq.mpr c11
        clear c11
        (first | rw [c11b0] | (simp only [i64_w, i32_w]; rw [c11b0]) | skip)
        by_cases c12 : t145 = t147
        · rw [if_pos c12] at H
          have c12b0 : (t145 == t147) = true := beq_iff_eq.mpr c12
          have c12b1 : (t145 != t147) = false := bne_eq_false_iff_eq.mpr c12
          clear c12
          by_cases c13 : t148 = t150
          · rw [if_pos c13] at H
            have c13b0 : (t148 == t150) = true := beq_iff_eq.mpr c13
            have c13b1 : (t148 != t150) = false := bne_eq_false_iff_eq.mpr c13
            clear c13
            have H' := Aside0.mk H
            clear H
            go_wp2_with (first | ((with_reducible refine gate_callee (f := 13) rfl ?_); refine goesL_ (some 43) rfl rfl Try.func13 (by kernel_rfl) rfl #[] rfl (by (try simp only [List.map_toArray, List.map_cons, List.map_nil]); first | done | rfl | (simp only [List.length_drop, List.length_take]; rfl)) ?_; (with_reducible refine (plumblaw06_alive.calls k  true _ A9.out).mono ?_); rintro e w14 ⟨rfl, hb⟩; refine ⟨_, rfl, ?_⟩; have n0_ := Aside0.mk (below_step (by repeat (first | (with_reducible first | exact HB.out | apply below_alloc | apply pw_below_drewN | apply below_drew1) | exact HB.out)) hb); clear HB; have HB := n0_; clear n0_; (try clear hb); (try clear hb2); (try clear hk); (try clear hi)))
            go_meet
            case rel => exact ⟨_, ((t149 != t151)), (by first | rfl | (simp; done) | (simp [*]; done)), H', ⟨by first | omega | exact Nat.le_refl _⟩, ⟨by repeat (first | (with_reducible first | exact HB.out | apply below_alloc | apply pw_below_drewN | apply below_drew1) | exact HB.out)⟩⟩
          · rw [if_neg c13] at H
            have c13b0 : (t148 == t150) = false := beq_eq_false_iff_ne.mpr c13
            have c13b1 : (t148 != t150) = true := bne_iff_ne.mpr c13
            have H' := Aside0.mk H
            clear H
            go_wp2_with (first | ((with_reducible refine gate_callee (f := 13) rfl ?_); refine goesL_ (some 43) rfl rfl Try.func13 (by kernel_rfl) rfl #[] rfl (by (try simp only [List.map_toArray, List.map_cons, List.map_nil]); first | done | rfl | (simp only [List.length_drop, List.length_take]; rfl)) ?_; (with_reducible refine (plumblaw06_alive.calls k  true _ A9.out).mono ?_); rintro e w15 ⟨rfl, hb⟩; refine ⟨_, rfl, ?_⟩; have n0_ := Aside0.mk (below_step (by repeat (first | (with_reducible first | exact HB.out | apply below_alloc | apply pw_below_drewN | apply below_drew1) | exact HB.out)) hb); clear HB; have HB := n0_; clear n0_; (try clear hb); (try clear hb2); (try clear hk); (try clear hi)))
            go_meet
            case rel => exact ⟨_, (true), (by first | rfl | (simp; done) | (simp [*]; done)), H', ⟨by first | omega | exact Nat.le_refl _⟩, ⟨by repeat (first | (with_reducible first | exact HB.out | apply below_alloc | apply pw_below_drewN | apply below_drew1) | exact HB.out)⟩⟩
        · rw [if_neg c12] at H
          have c12b0 : (t145 == t147) = false := beq_eq_false_iff_ne.mpr c12
          have c12b1 : (t145 != t147) = true := bne_iff_ne.mpr c12
          have H' := Aside0.mk H
          clear H
          go_wp2_with (first | ((with_reducible refine gate_callee (f := 13) rfl ?_); refine goesL_ (some 43) rfl rfl Try.func13 (by kernel_rfl) rfl #[] rfl (by (try simp only [List.map_toArray, List.map_cons, List.map_nil]); first | done | rfl | (simp only [List.length_drop, List.length_take]; rfl)) ?_; (with_reducible refine (plumblaw06_alive.calls k  true _ A9.out).mono ?_); rintro e w16 ⟨rfl, hb⟩; refine ⟨_, rfl, ?_⟩; have n0_ := Aside0.mk (below_step (by repeat (first | (with_reducible first | exact HB.out | apply below_alloc | apply pw_below_drewN | apply below_drew1) | exact HB.out)) hb); clear HB; have HB := n0_; clear n0_; (try clear hb); (try clear hb2); (try clear hk); (try clear hi)))
          go_meet
          case rel => exact ⟨_, (true), (by first | rfl | (simp; done) | (simp [*]; done)), H', ⟨by first | omega | exact Nat.le_refl _⟩, ⟨by repeat (first | (with_reducible first | exact HB.out | apply below_alloc | apply pw_below_drewN | apply below_drew1) | exact HB.out)⟩⟩
      · rw [if_neg c11] at H
        have c11b0 : (t144 == t146) = false := beq_eq_false_iff_ne.mpr c11
        have c11b1 : (t144 != t146) = true := bne_iff_ne.mpr c11
        (first | rw [c11b0] | (simp only [i64_w, i32_w]; rw [c11b0]) | skip)
        have H' := Aside0.mk H
        clear H
        go_wp2_with (first | ((with_reducible refine gate_callee (f := 13) rfl ?_); refine goesL_ (some 43) rfl rfl Try.func13 (by kernel_rfl) rfl #[] rfl (by (try simp only [List.map_toArray, List.map_cons, List.map_nil]); first | done | rfl | (simp only [List.length_drop, List.length_take]; rfl)) ?_; (with_reducible refine (plumblaw06_alive.calls k  true _ A9.out).mono ?_); rintro e w17 ⟨rfl, hb⟩; refine ⟨_, rfl, ?_⟩; have n0_ := Aside0.mk (below_step (by repeat (first | (with_reducible first | exact HB.out | apply below_alloc | apply pw_below_drewN | apply below_drew1) | exact HB.out)) hb); clear HB; have HB := n0_; clear n0_; (try clear hb); (try clear hb2); (try clear hk); (try clear hi)))
        go_meet
        case rel => exact ⟨_, (true), (by first | rfl | (simp; done) | (simp [*]; done)), H', ⟨by first | omega | exact Nat.le_refl _⟩, ⟨by repeat (first | (with_reducible first | exact HB.out | apply below_alloc | apply pw_below_drewN | apply below_drew1) | exact HB.out)⟩⟩
    · replace c10 := Bool.eq_false_iff.mpr c10
      subst c10
      have H1 : (plumblaw06_F64Orders.j0 k a0 a1 a2 true) = some r := by rw [if_neg (show ¬ (false = true) by decide)] at H; exact H
      clear H
      have H := H1
      clear H1
      have H' := Aside0.mk H
      clear H
      go_wp2_with (first | ((with_reducible refine gate_callee (f := 13) rfl ?_); refine goesL_ (some 43) rfl rfl Try.func13 (by kernel_rfl) rfl #[] rfl (by (try simp only [List.map_toArray, List.map_cons, List.map_nil]); first | done | rfl | (simp only [List.length_drop, List.length_take]; rfl)) ?_; (with_reducible refine (plumblaw06_alive.calls k  false _ A9.out).mono ?_); rintro e w18 ⟨rfl, hb⟩; refine ⟨_, rfl, ?_⟩; have n0_ := Aside0.mk (below_step (by repeat (first | (with_reducible first | exact HB.out | apply below_alloc | apply pw_below_drewN | apply below_drew1) | exact HB.out)) hb); clear HB; have HB := n0_; clear n0_; (try clear hb); (try clear hb2); (try clear hk); (try clear hi)))
      go_meet
      case rel => exact ⟨_, (true), (by first | rfl | (simp; done) | (simp [*]; done)), H', ⟨by first | omega | exact Nat.le_refl _⟩, ⟨by repeat (first | (with_reducible first | exact HB.out | apply below_alloc | apply pw_below_drewN | apply below_drew1) | exact HB.out)⟩⟩
  case rest =>
    clear HC8
    try clear c1
    try clear c2
    try clear p2
    try clear c8
    try clear c10
    try clear c11
    try clear c11b0
    try clear c11b1
    try clear c12
    try clear c12b0
    try clear c12b1
    try clear c13
    try clear c13b0
    try clear c13b1
    obtain ⟨kq, x64_7, rfl, HA, HJ7, HB⟩ := hcut
    cases kq with
    | zero => exact absurd HA.out (by simp [plumblaw06_F64Orders.j0])
    | succ kj7 =>
      have H := HA.out
      clear HA
      simp only [plumblaw06_F64Orders.j0] at H
      by_cases c19 : x64_7 = true
      · subst c19
        have H1 : (some false) = some r := by rw [if_pos rfl] at H; exact H
        clear H
        have H := H1
        clear H1
        obtain rfl := Option.some.inj H
        go_wp2
        go_ret
        exact ⟨by first | rfl | (simp [errW_none, errW_some] <;> rfl) | (simp [*, errW_none, errW_some] <;> rfl), by repeat (first | (with_reducible first | exact HB.out | apply below_alloc | apply pw_below_drewN | apply below_drew1) | exact HB.out)⟩
      · replace c19 := Bool.eq_false_iff.mpr c19
        subst c19
        have H1 : ((f64_Cmp.f kj7 a0 a1).bind fun bt153 => ((plumbref06_Cmp.f kj7 a0 a1).bind fun bt155 => ((f64_Rank.f kj7 a0).bind fun bt157 => ((plumbref06_Rank.f a0).bind fun bt159 => ((f64_At.f kj7 a2).bind fun bt161 => ((plumbref06_At.f kj7 a2).bind fun bt163 => (if bt153.1 = bt155.1 then (if bt153.2 = bt155.2 then (if bt157.1 = bt159.1 then (if bt157.2 = bt159.2 then (if bt161.1 = bt163.1 then (some (bt161.2 == bt163.2)) else (some false)) else (some false)) else (some false)) else (some false)) else (some false)))))))) = some r := by rw [if_neg (show ¬ (false = true) by decide)] at H; exact H
        clear H
        have H := H1
        clear H1
        replace H := Option.bind_eq_some_iff.mp H
        obtain ⟨⟨t153, t154⟩, A200, H⟩ := H
        replace H : ((plumbref06_Cmp.f kj7 a0 a1).bind fun bt155 => ((f64_Rank.f kj7 a0).bind fun bt157 => ((plumbref06_Rank.f a0).bind fun bt159 => ((f64_At.f kj7 a2).bind fun bt161 => ((plumbref06_At.f kj7 a2).bind fun bt163 => (if t153 = bt155.1 then (if t154 = bt155.2 then (if bt157.1 = bt159.1 then (if bt157.2 = bt159.2 then (if bt161.1 = bt163.1 then (some (bt161.2 == bt163.2)) else (some false)) else (some false)) else (some false)) else (some false)) else (some false))))))) = some r := H
        have A20 := Aside0.mk A200
        clear A200
        replace H := Option.bind_eq_some_iff.mp H
        obtain ⟨⟨t155, t156⟩, A210, H⟩ := H
        replace H : ((f64_Rank.f kj7 a0).bind fun bt157 => ((plumbref06_Rank.f a0).bind fun bt159 => ((f64_At.f kj7 a2).bind fun bt161 => ((plumbref06_At.f kj7 a2).bind fun bt163 => (if t153 = t155 then (if t154 = t156 then (if bt157.1 = bt159.1 then (if bt157.2 = bt159.2 then (if bt161.1 = bt163.1 then (some (bt161.2 == bt163.2)) else (some false)) else (some false)) else (some false)) else (some false)) else (some false)))))) = some r := H
        have A21 := Aside0.mk A210
        clear A210
        replace H := Option.bind_eq_some_iff.mp H
        obtain ⟨⟨t157, t158⟩, A220, H⟩ := H
        replace H : ((plumbref06_Rank.f a0).bind fun bt159 => ((f64_At.f kj7 a2).bind fun bt161 => ((plumbref06_At.f kj7 a2).bind fun bt163 => (if t153 = t155 then (if t154 = t156 then (if t157 = bt159.1 then (if t158 = bt159.2 then (if bt161.1 = bt163.1 then (some (bt161.2 == bt163.2)) else (some false)) else (some false)) else (some false)) else (some false)) else (some false))))) = some r := H
        have A22 := Aside0.mk A220
        clear A220
        replace H := Option.bind_eq_some_iff.mp H
        obtain ⟨⟨t159, t160⟩, A230, H⟩ := H
        replace H : ((f64_At.f kj7 a2).bind fun bt161 => ((plumbref06_At.f kj7 a2).bind fun bt163 => (if t153 = t155 then (if t154 = t156 then (if t157 = t159 then (if t158 = t160 then (if bt161.1 = bt163.1 then (some (bt161.2 == bt163.2)) else (some false)) else (some false)) else (some false)) else (some false)) else (some false)))) = some r := H
        have A23 := Aside0.mk A230
        clear A230
        replace H := Option.bind_eq_some_iff.mp H
        obtain ⟨⟨t161, t162⟩, A240, H⟩ := H
        replace H : ((plumbref06_At.f kj7 a2).bind fun bt163 => (if t153 = t155 then (if t154 = t156 then (if t157 = t159 then (if t158 = t160 then (if t161 = bt163.1 then (some (t162 == bt163.2)) else (some false)) else (some false)) else (some false)) else (some false)) else (some false))) = some r := H
        have A24 := Aside0.mk A240
        clear A240
        replace H := Option.bind_eq_some_iff.mp H
        obtain ⟨⟨t163, t164⟩, A250, H⟩ := H
        replace H : (if t153 = t155 then (if t154 = t156 then (if t157 = t159 then (if t158 = t160 then (if t161 = t163 then (some (t162 == t164)) else (some false)) else (some false)) else (some false)) else (some false)) else (some false)) = some r := H
        have A25 := Aside0.mk A250
        clear A250
        by_cases c26 : t153 = t155
        · rw [if_pos c26] at H
          have c26b0 : (t153 == t155) = true := beq_iff_eq.mpr c26
          have c26b1 : (t153 != t155) = false := bne_eq_false_iff_eq.mpr c26
          clear c26
          by_cases c27 : t154 = t156
          · rw [if_pos c27] at H
            have c27b0 : (t154 == t156) = true := beq_iff_eq.mpr c27
            have c27b1 : (t154 != t156) = false := bne_eq_false_iff_eq.mpr c27
            clear c27
            by_cases c28 : t157 = t159
            · rw [if_pos c28] at H
              have c28b0 : (t157 == t159) = true := beq_iff_eq.mpr c28
              have c28b1 : (t157 != t159) = false := bne_eq_false_iff_eq.mpr c28
              clear c28
              by_cases c29 : t158 = t160
              · rw [if_pos c29] at H
                have c29b0 : (t158 == t160) = true := beq_iff_eq.mpr c29
                have c29b1 : (t158 != t160) = false := bne_eq_false_iff_eq.mpr c29
                clear c29
                by_cases c30 : t161 = t163
                · rw [if_pos c30] at H
                  have c30b0 : (t161 == t163) = true := beq_iff_eq.mpr c30
                  have c30b1 : (t161 != t163) = false := bne_eq_false_iff_eq.mpr c30
                  clear c30
                  obtain rfl := Option.some.inj H
                  go_wp2_with (first | ((with_reducible refine gate_callee (f := 23) rfl ?_); refine goesL_ (some 68) rfl rfl Try.func23 (by kernel_rfl) rfl #[.int .u64 a0, .int .u64 a1] rfl (by (try simp only [List.map_toArray, List.map_cons, List.map_nil]); first | done | rfl | (simp only [List.length_drop, List.length_take]; rfl)) ?_; (with_reducible refine (f64_Cmp.calls kj7 a0 a1 t153 t154 _ A20.out).mono ?_); rintro e w' ⟨rfl, ⟨nd, rfl⟩⟩; refine ⟨_, rfl, ?_⟩) | ((with_reducible refine gate_callee (f := 27) rfl ?_); refine goesL_ (some 74) rfl rfl Try.func27 (by kernel_rfl) rfl #[.int .u64 a0, .int .u64 a1] rfl (by (try simp only [List.map_toArray, List.map_cons, List.map_nil]); first | done | rfl | (simp only [List.length_drop, List.length_take]; rfl)) ?_; (with_reducible refine (plumbref06_Cmp.calls kj7 a0 a1 t155 t156 _ A21.out).mono ?_); rintro e w' ⟨rfl, ⟨nd, rfl⟩⟩; refine ⟨_, rfl, ?_⟩) | ((with_reducible refine gate_callee (f := 20) rfl ?_); refine goesL_ (some 79) rfl rfl Try.func20 (by kernel_rfl) rfl #[.int .u64 a0] rfl (by (try simp only [List.map_toArray, List.map_cons, List.map_nil]); first | done | rfl | (simp only [List.length_drop, List.length_take]; rfl)) ?_; (with_reducible refine (f64_Rank.calls kj7 a0 t157 t158 _ A22.out).mono ?_); rintro e w' ⟨rfl, ⟨nd, rfl⟩⟩; refine ⟨_, rfl, ?_⟩) | ((with_reducible refine gate_callee (f := 28) rfl ?_); refine goesL_ (some 84) rfl rfl Try.func28 (by kernel_rfl) rfl #[.int .u64 a0] rfl (by (try simp only [List.map_toArray, List.map_cons, List.map_nil]); first | done | rfl | (simp only [List.length_drop, List.length_take]; rfl)) ?_; (with_reducible refine (plumbref06_Rank.calls a0 t159 t160 _ A23.out).mono ?_); rintro e w' ⟨rfl, ⟨nd, rfl⟩⟩; refine ⟨_, rfl, ?_⟩) | ((with_reducible refine gate_callee (f := 21) rfl ?_); refine goesL_ (some 89) rfl rfl Try.func21 (by kernel_rfl) rfl #[.int .i64 a2] rfl (by (try simp only [List.map_toArray, List.map_cons, List.map_nil]); first | done | rfl | (simp only [List.length_drop, List.length_take]; rfl)) ?_; (with_reducible refine (f64_At.calls kj7 a2 t161 t162 _ A24.out).mono ?_); rintro e w' ⟨rfl, ⟨nd, rfl⟩⟩; refine ⟨_, rfl, ?_⟩) | ((with_reducible refine gate_callee (f := 29) rfl ?_); refine goesL_ (some 94) rfl rfl Try.func29 (by kernel_rfl) rfl #[.int .i64 a2] rfl (by (try simp only [List.map_toArray, List.map_cons, List.map_nil]); first | done | rfl | (simp only [List.length_drop, List.length_take]; rfl)) ?_; (with_reducible refine (plumbref06_At.calls kj7 a2 t163 t164 _ A25.out).mono ?_); rintro e w' ⟨rfl, ⟨nd, rfl⟩⟩; refine ⟨_, rfl, ?_⟩))
                  go_ret
                  exact ⟨by first | rfl | (simp [errW_none, errW_some] <;> rfl) | (simp [*, errW_none, errW_some] <;> rfl), by repeat (first | (with_reducible first | exact HB.out | apply below_alloc | apply pw_below_drewN | apply below_drew1) | exact HB.out)⟩
                · rw [if_neg c30] at H
                  have c30b0 : (t161 == t163) = false := beq_eq_false_iff_ne.mpr c30
                  have c30b1 : (t161 != t163) = true := bne_iff_ne.mpr c30
                  obtain rfl := Option.some.inj H
                  go_wp2_with (first | ((with_reducible refine gate_callee (f := 23) rfl ?_); refine goesL_ (some 68) rfl rfl Try.func23 (by kernel_rfl) rfl #[.int .u64 a0, .int .u64 a1] rfl (by (try simp only [List.map_toArray, List.map_cons, List.map_nil]); first | done | rfl | (simp only [List.length_drop, List.length_take]; rfl)) ?_; (with_reducible refine (f64_Cmp.calls kj7 a0 a1 t153 t154 _ A20.out).mono ?_); rintro e w' ⟨rfl, ⟨nd, rfl⟩⟩; refine ⟨_, rfl, ?_⟩) | ((with_reducible refine gate_callee (f := 27) rfl ?_); refine goesL_ (some 74) rfl rfl Try.func27 (by kernel_rfl) rfl #[.int .u64 a0, .int .u64 a1] rfl (by (try simp only [List.map_toArray, List.map_cons, List.map_nil]); first | done | rfl | (simp only [List.length_drop, List.length_take]; rfl)) ?_; (with_reducible refine (plumbref06_Cmp.calls kj7 a0 a1 t155 t156 _ A21.out).mono ?_); rintro e w' ⟨rfl, ⟨nd, rfl⟩⟩; refine ⟨_, rfl, ?_⟩) | ((with_reducible refine gate_callee (f := 20) rfl ?_); refine goesL_ (some 79) rfl rfl Try.func20 (by kernel_rfl) rfl #[.int .u64 a0] rfl (by (try simp only [List.map_toArray, List.map_cons, List.map_nil]); first | done | rfl | (simp only [List.length_drop, List.length_take]; rfl)) ?_; (with_reducible refine (f64_Rank.calls kj7 a0 t157 t158 _ A22.out).mono ?_); rintro e w' ⟨rfl, ⟨nd, rfl⟩⟩; refine ⟨_, rfl, ?_⟩) | ((with_reducible refine gate_callee (f := 28) rfl ?_); refine goesL_ (some 84) rfl rfl Try.func28 (by kernel_rfl) rfl #[.int .u64 a0] rfl (by (try simp only [List.map_toArray, List.map_cons, List.map_nil]); first | done | rfl | (simp only [List.length_drop, List.length_take]; rfl)) ?_; (with_reducible refine (plumbref06_Rank.calls a0 t159 t160 _ A23.out).mono ?_); rintro e w' ⟨rfl, ⟨nd, rfl⟩⟩; refine ⟨_, rfl, ?_⟩) | ((with_reducible refine gate_callee (f := 21) rfl ?_); refine goesL_ (some 89) rfl rfl Try.func21 (by kernel_rfl) rfl #[.int .i64 a2] rfl (by (try simp only [List.map_toArray, List.map_cons, List.map_nil]); first | done | rfl | (simp only [List.length_drop, List.length_take]; rfl)) ?_; (with_reducible refine (f64_At.calls kj7 a2 t161 t162 _ A24.out).mono ?_); rintro e w' ⟨rfl, ⟨nd, rfl⟩⟩; refine ⟨_, rfl, ?_⟩) | ((with_reducible refine gate_callee (f := 29) rfl ?_); refine goesL_ (some 94) rfl rfl Try.func29 (by kernel_rfl) rfl #[.int .i64 a2] rfl (by (try simp only [List.map_toArray, List.map_cons, List.map_nil]); first | done | rfl | (simp only [List.length_drop, List.length_take]; rfl)) ?_; (with_reducible refine (plumbref06_At.calls kj7 a2 t163 t164 _ A25.out).mono ?_); rintro e w' ⟨rfl, ⟨nd, rfl⟩⟩; refine ⟨_, rfl, ?_⟩))
                  go_ret
                  exact ⟨by first | rfl | (simp [errW_none, errW_some] <;> rfl) | (simp [*, errW_none, errW_some] <;> rfl), by repeat (first | (with_reducible first | exact HB.out | apply below_alloc | apply pw_below_drewN | apply below_drew1) | exact HB.out)⟩
              · rw [if_neg c29] at H
                have c29b0 : (t158 == t160) = false := beq_eq_false_iff_ne.mpr c29
                have c29b1 : (t158 != t160) = true := bne_iff_ne.mpr c29
                obtain rfl := Option.some.inj H
                go_wp2_with (first | ((with_reducible refine gate_callee (f := 23) rfl ?_); refine goesL_ (some 68) rfl rfl Try.func23 (by kernel_rfl) rfl #[.int .u64 a0, .int .u64 a1] rfl (by (try simp only [List.map_toArray, List.map_cons, List.map_nil]); first | done | rfl | (simp only [List.length_drop, List.length_take]; rfl)) ?_; (with_reducible refine (f64_Cmp.calls kj7 a0 a1 t153 t154 _ A20.out).mono ?_); rintro e w' ⟨rfl, ⟨nd, rfl⟩⟩; refine ⟨_, rfl, ?_⟩) | ((with_reducible refine gate_callee (f := 27) rfl ?_); refine goesL_ (some 74) rfl rfl Try.func27 (by kernel_rfl) rfl #[.int .u64 a0, .int .u64 a1] rfl (by (try simp only [List.map_toArray, List.map_cons, List.map_nil]); first | done | rfl | (simp only [List.length_drop, List.length_take]; rfl)) ?_; (with_reducible refine (plumbref06_Cmp.calls kj7 a0 a1 t155 t156 _ A21.out).mono ?_); rintro e w' ⟨rfl, ⟨nd, rfl⟩⟩; refine ⟨_, rfl, ?_⟩) | ((with_reducible refine gate_callee (f := 20) rfl ?_); refine goesL_ (some 79) rfl rfl Try.func20 (by kernel_rfl) rfl #[.int .u64 a0] rfl (by (try simp only [List.map_toArray, List.map_cons, List.map_nil]); first | done | rfl | (simp only [List.length_drop, List.length_take]; rfl)) ?_; (with_reducible refine (f64_Rank.calls kj7 a0 t157 t158 _ A22.out).mono ?_); rintro e w' ⟨rfl, ⟨nd, rfl⟩⟩; refine ⟨_, rfl, ?_⟩) | ((with_reducible refine gate_callee (f := 28) rfl ?_); refine goesL_ (some 84) rfl rfl Try.func28 (by kernel_rfl) rfl #[.int .u64 a0] rfl (by (try simp only [List.map_toArray, List.map_cons, List.map_nil]); first | done | rfl | (simp only [List.length_drop, List.length_take]; rfl)) ?_; (with_reducible refine (plumbref06_Rank.calls a0 t159 t160 _ A23.out).mono ?_); rintro e w' ⟨rfl, ⟨nd, rfl⟩⟩; refine ⟨_, rfl, ?_⟩) | ((with_reducible refine gate_callee (f := 21) rfl ?_); refine goesL_ (some 89) rfl rfl Try.func21 (by kernel_rfl) rfl #[.int .i64 a2] rfl (by (try simp only [List.map_toArray, List.map_cons, List.map_nil]); first | done | rfl | (simp only [List.length_drop, List.length_take]; rfl)) ?_; (with_reducible refine (f64_At.calls kj7 a2 t161 t162 _ A24.out).mono ?_); rintro e w' ⟨rfl, ⟨nd, rfl⟩⟩; refine ⟨_, rfl, ?_⟩) | ((with_reducible refine gate_callee (f := 29) rfl ?_); refine goesL_ (some 94) rfl rfl Try.func29 (by kernel_rfl) rfl #[.int .i64 a2] rfl (by (try simp only [List.map_toArray, List.map_cons, List.map_nil]); first | done | rfl | (simp only [List.length_drop, List.length_take]; rfl)) ?_; (with_reducible refine (plumbref06_At.calls kj7 a2 t163 t164 _ A25.out).mono ?_); rintro e w' ⟨rfl, ⟨nd, rfl⟩⟩; refine ⟨_, rfl, ?_⟩))
                go_ret
                exact ⟨by first | rfl | (simp [errW_none, errW_some] <;> rfl) | (simp [*, errW_none, errW_some] <;> rfl), by repeat (first | (with_reducible first | exact HB.out | apply below_alloc | apply pw_below_drewN | apply below_drew1) | exact HB.out)⟩
            · rw [if_neg c28] at H
              have c28b0 : (t157 == t159) = false := beq_eq_false_iff_ne.mpr c28
              have c28b1 : (t157 != t159) = true := bne_iff_ne.mpr c28
              obtain rfl := Option.some.inj H
              go_wp2_with (first | ((with_reducible refine gate_callee (f := 23) rfl ?_); refine goesL_ (some 68) rfl rfl Try.func23 (by kernel_rfl) rfl #[.int .u64 a0, .int .u64 a1] rfl (by (try simp only [List.map_toArray, List.map_cons, List.map_nil]); first | done | rfl | (simp only [List.length_drop, List.length_take]; rfl)) ?_; (with_reducible refine (f64_Cmp.calls kj7 a0 a1 t153 t154 _ A20.out).mono ?_); rintro e w' ⟨rfl, ⟨nd, rfl⟩⟩; refine ⟨_, rfl, ?_⟩) | ((with_reducible refine gate_callee (f := 27) rfl ?_); refine goesL_ (some 74) rfl rfl Try.func27 (by kernel_rfl) rfl #[.int .u64 a0, .int .u64 a1] rfl (by (try simp only [List.map_toArray, List.map_cons, List.map_nil]); first | done | rfl | (simp only [List.length_drop, List.length_take]; rfl)) ?_; (with_reducible refine (plumbref06_Cmp.calls kj7 a0 a1 t155 t156 _ A21.out).mono ?_); rintro e w' ⟨rfl, ⟨nd, rfl⟩⟩; refine ⟨_, rfl, ?_⟩) | ((with_reducible refine gate_callee (f := 20) rfl ?_); refine goesL_ (some 79) rfl rfl Try.func20 (by kernel_rfl) rfl #[.int .u64 a0] rfl (by (try simp only [List.map_toArray, List.map_cons, List.map_nil]); first | done | rfl | (simp only [List.length_drop, List.length_take]; rfl)) ?_; (with_reducible refine (f64_Rank.calls kj7 a0 t157 t158 _ A22.out).mono ?_); rintro e w' ⟨rfl, ⟨nd, rfl⟩⟩; refine ⟨_, rfl, ?_⟩) | ((with_reducible refine gate_callee (f := 28) rfl ?_); refine goesL_ (some 84) rfl rfl Try.func28 (by kernel_rfl) rfl #[.int .u64 a0] rfl (by (try simp only [List.map_toArray, List.map_cons, List.map_nil]); first | done | rfl | (simp only [List.length_drop, List.length_take]; rfl)) ?_; (with_reducible refine (plumbref06_Rank.calls a0 t159 t160 _ A23.out).mono ?_); rintro e w' ⟨rfl, ⟨nd, rfl⟩⟩; refine ⟨_, rfl, ?_⟩) | ((with_reducible refine gate_callee (f := 21) rfl ?_); refine goesL_ (some 89) rfl rfl Try.func21 (by kernel_rfl) rfl #[.int .i64 a2] rfl (by (try simp only [List.map_toArray, List.map_cons, List.map_nil]); first | done | rfl | (simp only [List.length_drop, List.length_take]; rfl)) ?_; (with_reducible refine (f64_At.calls kj7 a2 t161 t162 _ A24.out).mono ?_); rintro e w' ⟨rfl, ⟨nd, rfl⟩⟩; refine ⟨_, rfl, ?_⟩) | ((with_reducible refine gate_callee (f := 29) rfl ?_); refine goesL_ (some 94) rfl rfl Try.func29 (by kernel_rfl) rfl #[.int .i64 a2] rfl (by (try simp only [List.map_toArray, List.map_cons, List.map_nil]); first | done | rfl | (simp only [List.length_drop, List.length_take]; rfl)) ?_; (with_reducible refine (plumbref06_At.calls kj7 a2 t163 t164 _ A25.out).mono ?_); rintro e w' ⟨rfl, ⟨nd, rfl⟩⟩; refine ⟨_, rfl, ?_⟩))
              go_ret
              exact ⟨by first | rfl | (simp [errW_none, errW_some] <;> rfl) | (simp [*, errW_none, errW_some] <;> rfl), by repeat (first | (with_reducible first | exact HB.out | apply below_alloc | apply pw_below_drewN | apply below_drew1) | exact HB.out)⟩
          · rw [if_neg c27] at H
            have c27b0 : (t154 == t156) = false := beq_eq_false_iff_ne.mpr c27
            have c27b1 : (t154 != t156) = true := bne_iff_ne.mpr c27
            obtain rfl := Option.some.inj H
            go_wp2_with (first | ((with_reducible refine gate_callee (f := 23) rfl ?_); refine goesL_ (some 68) rfl rfl Try.func23 (by kernel_rfl) rfl #[.int .u64 a0, .int .u64 a1] rfl (by (try simp only [List.map_toArray, List.map_cons, List.map_nil]); first | done | rfl | (simp only [List.length_drop, List.length_take]; rfl)) ?_; (with_reducible refine (f64_Cmp.calls kj7 a0 a1 t153 t154 _ A20.out).mono ?_); rintro e w' ⟨rfl, ⟨nd, rfl⟩⟩; refine ⟨_, rfl, ?_⟩) | ((with_reducible refine gate_callee (f := 27) rfl ?_); refine goesL_ (some 74) rfl rfl Try.func27 (by kernel_rfl) rfl #[.int .u64 a0, .int .u64 a1] rfl (by (try simp only [List.map_toArray, List.map_cons, List.map_nil]); first | done | rfl | (simp only [List.length_drop, List.length_take]; rfl)) ?_; (with_reducible refine (plumbref06_Cmp.calls kj7 a0 a1 t155 t156 _ A21.out).mono ?_); rintro e w' ⟨rfl, ⟨nd, rfl⟩⟩; refine ⟨_, rfl, ?_⟩) | ((with_reducible refine gate_callee (f := 20) rfl ?_); refine goesL_ (some 79) rfl rfl Try.func20 (by kernel_rfl) rfl #[.int .u64 a0] rfl (by (try simp only [List.map_toArray, List.map_cons, List.map_nil]); first | done | rfl | (simp only [List.length_drop, List.length_take]; rfl)) ?_; (with_reducible refine (f64_Rank.calls kj7 a0 t157 t158 _ A22.out).mono ?_); rintro e w' ⟨rfl, ⟨nd, rfl⟩⟩; refine ⟨_, rfl, ?_⟩) | ((with_reducible refine gate_callee (f := 28) rfl ?_); refine goesL_ (some 84) rfl rfl Try.func28 (by kernel_rfl) rfl #[.int .u64 a0] rfl (by (try simp only [List.map_toArray, List.map_cons, List.map_nil]); first | done | rfl | (simp only [List.length_drop, List.length_take]; rfl)) ?_; (with_reducible refine (plumbref06_Rank.calls a0 t159 t160 _ A23.out).mono ?_); rintro e w' ⟨rfl, ⟨nd, rfl⟩⟩; refine ⟨_, rfl, ?_⟩) | ((with_reducible refine gate_callee (f := 21) rfl ?_); refine goesL_ (some 89) rfl rfl Try.func21 (by kernel_rfl) rfl #[.int .i64 a2] rfl (by (try simp only [List.map_toArray, List.map_cons, List.map_nil]); first | done | rfl | (simp only [List.length_drop, List.length_take]; rfl)) ?_; (with_reducible refine (f64_At.calls kj7 a2 t161 t162 _ A24.out).mono ?_); rintro e w' ⟨rfl, ⟨nd, rfl⟩⟩; refine ⟨_, rfl, ?_⟩) | ((with_reducible refine gate_callee (f := 29) rfl ?_); refine goesL_ (some 94) rfl rfl Try.func29 (by kernel_rfl) rfl #[.int .i64 a2] rfl (by (try simp only [List.map_toArray, List.map_cons, List.map_nil]); first | done | rfl | (simp only [List.length_drop, List.length_take]; rfl)) ?_; (with_reducible refine (plumbref06_At.calls kj7 a2 t163 t164 _ A25.out).mono ?_); rintro e w' ⟨rfl, ⟨nd, rfl⟩⟩; refine ⟨_, rfl, ?_⟩))
            go_ret
            exact ⟨by first | rfl | (simp [errW_none, errW_some] <;> rfl) | (simp [*, errW_none, errW_some] <;> rfl), by repeat (first | (with_reducible first | exact HB.out | apply below_alloc | apply pw_below_drewN | apply below_drew1) | exact HB.out)⟩
        · rw [if_neg c26] at H
          have c26b0 : (t153 == t155) = false := beq_eq_false_iff_ne.mpr c26
          have c26b1 : (t153 != t155) = true := bne_iff_ne.mpr c26
          obtain rfl := Option.some.inj H
          go_wp2_with (first | ((with_reducible refine gate_callee (f := 23) rfl ?_); refine goesL_ (some 68) rfl rfl Try.func23 (by kernel_rfl) rfl #[.int .u64 a0, .int .u64 a1] rfl (by (try simp only [List.map_toArray, List.map_cons, List.map_nil]); first | done | rfl | (simp only [List.length_drop, List.length_take]; rfl)) ?_; (with_reducible refine (f64_Cmp.calls kj7 a0 a1 t153 t154 _ A20.out).mono ?_); rintro e w' ⟨rfl, ⟨nd, rfl⟩⟩; refine ⟨_, rfl, ?_⟩) | ((with_reducible refine gate_callee (f := 27) rfl ?_); refine goesL_ (some 74) rfl rfl Try.func27 (by kernel_rfl) rfl #[.int .u64 a0, .int .u64 a1] rfl (by (try simp only [List.map_toArray, List.map_cons, List.map_nil]); first | done | rfl | (simp only [List.length_drop, List.length_take]; rfl)) ?_; (with_reducible refine (plumbref06_Cmp.calls kj7 a0 a1 t155 t156 _ A21.out).mono ?_); rintro e w' ⟨rfl, ⟨nd, rfl⟩⟩; refine ⟨_, rfl, ?_⟩) | ((with_reducible refine gate_callee (f := 20) rfl ?_); refine goesL_ (some 79) rfl rfl Try.func20 (by kernel_rfl) rfl #[.int .u64 a0] rfl (by (try simp only [List.map_toArray, List.map_cons, List.map_nil]); first | done | rfl | (simp only [List.length_drop, List.length_take]; rfl)) ?_; (with_reducible refine (f64_Rank.calls kj7 a0 t157 t158 _ A22.out).mono ?_); rintro e w' ⟨rfl, ⟨nd, rfl⟩⟩; refine ⟨_, rfl, ?_⟩) | ((with_reducible refine gate_callee (f := 28) rfl ?_); refine goesL_ (some 84) rfl rfl Try.func28 (by kernel_rfl) rfl #[.int .u64 a0] rfl (by (try simp only [List.map_toArray, List.map_cons, List.map_nil]); first | done | rfl | (simp only [List.length_drop, List.length_take]; rfl)) ?_; (with_reducible refine (plumbref06_Rank.calls a0 t159 t160 _ A23.out).mono ?_); rintro e w' ⟨rfl, ⟨nd, rfl⟩⟩; refine ⟨_, rfl, ?_⟩) | ((with_reducible refine gate_callee (f := 21) rfl ?_); refine goesL_ (some 89) rfl rfl Try.func21 (by kernel_rfl) rfl #[.int .i64 a2] rfl (by (try simp only [List.map_toArray, List.map_cons, List.map_nil]); first | done | rfl | (simp only [List.length_drop, List.length_take]; rfl)) ?_; (with_reducible refine (f64_At.calls kj7 a2 t161 t162 _ A24.out).mono ?_); rintro e w' ⟨rfl, ⟨nd, rfl⟩⟩; refine ⟨_, rfl, ?_⟩) | ((with_reducible refine gate_callee (f := 29) rfl ?_); refine goesL_ (some 94) rfl rfl Try.func29 (by kernel_rfl) rfl #[.int .i64 a2] rfl (by (try simp only [List.map_toArray, List.map_cons, List.map_nil]); first | done | rfl | (simp only [List.length_drop, List.length_take]; rfl)) ?_; (with_reducible refine (plumbref06_At.calls kj7 a2 t163 t164 _ A25.out).mono ?_); rintro e w' ⟨rfl, ⟨nd, rfl⟩⟩; refine ⟨_, rfl, ?_⟩))
          go_ret
          exact ⟨by first | rfl | (simp [errW_none, errW_some] <;> rfl) | (simp [*, errW_none, errW_some] <;> rfl), by repeat (first | (with_reducible first | exact HB.out | apply below_alloc | apply pw_below_drewN | apply below_drew1) | exact HB.out)⟩

/-- THE ONE PURE STATEMENT of plumblaw06_F64Orders: yours. -/
def plumblaw06_F64Orders.Pure : Prop := ∀ (a0 : Int) (a1 : Int) (a2 : Int), (Lit.int .u64 a0).wf = true → (Lit.int .u64 a1).wf = true → (Lit.int .i64 a2).wf = true → ∃ k, plumblaw06_F64Orders.f k a0 a1 a2 = some true
theorem plumblaw06_F64Orders.walk (P : plumblaw06_F64Orders.Pure) (a0 : Int) (a1 : Int) (a2 : Int) (w : World) (w0 : (Lit.int .u64 a0).wf = true) (w1 : (Lit.int .u64 a1).wf = true) (w2 : (Lit.int .i64 a2).wf = true) :
    Calls Try.prog 8 #[.int .u64 a0, .int .u64 a1, .int .i64 a2] w fun e w' => e = .returned (.bool true) ∧ Below w.heap.size w w' := by
  obtain ⟨k, h⟩ := P a0 a1 a2 w0 w1 w2
  refine (plumblaw06_F64Orders.calls k a0 a1 a2 true w h).mono ?_
  rintro e w' ⟨rfl, hd⟩
  exact ⟨rfl, hd⟩

end Go.Proofs.Ytpnndhbeahajkaa.PF64Orders
