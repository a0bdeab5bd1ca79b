/- Go functions as Lean functions and their contracts: each call comes to what the Lean function says; or a law's row out of them. No conditions. Written by this session's wip/hprint.py (the kit's print with contracts and repairs of my own). -/
import Derived.Test.YtpnndhbeahajkaaPF64Numbersx0
import Derived.Test.YtpnndhbeahajkaaPF64Numbersx1
import Derived.Test.YtpnndhbeahajkaaPF64Numbersx2
import Derived.Test.YtpnndhbeahajkaaPF64Numbersx3
namespace Go.Proofs.Ytpnndhbeahajkaa.PF64Numbers
open Go.RowKit Go.Proofs.YtpnndhbeahajkaaW.PrintWords Go.Proofs.YtpnndhbeahajkaaW.PrintLast Go.Proofs.YtpnndhbeahajkaaW.PrintMore
attribute [local go_sem] max2_int min2_int max_two min_two max_three min_three max_four min_four   -- for this text's walks alone
set_option linter.unusedVariables false
set_option linter.unusedSimpArgs false

/-! ### plumblaw06_F64Numbers: function 10 -/
mutual
def plumblaw06_F64Numbers.j0 : Nat → Bool → Int → Int → Bool → Int → Int → Int → Int → Bool → Option (Bool)
  | 0, _, _, _, _, _, _, _, _, _ => none
  | k + 1, x5, x6, x7, x9, x10, x11, x13, x14, x43 => if x43 = true then (if x14 = 60 then (some (x13 == 0)) else (some false)) else (if x6 = 0 then (plumblaw06_F64Numbers.j1 k false x6 x7 x9 x10 x11 x13 x14) else (plumblaw06_F64Numbers.j1 k x5 x6 x7 x9 x10 x11 x13 x14))
def plumblaw06_F64Numbers.j1 : Nat → Bool → Int → Int → Bool → Int → Int → Int → Int → Option (Bool)
  | 0, _, _, _, _, _, _, _, _ => none
  | k + 1, x5, x6, x7, x9, x10, x11, x13, x14 => if x10 = 0 then (plumblaw06_F64Numbers.j2 k x5 x6 x7 false x10 x11 x13 x14) else (plumblaw06_F64Numbers.j2 k x5 x6 x7 x9 x10 x11 x13 x14)
def plumblaw06_F64Numbers.j2 : Nat → Bool → Int → Int → Bool → Int → Int → Int → Int → Option (Bool)
  | 0, _, _, _, _, _, _, _, _ => none
  | k + 1, x5, x6, x7, x9, x10, x11, x13, x14 => (plumblaw06_size.f x6 x7).bind fun t153 => ((plumblaw06_size.f x10 x11).bind fun t156 => ((nat_Cmp.f k t153 t156).bind fun t159 => (if x5 = true then (plumblaw06_F64Numbers.j3 k x5 x9 x13 x14 (wrap64 (-t159))) else (plumblaw06_F64Numbers.j3 k x5 x9 x13 x14 t159))))
def plumblaw06_F64Numbers.j3 : Nat → Bool → Bool → Int → Int → Int → Option (Bool)
  | 0, _, _, _, _, _ => none
  | k + 1, x5, x9, x13, x14, x15 => if (x5 != x9) = true then (if x5 = true then (if x14 = 0 then (some (x13 == (-1))) else (some false)) else (if x14 = 0 then (some (x13 == 1)) else (some false))) else (if x14 = 0 then (some (x13 == x15)) else (some false))
end
def plumblaw06_F64Numbers.f (k : Nat) (a0 : Int) (a1 : Int) : Option (Bool) := (f64_Split.f k a0).bind fun bt142 => ((f64_Split.f k a1).bind fun bt146 => ((f64_Cmp.f k a0 a1).bind fun bt150 => ((plumblaw06_alive.f k).bind fun t152 => (if t152 = true then (if bt142.2.2.2 = 0 then (plumblaw06_F64Numbers.j0 k bt142.1 bt142.2.1 bt142.2.2.1 bt146.1 bt146.2.1 bt146.2.2.1 bt150.1 bt150.2 (bt146.2.2.2 != 0)) else (plumblaw06_F64Numbers.j0 k bt142.1 bt142.2.1 bt142.2.2.1 bt146.1 bt146.2.1 bt146.2.2.1 bt150.1 bt150.2 true)) else (some false)))))
theorem plumblaw06_F64Numbers.mono_l : ∀ k, (∀ y0 y1 y2 y3 y4 y5 y6 y7 y8, LeO (plumblaw06_F64Numbers.j0 k y0 y1 y2 y3 y4 y5 y6 y7 y8) (plumblaw06_F64Numbers.j0 (k + 1) y0 y1 y2 y3 y4 y5 y6 y7 y8)) ∧ (∀ y0 y1 y2 y3 y4 y5 y6 y7, LeO (plumblaw06_F64Numbers.j1 k y0 y1 y2 y3 y4 y5 y6 y7) (plumblaw06_F64Numbers.j1 (k + 1) y0 y1 y2 y3 y4 y5 y6 y7)) ∧ (∀ y0 y1 y2 y3 y4 y5 y6 y7, LeO (plumblaw06_F64Numbers.j2 k y0 y1 y2 y3 y4 y5 y6 y7) (plumblaw06_F64Numbers.j2 (k + 1) y0 y1 y2 y3 y4 y5 y6 y7)) ∧ (∀ y0 y1 y2 y3 y4, LeO (plumblaw06_F64Numbers.j3 k y0 y1 y2 y3 y4) (plumblaw06_F64Numbers.j3 (k + 1) y0 y1 y2 y3 y4))
  | 0 => ⟨fun _ _ _ _ _ _ _ _ _ r h => by simp [plumblaw06_F64Numbers.j0] at h, fun _ _ _ _ _ _ _ _ r h => by simp [plumblaw06_F64Numbers.j1] at h, fun _ _ _ _ _ _ _ _ r h => by simp [plumblaw06_F64Numbers.j2] at h, fun _ _ _ _ _ r h => by simp [plumblaw06_F64Numbers.j3] at h⟩
  | k + 1 => by
    obtain ⟨ih0, ih1, ih2, ih3⟩ := plumblaw06_F64Numbers.mono_l k
    refine ⟨?_, ?_, ?_, ?_⟩
    · intro y0 y1 y2 y3 y4 y5 y6 y7 y8
      unfold plumblaw06_F64Numbers.j0
      repeat' first
      | (with_reducible exact ih0 _ _ _ _ _ _ _ _ _)
      | (with_reducible exact ih1 _ _ _ _ _ _ _ _)
      | (with_reducible exact ih2 _ _ _ _ _ _ _ _)
      | (with_reducible exact ih3 _ _ _ _ _)
      | (with_reducible exact f64_Cmp.mono _ _ _)
      | (with_reducible exact f64_Split.mono _ _)
      | (with_reducible exact nat_Cmp.mono _ _ _)
      | (with_reducible exact plumblaw06_alive.mono _)
      | (with_reducible exact LeO.refl _)
      | (with_reducible exact LeO.none _)
      | (with_reducible refine LeO.ite ?_ ?_)
      | (with_reducible refine LeO.bind ?_ (fun _ => ?_))
      | exact ih0 _ _ _ _ _ _ _ _ _
      | exact ih1 _ _ _ _ _ _ _ _
      | exact ih2 _ _ _ _ _ _ _ _
      | exact ih3 _ _ _ _ _
      | exact f64_Cmp.mono _ _ _
      | exact f64_Split.mono _ _
      | exact nat_Cmp.mono _ _ _
      | exact plumblaw06_alive.mono _
      | exact LeO.none _
      | refine LeO.ite ?_ ?_
      | refine LeO.bind ?_ (fun _ => ?_)
    · intro y0 y1 y2 y3 y4 y5 y6 y7
      unfold plumblaw06_F64Numbers.j1
      repeat' first
      | (with_reducible exact ih0 _ _ _ _ _ _ _ _ _)
      | (with_reducible exact ih1 _ _ _ _ _ _ _ _)
      | (with_reducible exact ih2 _ _ _ _ _ _ _ _)
      | (with_reducible exact ih3 _ _ _ _ _)
      | (with_reducible exact f64_Cmp.mono _ _ _)
      | (with_reducible exact f64_Split.mono _ _)
      | (with_reducible exact nat_Cmp.mono _ _ _)
      | (with_reducible exact plumblaw06_alive.mono _)
      | (with_reducible exact LeO.refl _)
      | (with_reducible exact LeO.none _)
      | (with_reducible refine LeO.ite ?_ ?_)
      | (with_reducible refine LeO.bind ?_ (fun _ => ?_))
      | exact ih0 _ _ _ _ _ _ _ _ _
      | exact ih1 _ _ _ _ _ _ _ _
      | exact ih2 _ _ _ _ _ _ _ _
      | exact ih3 _ _ _ _ _
      | exact f64_Cmp.mono _ _ _
      | exact f64_Split.mono _ _
      | exact nat_Cmp.mono _ _ _
      | exact plumblaw06_alive.mono _
      | exact LeO.none _
      | refine LeO.ite ?_ ?_
      | refine LeO.bind ?_ (fun _ => ?_)
    · intro y0 y1 y2 y3 y4 y5 y6 y7
      unfold plumblaw06_F64Numbers.j2
      repeat' first
      | (with_reducible exact ih0 _ _ _ _ _ _ _ _ _)
      | (with_reducible exact ih1 _ _ _ _ _ _ _ _)
      | (with_reducible exact ih2 _ _ _ _ _ _ _ _)
      | (with_reducible exact ih3 _ _ _ _ _)
      | (with_reducible exact f64_Cmp.mono _ _ _)
      | (with_reducible exact f64_Split.mono _ _)
      | (with_reducible exact nat_Cmp.mono _ _ _)
      | (with_reducible exact plumblaw06_alive.mono _)
      | (with_reducible exact LeO.refl _)
      | (with_reducible exact LeO.none _)
      | (with_reducible refine LeO.ite ?_ ?_)
      | (with_reducible refine LeO.bind ?_ (fun _ => ?_))
      | exact ih0 _ _ _ _ _ _ _ _ _
      | exact ih1 _ _ _ _ _ _ _ _
      | exact ih2 _ _ _ _ _ _ _ _
      | exact ih3 _ _ _ _ _
      | exact f64_Cmp.mono _ _ _
      | exact f64_Split.mono _ _
      | exact nat_Cmp.mono _ _ _
      | exact plumblaw06_alive.mono _
      | exact LeO.none _
      | refine LeO.ite ?_ ?_
      | refine LeO.bind ?_ (fun _ => ?_)
    · intro y0 y1 y2 y3 y4
      unfold plumblaw06_F64Numbers.j3
      repeat' first
      | (with_reducible exact ih0 _ _ _ _ _ _ _ _ _)
      | (with_reducible exact ih1 _ _ _ _ _ _ _ _)
      | (with_reducible exact ih2 _ _ _ _ _ _ _ _)
      | (with_reducible exact ih3 _ _ _ _ _)
      | (with_reducible exact f64_Cmp.mono _ _ _)
      | (with_reducible exact f64_Split.mono _ _)
      | (with_reducible exact nat_Cmp.mono _ _ _)
      | (with_reducible exact plumblaw06_alive.mono _)
      | (with_reducible exact LeO.refl _)
      | (with_reducible exact LeO.none _)
      | (with_reducible refine LeO.ite ?_ ?_)
      | (with_reducible refine LeO.bind ?_ (fun _ => ?_))
      | exact ih0 _ _ _ _ _ _ _ _ _
      | exact ih1 _ _ _ _ _ _ _ _
      | exact ih2 _ _ _ _ _ _ _ _
      | exact ih3 _ _ _ _ _
      | exact f64_Cmp.mono _ _ _
      | exact f64_Split.mono _ _
      | exact nat_Cmp.mono _ _ _
      | exact plumblaw06_alive.mono _
      | exact LeO.none _
      | refine LeO.ite ?_ ?_
      | refine LeO.bind ?_ (fun _ => ?_)
theorem plumblaw06_F64Numbers.mono : ∀ a0 a1 k, LeO (plumblaw06_F64Numbers.f k a0 a1) (plumblaw06_F64Numbers.f (k + 1) a0 a1) := by
  intro a0 a1 k
  obtain ⟨ih0, ih1, ih2, ih3⟩ := plumblaw06_F64Numbers.mono_l k
  unfold plumblaw06_F64Numbers.f
  repeat' first
      | (with_reducible exact ih0 _ _ _ _ _ _ _ _ _)
      | (with_reducible exact ih1 _ _ _ _ _ _ _ _)
      | (with_reducible exact ih2 _ _ _ _ _ _ _ _)
      | (with_reducible exact ih3 _ _ _ _ _)
      | (with_reducible exact f64_Cmp.mono _ _ _)
      | (with_reducible exact f64_Split.mono _ _)
      | (with_reducible exact nat_Cmp.mono _ _ _)
      | (with_reducible exact plumblaw06_alive.mono _)
      | (with_reducible exact LeO.refl _)
      | (with_reducible exact LeO.none _)
      | (with_reducible refine LeO.ite ?_ ?_)
      | (with_reducible refine LeO.bind ?_ (fun _ => ?_))
      | exact ih0 _ _ _ _ _ _ _ _ _
      | exact ih1 _ _ _ _ _ _ _ _
      | exact ih2 _ _ _ _ _ _ _ _
      | exact ih3 _ _ _ _ _
      | exact f64_Cmp.mono _ _ _
      | exact f64_Split.mono _ _
      | exact nat_Cmp.mono _ _ _
      | exact plumblaw06_alive.mono _
      | exact LeO.none _
      | refine LeO.ite ?_ ?_
      | refine LeO.bind ?_ (fun _ => ?_)
set_option maxHeartbeats 8000000 in
set_option maxRecDepth 100000 in
theorem plumblaw06_F64Numbers.calls (k : Nat) (a0 : Int) (a1 : Int) (r : Bool) (w : World) (h : plumblaw06_F64Numbers.f k a0 a1 = some r) :
    Calls Try.prog 10 #[.int .u64 a0, .int .u64 a1] w fun e w' => e = .returned (.bool r) ∧ Below w.heap.size w w' := by
  have HB := Aside0.mk (Below.refl w.heap.size w)
  have H : ((f64_Split.f k a0).bind fun bt142 => ((f64_Split.f k a1).bind fun bt146 => ((f64_Cmp.f k a0 a1).bind fun bt150 => ((plumblaw06_alive.f k).bind fun t152 => (if t152 = true then (if bt142.2.2.2 = 0 then (plumblaw06_F64Numbers.j0 k bt142.1 bt142.2.1 bt142.2.2.1 bt146.1 bt146.2.1 bt146.2.2.1 bt150.1 bt150.2 (bt146.2.2.2 != 0)) else (plumblaw06_F64Numbers.j0 k bt142.1 bt142.2.1 bt142.2.2.1 bt146.1 bt146.2.1 bt146.2.2.1 bt150.1 bt150.2 true)) else (some false)))))) = some r := h
  clear h
  replace H := Option.bind_eq_some_iff.mp H
  obtain ⟨⟨t142, t143, t144, t145⟩, A30, H⟩ := H
  replace H : ((f64_Split.f k a1).bind fun bt146 => ((f64_Cmp.f k a0 a1).bind fun bt150 => ((plumblaw06_alive.f k).bind fun t152 => (if t152 = true then (if t145 = 0 then (plumblaw06_F64Numbers.j0 k t142 t143 t144 bt146.1 bt146.2.1 bt146.2.2.1 bt150.1 bt150.2 (bt146.2.2.2 != 0)) else (plumblaw06_F64Numbers.j0 k t142 t143 t144 bt146.1 bt146.2.1 bt146.2.2.1 bt150.1 bt150.2 true)) else (some false))))) = some r := H
  have A3 := Aside0.mk A30
  clear A30
  replace H := Option.bind_eq_some_iff.mp H
  obtain ⟨⟨t146, t147, t148, t149⟩, A40, H⟩ := H
  replace H : ((f64_Cmp.f k a0 a1).bind fun bt150 => ((plumblaw06_alive.f k).bind fun t152 => (if t152 = true then (if t145 = 0 then (plumblaw06_F64Numbers.j0 k t142 t143 t144 t146 t147 t148 bt150.1 bt150.2 (t149 != 0)) else (plumblaw06_F64Numbers.j0 k t142 t143 t144 t146 t147 t148 bt150.1 bt150.2 true)) else (some false)))) = some r := H
  have A4 := Aside0.mk A40
  clear A40
  replace H := Option.bind_eq_some_iff.mp H
  obtain ⟨⟨t150, t151⟩, A50, H⟩ := H
  replace H : ((plumblaw06_alive.f k).bind fun t152 => (if t152 = true then (if t145 = 0 then (plumblaw06_F64Numbers.j0 k t142 t143 t144 t146 t147 t148 t150 t151 (t149 != 0)) else (plumblaw06_F64Numbers.j0 k t142 t143 t144 t146 t147 t148 t150 t151 true)) else (some false))) = some r := H
  have A5 := Aside0.mk A50
  clear A50
  replace H := Option.bind_eq_some_iff.mp H
  obtain ⟨t152, A60, H⟩ := H
  replace H : (if t152 = true then (if t145 = 0 then (plumblaw06_F64Numbers.j0 k t142 t143 t144 t146 t147 t148 t150 t151 (t149 != 0)) else (plumblaw06_F64Numbers.j0 k t142 t143 t144 t146 t147 t148 t150 t151 true)) else (some false)) = some r := H
  have A6 := Aside0.mk A60
  clear A60
  by_cases c7 : t152 = true
  · subst c7
    have H1 : (if t145 = 0 then (plumblaw06_F64Numbers.j0 k t142 t143 t144 t146 t147 t148 t150 t151 (t149 != 0)) else (plumblaw06_F64Numbers.j0 k t142 t143 t144 t146 t147 t148 t150 t151 true)) = some r := by rw [if_pos rfl] at H; exact H
    clear H
    have H := H1
    clear H1
    have HC8 := Aside0.mk H
    clear H
    go_enter Try.func10, Try.ntmps10
    go_upto_region 6 with (first | ((with_reducible refine gate_callee (f := 14) rfl ?_); refine goesL_ (some 18) rfl rfl Try.func14 (by kernel_rfl) rfl #[.int .u64 a0] rfl (by (try simp only [List.map_toArray, List.map_cons, List.map_nil]); first | done | rfl | (simp only [List.length_drop, List.length_take]; rfl)) ?_; (with_reducible refine (f64_Split.calls k a0 t142 t143 t144 t145 _ A3.out).mono ?_); rintro e w' ⟨rfl, ⟨nd, rfl⟩⟩; refine ⟨_, rfl, ?_⟩) | ((with_reducible refine gate_callee (f := 14) rfl ?_); refine goesL_ (some 25) rfl rfl Try.func14 (by kernel_rfl) rfl #[.int .u64 a1] rfl (by (try simp only [List.map_toArray, List.map_cons, List.map_nil]); first | done | rfl | (simp only [List.length_drop, List.length_take]; rfl)) ?_; (with_reducible refine (f64_Split.calls k a1 t146 t147 t148 t149 _ A4.out).mono ?_); rintro e w' ⟨rfl, ⟨nd, rfl⟩⟩; refine ⟨_, rfl, ?_⟩) | ((with_reducible refine gate_callee (f := 23) rfl ?_); refine goesL_ (some 33) rfl rfl Try.func23 (by kernel_rfl) rfl #[.int .u64 a0, .int .u64 a1] rfl (by (try simp only [List.map_toArray, List.map_cons, List.map_nil]); first | done | rfl | (simp only [List.length_drop, List.length_take]; rfl)) ?_; (with_reducible refine (f64_Cmp.calls k a0 a1 t150 t151 _ A5.out).mono ?_); rintro e w' ⟨rfl, ⟨nd, rfl⟩⟩; refine ⟨_, rfl, ?_⟩) | ((with_reducible refine gate_callee (f := 13) rfl ?_); refine goesL_ (some 36) rfl rfl Try.func13 (by kernel_rfl) rfl #[] rfl (by (try simp only [List.map_toArray, List.map_cons, List.map_nil]); first | done | rfl | (simp only [List.length_drop, List.length_take]; rfl)) ?_; (with_reducible refine (plumblaw06_alive.calls k  true _ A6.out).mono ?_); rintro e w9 ⟨rfl, hb⟩; refine ⟨_, rfl, ?_⟩; have n0_ := Aside0.mk (below_step (by repeat (first | (with_reducible first | exact HB.out | apply below_alloc | apply pw_below_drewN | apply below_drew1) | exact HB.out)) hb); clear HB; have HB := n0_; clear n0_; (try clear hb); (try clear hb2); (try clear hk); (try clear hi)))
    (try simp only [Act.put, List.setIfInBounds_toArray, List.set_cons_zero, List.set_cons_succ])
    go_cut [43] (fun v43 wc => ∃ (kq : Nat) (x43_7 : Bool), v43 = .bool x43_7 ∧ Aside0 (plumblaw06_F64Numbers.j0 kq t142 t143 t144 t146 t147 t148 t150 t151 x43_7 = some r) ∧ Aside0 (kq ≤ k) ∧ Aside0 (Below w.heap.size w wc))
    case first =>
      have H := HC8.out
      clear HC8
      by_cases c10 : t145 = 0
      · rw [if_pos c10] at H
        have c10b0 : (t145 == 0) = true := beq_iff_eq.mpr c10
        have c10b1 : (t145 != 0) = false := bne_eq_false_iff_eq.mpr c10
        clear c10
        (first | rw [c10b0] | (simp only [i64_w, i32_w]; rw [c10b0]) | skip)
        have H' := Aside0.mk H
        clear H
        go_wp2
        go_meet
        case rel => exact ⟨_, ((t149 != 0)), (by first | rfl | (simp; done) | (simp [*]; done)), H', ⟨by first | omega | exact Nat.le_refl _⟩, ⟨by repeat (first | (with_reducible first | exact HB.out | apply below_alloc | apply pw_below_drewN | apply below_drew1) | exact HB.out)⟩⟩
      · rw [if_neg c10] at H
        have c10b0 : (t145 == 0) = false := beq_eq_false_iff_ne.mpr c10
        have c10b1 : (t145 != 0) = true := bne_iff_ne.mpr c10
        (first | rw [c10b0] | (simp only [i64_w, i32_w]; rw [c10b0]) | skip)
        have H' := Aside0.mk H
        clear H
        go_wp2
        go_meet
        case rel => exact ⟨_, (true), (by first | rfl | (simp; done) | (simp [*]; done)), H', ⟨by first | omega | exact Nat.le_refl _⟩, ⟨by repeat (first | (with_reducible first | exact HB.out | apply below_alloc | apply pw_below_drewN | apply below_drew1) | exact HB.out)⟩⟩
    case rest =>
      clear HC8
      try clear c1
      try clear c2
      try clear p2
      try clear c7
      try clear c10
      try clear c10b0
      try clear c10b1
      obtain ⟨kq, x43_7, rfl, HA, HJ7, HB⟩ := hcut
      cases kq with
      | zero => exact absurd HA.out (by simp [plumblaw06_F64Numbers.j0])
      | succ kj7 =>
        have H := HA.out
        clear HA
        simp only [plumblaw06_F64Numbers.j0] at H
        by_cases c11 : x43_7 = true
        · subst c11
          have H1 : (if t151 = 60 then (some (t150 == 0)) else (some false)) = some r := by rw [if_pos rfl] at H; exact H
          clear H
          have H := H1
          clear H1
          by_cases c12 : t151 = 60
          · rw [if_pos c12] at H
            have c12b0 : (t151 == 60) = true := beq_iff_eq.mpr c12
            have c12b1 : (t151 != 60) = false := bne_eq_false_iff_eq.mpr c12
            clear c12
            obtain rfl := Option.some.inj H
            go_wp2
            go_ret
            exact ⟨by first | rfl | (simp [errW_none, errW_some] <;> rfl) | (simp [*, errW_none, errW_some] <;> rfl), by repeat (first | (with_reducible first | exact HB.out | apply below_alloc | apply pw_below_drewN | apply below_drew1) | exact HB.out)⟩
          · rw [if_neg c12] at H
            have c12b0 : (t151 == 60) = false := beq_eq_false_iff_ne.mpr c12
            have c12b1 : (t151 != 60) = true := bne_iff_ne.mpr c12
            obtain rfl := Option.some.inj H
            go_wp2
            go_ret
            exact ⟨by first | rfl | (simp [errW_none, errW_some] <;> rfl) | (simp [*, errW_none, errW_some] <;> rfl), by repeat (first | (with_reducible first | exact HB.out | apply below_alloc | apply pw_below_drewN | apply below_drew1) | exact HB.out)⟩
        · replace c11 := Bool.eq_false_iff.mpr c11
          subst c11
          have H1 : (if t143 = 0 then (plumblaw06_F64Numbers.j1 kj7 false t143 t144 t146 t147 t148 t150 t151) else (plumblaw06_F64Numbers.j1 kj7 t142 t143 t144 t146 t147 t148 t150 t151)) = some r := by rw [if_neg (show ¬ (false = true) by decide)] at H; exact H
          clear H
          have H := H1
          clear H1
          have HC13 := Aside0.mk H
          clear H
          go_upto_if 51 with (fail)
          go_cut [5] (fun v5 wc => ∃ (kq : Nat) (x5_12 : Bool), v5 = .bool x5_12 ∧ Aside0 (plumblaw06_F64Numbers.j1 kq x5_12 t143 t144 t146 t147 t148 t150 t151 = some r) ∧ Aside0 (kq ≤ kj7) ∧ Aside0 (Below w.heap.size w wc))
          case first =>
            have H := HC13.out
            clear HC13
            by_cases c14 : t143 = 0
            · rw [if_pos c14] at H
              have c14b0 : (t143 == 0) = true := beq_iff_eq.mpr c14
              have c14b1 : (t143 != 0) = false := bne_eq_false_iff_eq.mpr c14
              clear c14
              (first | rw [c14b0] | (simp only [i64_w, i32_w]; rw [c14b0]) | skip)
              have H' := Aside0.mk H
              clear H
              go_wp2
              go_meet
              case rel => exact ⟨_, (false), (by first | rfl | (simp; done) | (simp [*]; done)), H', ⟨by have := HJ7.out; first | omega | exact Nat.le_refl _⟩, ⟨by repeat (first | (with_reducible first | exact HB.out | apply below_alloc | apply pw_below_drewN | apply below_drew1) | exact HB.out)⟩⟩
            · rw [if_neg c14] at H
              have c14b0 : (t143 == 0) = false := beq_eq_false_iff_ne.mpr c14
              have c14b1 : (t143 != 0) = true := bne_iff_ne.mpr c14
              (first | rw [c14b0] | (simp only [i64_w, i32_w]; rw [c14b0]) | skip)
              have H' := Aside0.mk H
              clear H
              go_wp2
              go_meet
              case rel => exact ⟨_, (t142), (by first | rfl | (simp; done) | (simp [*]; done)), H', ⟨by have := HJ7.out; first | omega | exact Nat.le_refl _⟩, ⟨by repeat (first | (with_reducible first | exact HB.out | apply below_alloc | apply pw_below_drewN | apply below_drew1) | exact HB.out)⟩⟩
          case rest =>
            clear HC13
            try clear c1
            try clear c2
            try clear p2
            try clear c7
            try clear c10
            try clear c10b0
            try clear c10b1
            try clear c11
            try clear c12
            try clear c12b0
            try clear c12b1
            try clear c13
            try clear c14
            try clear c14b0
            try clear c14b1
            try clear p2
            obtain ⟨kq, x5_12, rfl, HA, HJ12, HB⟩ := hcut
            cases kq with
            | zero => exact absurd HA.out (by simp [plumblaw06_F64Numbers.j1])
            | succ kj12 =>
              have H := HA.out
              clear HA
              simp only [plumblaw06_F64Numbers.j1] at H
              have HC15 := Aside0.mk H
              clear H
              go_upto_if 53 with (fail)
              go_cut [9] (fun v9 wc => ∃ (kq : Nat) (x9_14 : Bool), v9 = .bool x9_14 ∧ Aside0 (plumblaw06_F64Numbers.j2 kq x5_12 t143 t144 x9_14 t147 t148 t150 t151 = some r) ∧ Aside0 (kq ≤ kj12) ∧ Aside0 (Below w.heap.size w wc))
              case first =>
                have H := HC15.out
                clear HC15
                by_cases c16 : t147 = 0
                · rw [if_pos c16] at H
                  have c16b0 : (t147 == 0) = true := beq_iff_eq.mpr c16
                  have c16b1 : (t147 != 0) = false := bne_eq_false_iff_eq.mpr c16
                  clear c16
                  (first | rw [c16b0] | (simp only [i64_w, i32_w]; rw [c16b0]) | skip)
                  have H' := Aside0.mk H
                  clear H
                  go_wp2
                  go_meet
                  case rel => exact ⟨_, (false), (by first | rfl | (simp; done) | (simp [*]; done)), H', ⟨by have := HJ7.out; have := HJ12.out; first | omega | exact Nat.le_refl _⟩, ⟨by repeat (first | (with_reducible first | exact HB.out | apply below_alloc | apply pw_below_drewN | apply below_drew1) | exact HB.out)⟩⟩
                · rw [if_neg c16] at H
                  have c16b0 : (t147 == 0) = false := beq_eq_false_iff_ne.mpr c16
                  have c16b1 : (t147 != 0) = true := bne_iff_ne.mpr c16
                  (first | rw [c16b0] | (simp only [i64_w, i32_w]; rw [c16b0]) | skip)
                  have H' := Aside0.mk H
                  clear H
                  go_wp2
                  go_meet
                  case rel => exact ⟨_, (t146), (by first | rfl | (simp; done) | (simp [*]; done)), H', ⟨by have := HJ7.out; have := HJ12.out; first | omega | exact Nat.le_refl _⟩, ⟨by repeat (first | (with_reducible first | exact HB.out | apply below_alloc | apply pw_below_drewN | apply below_drew1) | exact HB.out)⟩⟩
              case rest =>
                clear HC15
                try clear c1
                try clear c2
                try clear p2
                try clear c7
                try clear c10
                try clear c10b0
                try clear c10b1
                try clear c11
                try clear c12
                try clear c12b0
                try clear c12b1
                try clear c13
                try clear c14
                try clear c14b0
                try clear c14b1
                try clear c16
                try clear c16b0
                try clear c16b1
                try clear p2
                obtain ⟨kq, x9_14, rfl, HA, HJ14, HB⟩ := hcut
                cases kq with
                | zero => exact absurd HA.out (by simp [plumblaw06_F64Numbers.j2])
                | succ kj14 =>
                  have H := HA.out
                  clear HA
                  simp only [plumblaw06_F64Numbers.j2] at H
                  replace H := Option.bind_eq_some_iff.mp H
                  obtain ⟨t153, A170, H⟩ := H
                  replace H : ((plumblaw06_size.f t147 t148).bind fun t156 => ((nat_Cmp.f kj14 t153 t156).bind fun t159 => (if x5_12 = true then (plumblaw06_F64Numbers.j3 kj14 x5_12 x9_14 t150 t151 (wrap64 (-t159))) else (plumblaw06_F64Numbers.j3 kj14 x5_12 x9_14 t150 t151 t159)))) = some r := H
                  have A17 := Aside0.mk A170
                  clear A170
                  replace H := Option.bind_eq_some_iff.mp H
                  obtain ⟨t156, A180, H⟩ := H
                  replace H : ((nat_Cmp.f kj14 t153 t156).bind fun t159 => (if x5_12 = true then (plumblaw06_F64Numbers.j3 kj14 x5_12 x9_14 t150 t151 (wrap64 (-t159))) else (plumblaw06_F64Numbers.j3 kj14 x5_12 x9_14 t150 t151 t159))) = some r := H
                  have A18 := Aside0.mk A180
                  clear A180
                  replace H := Option.bind_eq_some_iff.mp H
                  obtain ⟨t159, A190, H⟩ := H
                  replace H : (if x5_12 = true then (plumblaw06_F64Numbers.j3 kj14 x5_12 x9_14 t150 t151 (wrap64 (-t159))) else (plumblaw06_F64Numbers.j3 kj14 x5_12 x9_14 t150 t151 t159)) = some r := H
                  have A19 := Aside0.mk A190
                  clear A190
                  have HC20 := Aside0.mk H
                  clear H
                  go_upto_if 61 with (first | ((with_reducible refine gate_callee (f := 34) rfl ?_); refine goesL_ (some 56) rfl rfl Try.func34 (by kernel_rfl) rfl #[.int .u64 t143, .int .i64 t144] rfl (by (try simp only [List.map_toArray, List.map_cons, List.map_nil]); first | done | rfl | (simp only [List.length_drop, List.length_take]; rfl)) ?_; (with_reducible refine (plumblaw06_size.calls t143 t144 t153 _ A17.out).mono ?_); rintro e w21 ⟨v154, rfl, ho0, hb⟩; refine ⟨_, rfl, ?_⟩; have n0_ := Aside0.mk ho0; have n1_ := Aside0.mk (below_step (by repeat (first | (with_reducible first | exact HB.out | apply below_alloc | apply pw_below_drewN | apply below_drew1) | exact HB.out)) hb); clear HB; have HO155 := n0_; have HB := n1_; clear n0_ n1_; (try clear hb); (try clear hb2); (try clear hk); (try clear hi); (try clear ho0)) | ((with_reducible refine gate_callee (f := 34) rfl ?_); refine goesL_ (some 59) rfl rfl Try.func34 (by kernel_rfl) rfl #[.int .u64 t147, .int .i64 t148] rfl (by (try simp only [List.map_toArray, List.map_cons, List.map_nil]); first | done | rfl | (simp only [List.length_drop, List.length_take]; rfl)) ?_; (with_reducible refine (plumblaw06_size.calls t147 t148 t156 _ A18.out).mono ?_); rintro e w22 ⟨v157, rfl, ho0, hb⟩; refine ⟨_, rfl, ?_⟩; have n0_ := Aside0.mk (nat_Shl.RC_below (by (with_reducible repeat (first | apply nat_Shl.RC_alloc | apply nat_Shl.RC_drewN | apply nat_Shl.RC_drew)); exact HO155.out) hb); have n1_ := Aside0.mk ho0; have n2_ := Aside0.mk (below_step (by repeat (first | (with_reducible first | exact HB.out | apply below_alloc | apply pw_below_drewN | apply below_drew1) | exact HB.out)) hb); clear HO155; clear HB; have HO155 := n0_; have HO158 := n1_; have HB := n2_; clear n0_ n1_ n2_; (try clear hb); (try clear hb2); (try clear hk); (try clear hi); (try clear ho0); obtain ⟨Ao23, co23, eo23⟩ := nat_Shl.RC_slice HO155.out; subst eo23; obtain ⟨Ao24, co24, eo24⟩ := nat_Shl.RC_slice HO158.out; subst eo24) | ((with_reducible refine gate_callee (f := 33) rfl ?_); refine goesL_ (some 60) rfl rfl Try.func33 (by kernel_rfl) rfl #[.slice Ao23 t153.length co23, .slice Ao24 t156.length co24] rfl (by (try simp only [List.map_toArray, List.map_cons, List.map_nil]); first | done | rfl | (simp only [List.length_drop, List.length_take]; rfl)) ?_; (with_reducible refine (nat_Cmp.calls kj14 _ _ t153 _ _ t156 t159 _ ?side1 ?side2 ?side3 ?side4 A19.out).mono ?_); (case side1 => repeat (first | exact (nat_Shl.RC_reads HO155.out).2.2 | (with_reducible refine Kd.C_alloc ?_ _) | (with_reducible refine Kd.C_drewN ?_ _) | (with_reducible refine Kd.C_drew ?_))); (case side2 => exact (nat_Shl.RC_reads HO155.out).2.1); (case side3 => repeat (first | exact (nat_Shl.RC_reads HO158.out).2.2 | (with_reducible refine Kd.C_alloc ?_ _) | (with_reducible refine Kd.C_drewN ?_ _) | (with_reducible refine Kd.C_drew ?_))); (case side4 => exact (nat_Shl.RC_reads HO158.out).2.1); rintro e w' ⟨rfl, ⟨nd, rfl⟩⟩; refine ⟨_, rfl, ?_⟩))
                  (try simp only [Act.put, List.setIfInBounds_toArray, List.set_cons_zero, List.set_cons_succ])
                  go_cut [15] (fun v15 wc => ∃ (kq : Nat) (x15_19 : Int), v15 = .int .i64 x15_19 ∧ Aside0 (plumblaw06_F64Numbers.j3 kq x5_12 x9_14 t150 t151 x15_19 = some r) ∧ Aside0 (kq ≤ kj14) ∧ Aside0 (Below w.heap.size w wc))
                  case first =>
                    have H := HC20.out
                    clear HC20
                    by_cases c25 : x5_12 = true
                    · subst c25
                      have H1 : (plumblaw06_F64Numbers.j3 kj14 true x9_14 t150 t151 (wrap64 (-t159))) = some r := by rw [if_pos rfl] at H; exact H
                      clear H
                      have H := H1
                      clear H1
                      have H' := Aside0.mk H
                      clear H
                      go_wp2
                      go_meet
                      case rel => exact ⟨_, (wrap64 (-t159)), (by first | rfl | (simp; done) | (simp [*]; done)), H', ⟨by have := HJ7.out; have := HJ12.out; have := HJ14.out; first | omega | exact Nat.le_refl _⟩, ⟨by repeat (first | (with_reducible first | exact HB.out | apply below_alloc | apply pw_below_drewN | apply below_drew1) | exact HB.out)⟩⟩
                    · replace c25 := Bool.eq_false_iff.mpr c25
                      subst c25
                      have H1 : (plumblaw06_F64Numbers.j3 kj14 false x9_14 t150 t151 t159) = some r := by rw [if_neg (show ¬ (false = true) by decide)] at H; exact H
                      clear H
                      have H := H1
                      clear H1
                      have H' := Aside0.mk H
                      clear H
                      go_wp2
                      go_meet
                      case rel => exact ⟨_, (t159), (by first | rfl | (simp; done) | (simp [*]; done)), H', ⟨by have := HJ7.out; have := HJ12.out; have := HJ14.out; first | omega | exact Nat.le_refl _⟩, ⟨by repeat (first | (with_reducible first | exact HB.out | apply below_alloc | apply pw_below_drewN | apply below_drew1) | exact HB.out)⟩⟩
                  case rest =>
                    clear HC20
                    try clear c1
                    try clear c2
                    try clear p2
                    try clear c3
                    try clear p6
                    try clear c7
                    try clear c10
                    try clear c10b0
                    try clear c10b1
                    try clear c11
                    try clear c12
                    try clear c12b0
                    try clear c12b1
                    try clear c13
                    try clear c14
                    try clear c14b0
                    try clear c14b1
                    try clear c16
                    try clear c16b0
                    try clear c16b1
                    try clear c23
                    try clear c25
                    try clear p2
                    obtain ⟨kq, x15_19, rfl, HA, HJ19, HB⟩ := hcut
                    cases kq with
                    | zero => exact absurd HA.out (by simp [plumblaw06_F64Numbers.j3])
                    | succ kj19 =>
                      have H := HA.out
                      clear HA
                      simp only [plumblaw06_F64Numbers.j3] at H
                      by_cases c26 : (x5_12 != x9_14) = true
                      · rw [if_pos c26] at H
                        have c26b0 : (x5_12 != x9_14) = true := c26
                        (try (have c26b1 : decide (x5_12 = x9_14) = false := by simpa using c26))
                        (try (have c26b2 : (x5_12 == x9_14) = false := by simpa using c26))
                        (try (have c26b3 : ¬ (x5_12 = x9_14) := by simpa using c26))
                        clear c26
                        by_cases c27 : x5_12 = true
                        · subst c27
                          have H1 : (if t151 = 0 then (some (t150 == (-1))) else (some false)) = some r := by rw [if_pos rfl] at H; exact H
                          clear H
                          have H := H1
                          clear H1
                          by_cases c28 : t151 = 0
                          · rw [if_pos c28] at H
                            have c28b0 : (t151 == 0) = true := beq_iff_eq.mpr c28
                            have c28b1 : (t151 != 0) = false := bne_eq_false_iff_eq.mpr c28
                            clear c28
                            obtain rfl := Option.some.inj H
                            go_wp2
                            go_ret
                            exact ⟨by first | rfl | (simp [errW_none, errW_some] <;> rfl) | (simp [*, errW_none, errW_some] <;> rfl), by repeat (first | (with_reducible first | exact HB.out | apply below_alloc | apply pw_below_drewN | apply below_drew1) | exact HB.out)⟩
                          · rw [if_neg c28] at H
                            have c28b0 : (t151 == 0) = false := beq_eq_false_iff_ne.mpr c28
                            have c28b1 : (t151 != 0) = true := bne_iff_ne.mpr c28
                            obtain rfl := Option.some.inj H
                            go_wp2
                            go_ret
                            exact ⟨by first | rfl | (simp [errW_none, errW_some] <;> rfl) | (simp [*, errW_none, errW_some] <;> rfl), by repeat (first | (with_reducible first | exact HB.out | apply below_alloc | apply pw_below_drewN | apply below_drew1) | exact HB.out)⟩
                        · replace c27 := Bool.eq_false_iff.mpr c27
                          subst c27
                          have H1 : (if t151 = 0 then (some (t150 == 1)) else (some false)) = some r := by rw [if_neg (show ¬ (false = true) by decide)] at H; exact H
                          clear H
                          have H := H1
                          clear H1
                          by_cases c29 : t151 = 0
                          · rw [if_pos c29] at H
                            have c29b0 : (t151 == 0) = true := beq_iff_eq.mpr c29
                            have c29b1 : (t151 != 0) = false := bne_eq_false_iff_eq.mpr c29
                            clear c29
                            obtain rfl := Option.some.inj H
                            go_wp2
                            go_ret
                            exact ⟨by first | rfl | (simp [errW_none, errW_some] <;> rfl) | (simp [*, errW_none, errW_some] <;> rfl), by repeat (first | (with_reducible first | exact HB.out | apply below_alloc | apply pw_below_drewN | apply below_drew1) | exact HB.out)⟩
                          · rw [if_neg c29] at H
                            have c29b0 : (t151 == 0) = false := beq_eq_false_iff_ne.mpr c29
                            have c29b1 : (t151 != 0) = true := bne_iff_ne.mpr c29
                            obtain rfl := Option.some.inj H
                            go_wp2
                            go_ret
                            exact ⟨by first | rfl | (simp [errW_none, errW_some] <;> rfl) | (simp [*, errW_none, errW_some] <;> rfl), by repeat (first | (with_reducible first | exact HB.out | apply below_alloc | apply pw_below_drewN | apply below_drew1) | exact HB.out)⟩
                      · rw [if_neg c26] at H
                        have c26b0 : (x5_12 != x9_14) = false := by simpa using c26
                        (try (have c26b1 : decide (x5_12 = x9_14) = true := by simpa using c26))
                        (try (have c26b2 : (x5_12 == x9_14) = true := by simpa using c26))
                        clear c26
                        by_cases c30 : t151 = 0
                        · rw [if_pos c30] at H
                          have c30b0 : (t151 == 0) = true := beq_iff_eq.mpr c30
                          have c30b1 : (t151 != 0) = false := bne_eq_false_iff_eq.mpr c30
                          clear c30
                          obtain rfl := Option.some.inj H
                          go_wp2
                          go_ret
                          exact ⟨by first | rfl | (simp [errW_none, errW_some] <;> rfl) | (simp [*, errW_none, errW_some] <;> rfl), by repeat (first | (with_reducible first | exact HB.out | apply below_alloc | apply pw_below_drewN | apply below_drew1) | exact HB.out)⟩
                        · rw [if_neg c30] at H
                          have c30b0 : (t151 == 0) = false := beq_eq_false_iff_ne.mpr c30
                          have c30b1 : (t151 != 0) = true := bne_iff_ne.mpr c30
                          obtain rfl := Option.some.inj H
                          go_wp2
                          go_ret
                          exact ⟨by first | rfl | (simp [errW_none, errW_some] <;> rfl) | (simp [*, errW_none, errW_some] <;> rfl), by repeat (first | (with_reducible first | exact HB.out | apply below_alloc | apply pw_below_drewN | apply below_drew1) | exact HB.out)⟩
  · replace c7 := Bool.eq_false_iff.mpr c7
    subst c7
    have H1 : (some false) = some r := by rw [if_neg (show ¬ (false = true) by decide)] at H; exact H
    clear H
    have H := H1
    clear H1
    obtain rfl := Option.some.inj H
    go_enter Try.func10, Try.ntmps10
    go_wp2_with (first | ((with_reducible refine gate_callee (f := 14) rfl ?_); refine goesL_ (some 18) rfl rfl Try.func14 (by kernel_rfl) rfl #[.int .u64 a0] rfl (by (try simp only [List.map_toArray, List.map_cons, List.map_nil]); first | done | rfl | (simp only [List.length_drop, List.length_take]; rfl)) ?_; (with_reducible refine (f64_Split.calls k a0 t142 t143 t144 t145 _ A3.out).mono ?_); rintro e w' ⟨rfl, ⟨nd, rfl⟩⟩; refine ⟨_, rfl, ?_⟩) | ((with_reducible refine gate_callee (f := 14) rfl ?_); refine goesL_ (some 25) rfl rfl Try.func14 (by kernel_rfl) rfl #[.int .u64 a1] rfl (by (try simp only [List.map_toArray, List.map_cons, List.map_nil]); first | done | rfl | (simp only [List.length_drop, List.length_take]; rfl)) ?_; (with_reducible refine (f64_Split.calls k a1 t146 t147 t148 t149 _ A4.out).mono ?_); rintro e w' ⟨rfl, ⟨nd, rfl⟩⟩; refine ⟨_, rfl, ?_⟩) | ((with_reducible refine gate_callee (f := 23) rfl ?_); refine goesL_ (some 33) rfl rfl Try.func23 (by kernel_rfl) rfl #[.int .u64 a0, .int .u64 a1] rfl (by (try simp only [List.map_toArray, List.map_cons, List.map_nil]); first | done | rfl | (simp only [List.length_drop, List.length_take]; rfl)) ?_; (with_reducible refine (f64_Cmp.calls k a0 a1 t150 t151 _ A5.out).mono ?_); rintro e w' ⟨rfl, ⟨nd, rfl⟩⟩; refine ⟨_, rfl, ?_⟩) | ((with_reducible refine gate_callee (f := 13) rfl ?_); refine goesL_ (some 36) rfl rfl Try.func13 (by kernel_rfl) rfl #[] rfl (by (try simp only [List.map_toArray, List.map_cons, List.map_nil]); first | done | rfl | (simp only [List.length_drop, List.length_take]; rfl)) ?_; (with_reducible refine (plumblaw06_alive.calls k  false _ A6.out).mono ?_); rintro e w31 ⟨rfl, hb⟩; refine ⟨_, rfl, ?_⟩; have n0_ := Aside0.mk (below_step (by repeat (first | (with_reducible first | exact HB.out | apply below_alloc | apply pw_below_drewN | apply below_drew1) | exact HB.out)) hb); clear HB; have HB := n0_; clear n0_; (try clear hb); (try clear hb2); (try clear hk); (try clear hi)))
    go_ret
    exact ⟨by first | rfl | (simp [errW_none, errW_some] <;> rfl) | (simp [*, errW_none, errW_some] <;> rfl), by repeat (first | (with_reducible first | exact HB.out | apply below_alloc | apply pw_below_drewN | apply below_drew1) | exact HB.out)⟩

/-- THE ONE PURE STATEMENT of plumblaw06_F64Numbers: yours. -/
def plumblaw06_F64Numbers.Pure : Prop := ∀ (a0 : Int) (a1 : Int), (Lit.int .u64 a0).wf = true → (Lit.int .u64 a1).wf = true → ∃ k, plumblaw06_F64Numbers.f k a0 a1 = some true
theorem plumblaw06_F64Numbers.walk (P : plumblaw06_F64Numbers.Pure) (a0 : Int) (a1 : Int) (w : World) (w0 : (Lit.int .u64 a0).wf = true) (w1 : (Lit.int .u64 a1).wf = true) :
    Calls Try.prog 10 #[.int .u64 a0, .int .u64 a1] w fun e w' => e = .returned (.bool true) ∧ Below w.heap.size w w' := by
  obtain ⟨k, h⟩ := P a0 a1 w0 w1
  refine (plumblaw06_F64Numbers.calls k a0 a1 true w h).mono ?_
  rintro e w' ⟨rfl, hd⟩
  exact ⟨rfl, hd⟩

end Go.Proofs.Ytpnndhbeahajkaa.PF64Numbers
