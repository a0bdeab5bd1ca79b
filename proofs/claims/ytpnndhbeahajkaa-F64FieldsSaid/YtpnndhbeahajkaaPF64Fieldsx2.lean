/- Go functions as Lean functions and their contracts: each call comes to what the Lean function says; or a law's row out of them. No conditions. Written by this session's wip/hprint.py (the kit's print with contracts and repairs of my own). -/
import Derived.Test.YtpnndhbeahajkaaPF64Fieldsx0
import Derived.Test.YtpnndhbeahajkaaPF64Fieldsx1
namespace Go.Proofs.Ytpnndhbeahajkaa.PF64Fields
open Go.RowKit Go.Proofs.YtpnndhbeahajkaaW.PrintWords Go.Proofs.YtpnndhbeahajkaaW.PrintLast Go.Proofs.YtpnndhbeahajkaaW.PrintMore
attribute [local go_sem] max2_int min2_int max_two min_two max_three min_three max_four min_four   -- for this text's walks alone
set_option linter.unusedVariables false
set_option linter.unusedSimpArgs false

/-! ### plumblaw06_alive: function 13 -/
def plumblaw06_alive.f (k : Nat)  : Option (Bool) := (f64_Split.f k 4607182418800017408).bind fun bt111 => ((f64_Next.f k 4607182418800017408).bind fun bt115 => ((f64_Join.f k true 3 (-1)).bind fun bt117 => (if bt111.1 = true then (some false) else (if bt111.2.1 = 4503599627370496 then (if bt111.2.2.1 = (-52) then (if bt111.2.2.2 = 0 then (if bt115.1 = 4607182418800017409 then (if bt115.2 = 0 then (if bt117.1 = 13832806255468478464 then (some (bt117.2 == 0)) else (some false)) else (some false)) else (some false)) else (some false)) else (some false)) else (some false)))))
theorem plumblaw06_alive.mono : ∀ k, LeO (plumblaw06_alive.f k ) (plumblaw06_alive.f (k + 1) ) := by
  intro  k
  unfold plumblaw06_alive.f
  repeat' first
      | (with_reducible exact f64_Join.mono _ _ _ _)
      | (with_reducible exact f64_Next.mono _ _)
      | (with_reducible exact f64_Split.mono _ _)
      | (with_reducible exact LeO.refl _)
      | (with_reducible exact LeO.none _)
      | (with_reducible refine LeO.ite ?_ ?_)
      | (with_reducible refine LeO.bind ?_ (fun _ => ?_))
      | exact f64_Join.mono _ _ _ _
      | exact f64_Next.mono _ _
      | exact f64_Split.mono _ _
      | exact LeO.none _
      | refine LeO.ite ?_ ?_
      | refine LeO.bind ?_ (fun _ => ?_)
set_option maxHeartbeats 8000000 in
set_option maxRecDepth 100000 in
theorem plumblaw06_alive.calls (k : Nat)  (r : Bool) (w : World) (h : plumblaw06_alive.f k  = some r) :
    Calls Try.prog 13 #[] w fun e w' => e = .returned (.bool r) ∧ Below w.heap.size w w' := by
  have HB := Aside0.mk (Below.refl w.heap.size w)
  have H : ((f64_Split.f k 4607182418800017408).bind fun bt111 => ((f64_Next.f k 4607182418800017408).bind fun bt115 => ((f64_Join.f k true 3 (-1)).bind fun bt117 => (if bt111.1 = true then (some false) else (if bt111.2.1 = 4503599627370496 then (if bt111.2.2.1 = (-52) then (if bt111.2.2.2 = 0 then (if bt115.1 = 4607182418800017409 then (if bt115.2 = 0 then (if bt117.1 = 13832806255468478464 then (some (bt117.2 == 0)) else (some false)) else (some false)) else (some false)) else (some false)) else (some false)) else (some false)))))) = some r := h
  clear h
  replace H := Option.bind_eq_some_iff.mp H
  obtain ⟨⟨t111, t112, t113, t114⟩, A10, H⟩ := H
  replace H : ((f64_Next.f k 4607182418800017408).bind fun bt115 => ((f64_Join.f k true 3 (-1)).bind fun bt117 => (if t111 = true then (some false) else (if t112 = 4503599627370496 then (if t113 = (-52) then (if t114 = 0 then (if bt115.1 = 4607182418800017409 then (if bt115.2 = 0 then (if bt117.1 = 13832806255468478464 then (some (bt117.2 == 0)) else (some false)) else (some false)) else (some false)) else (some false)) else (some false)) else (some false))))) = some r := H
  have A1 := Aside0.mk A10
  clear A10
  replace H := Option.bind_eq_some_iff.mp H
  obtain ⟨⟨t115, t116⟩, A20, H⟩ := H
  replace H : ((f64_Join.f k true 3 (-1)).bind fun bt117 => (if t111 = true then (some false) else (if t112 = 4503599627370496 then (if t113 = (-52) then (if t114 = 0 then (if t115 = 4607182418800017409 then (if t116 = 0 then (if bt117.1 = 13832806255468478464 then (some (bt117.2 == 0)) else (some false)) else (some false)) else (some false)) else (some false)) else (some false)) else (some false)))) = some r := H
  have A2 := Aside0.mk A20
  clear A20
  replace H := Option.bind_eq_some_iff.mp H
  obtain ⟨⟨t117, t118⟩, A30, H⟩ := H
  replace H : (if t111 = true then (some false) else (if t112 = 4503599627370496 then (if t113 = (-52) then (if t114 = 0 then (if t115 = 4607182418800017409 then (if t116 = 0 then (if t117 = 13832806255468478464 then (some (t118 == 0)) else (some false)) else (some false)) else (some false)) else (some false)) else (some false)) else (some false))) = some r := H
  have A3 := Aside0.mk A30
  clear A30
  by_cases c4 : t111 = true
  · subst c4
    have H1 : (some false) = some r := by rw [if_pos rfl] at H; exact H
    clear H
    have H := H1
    clear H1
    obtain rfl := Option.some.inj H
    go_enter Try.func13, Try.ntmps13
    go_wp2_with (first | ((with_reducible refine gate_callee (f := 14) rfl ?_); refine goesL_ (some 10) rfl rfl Try.func14 (by kernel_rfl) rfl #[.int .u64 4607182418800017408] rfl (by (try simp only [List.map_toArray, List.map_cons, List.map_nil]); first | done | rfl | (simp only [List.length_drop, List.length_take]; rfl)) ?_; (with_reducible refine (f64_Split.calls k 4607182418800017408 true t112 t113 t114 _ A1.out).mono ?_); rintro e w' ⟨rfl, ⟨nd, rfl⟩⟩; refine ⟨_, rfl, ?_⟩) | ((with_reducible refine gate_callee (f := 22) rfl ?_); refine goesL_ (some 16) rfl rfl Try.func22 (by kernel_rfl) rfl #[.int .u64 4607182418800017408] rfl (by (try simp only [List.map_toArray, List.map_cons, List.map_nil]); first | done | rfl | (simp only [List.length_drop, List.length_take]; rfl)) ?_; (with_reducible refine (f64_Next.calls k 4607182418800017408 t115 t116 _ A2.out).mono ?_); rintro e w' ⟨rfl, ⟨nd, rfl⟩⟩; refine ⟨_, rfl, ?_⟩) | ((with_reducible refine gate_callee (f := 11) rfl ?_); refine goesL_ (some 20) rfl rfl Try.func11 (by kernel_rfl) rfl #[.bool true, .int .u64 3, .int .i64 (-1)] rfl (by (try simp only [List.map_toArray, List.map_cons, List.map_nil]); first | done | rfl | (simp only [List.length_drop, List.length_take]; rfl)) ?_; (with_reducible refine (f64_Join.calls k true 3 (-1) t117 t118 _ A3.out).mono ?_); rintro e w5 ⟨rfl, hb⟩; refine ⟨_, rfl, ?_⟩; have n0_ := Aside0.mk (below_step (by repeat (first | (with_reducible first | exact HB.out | apply below_alloc | apply pw_below_drewN | apply below_drew1) | exact HB.out)) hb); clear HB; have HB := n0_; clear n0_; (try clear hb); (try clear hb2); (try clear hk); (try clear hi)))
    go_ret
    exact ⟨by first | rfl | (simp [errW_none, errW_some] <;> rfl) | (simp [*, errW_none, errW_some] <;> rfl), by repeat (first | (with_reducible first | exact HB.out | apply below_alloc | apply pw_below_drewN | apply below_drew1) | exact HB.out)⟩
  · replace c4 := Bool.eq_false_iff.mpr c4
    subst c4
    have H1 : (if t112 = 4503599627370496 then (if t113 = (-52) then (if t114 = 0 then (if t115 = 4607182418800017409 then (if t116 = 0 then (if t117 = 13832806255468478464 then (some (t118 == 0)) else (some false)) else (some false)) else (some false)) else (some false)) else (some false)) else (some false)) = some r := by rw [if_neg (show ¬ (false = true) by decide)] at H; exact H
    clear H
    have H := H1
    clear H1
    by_cases c6 : t112 = 4503599627370496
    · rw [if_pos c6] at H
      have c6b0 : (t112 == 4503599627370496) = true := beq_iff_eq.mpr c6
      have c6b1 : (t112 != 4503599627370496) = false := bne_eq_false_iff_eq.mpr c6
      clear c6
      by_cases c7 : t113 = (-52)
      · rw [if_pos c7] at H
        have c7b0 : (t113 == (-52)) = true := beq_iff_eq.mpr c7
        have c7b1 : (t113 != (-52)) = false := bne_eq_false_iff_eq.mpr c7
        clear c7
        by_cases c8 : t114 = 0
        · rw [if_pos c8] at H
          have c8b0 : (t114 == 0) = true := beq_iff_eq.mpr c8
          have c8b1 : (t114 != 0) = false := bne_eq_false_iff_eq.mpr c8
          clear c8
          by_cases c9 : t115 = 4607182418800017409
          · rw [if_pos c9] at H
            have c9b0 : (t115 == 4607182418800017409) = true := beq_iff_eq.mpr c9
            have c9b1 : (t115 != 4607182418800017409) = false := bne_eq_false_iff_eq.mpr c9
            clear c9
            by_cases c10 : t116 = 0
            · rw [if_pos c10] at H
              have c10b0 : (t116 == 0) = true := beq_iff_eq.mpr c10
              have c10b1 : (t116 != 0) = false := bne_eq_false_iff_eq.mpr c10
              clear c10
              by_cases c11 : t117 = 13832806255468478464
              · rw [if_pos c11] at H
                have c11b0 : (t117 == 13832806255468478464) = true := beq_iff_eq.mpr c11
                have c11b1 : (t117 != 13832806255468478464) = false := bne_eq_false_iff_eq.mpr c11
                clear c11
                obtain rfl := Option.some.inj H
                go_enter Try.func13, Try.ntmps13
                go_wp2_with (first | ((with_reducible refine gate_callee (f := 14) rfl ?_); refine goesL_ (some 10) rfl rfl Try.func14 (by kernel_rfl) rfl #[.int .u64 4607182418800017408] rfl (by (try simp only [List.map_toArray, List.map_cons, List.map_nil]); first | done | rfl | (simp only [List.length_drop, List.length_take]; rfl)) ?_; (with_reducible refine (f64_Split.calls k 4607182418800017408 false t112 t113 t114 _ A1.out).mono ?_); rintro e w' ⟨rfl, ⟨nd, rfl⟩⟩; refine ⟨_, rfl, ?_⟩) | ((with_reducible refine gate_callee (f := 22) rfl ?_); refine goesL_ (some 16) rfl rfl Try.func22 (by kernel_rfl) rfl #[.int .u64 4607182418800017408] rfl (by (try simp only [List.map_toArray, List.map_cons, List.map_nil]); first | done | rfl | (simp only [List.length_drop, List.length_take]; rfl)) ?_; (with_reducible refine (f64_Next.calls k 4607182418800017408 t115 t116 _ A2.out).mono ?_); rintro e w' ⟨rfl, ⟨nd, rfl⟩⟩; refine ⟨_, rfl, ?_⟩) | ((with_reducible refine gate_callee (f := 11) rfl ?_); refine goesL_ (some 20) rfl rfl Try.func11 (by kernel_rfl) rfl #[.bool true, .int .u64 3, .int .i64 (-1)] rfl (by (try simp only [List.map_toArray, List.map_cons, List.map_nil]); first | done | rfl | (simp only [List.length_drop, List.length_take]; rfl)) ?_; (with_reducible refine (f64_Join.calls k true 3 (-1) t117 t118 _ A3.out).mono ?_); rintro e w12 ⟨rfl, hb⟩; refine ⟨_, rfl, ?_⟩; have n0_ := Aside0.mk (below_step (by repeat (first | (with_reducible first | exact HB.out | apply below_alloc | apply pw_below_drewN | apply below_drew1) | exact HB.out)) hb); clear HB; have HB := n0_; clear n0_; (try clear hb); (try clear hb2); (try clear hk); (try clear hi)))
                go_ret
                exact ⟨by first | rfl | (simp [errW_none, errW_some] <;> rfl) | (simp [*, errW_none, errW_some] <;> rfl), by repeat (first | (with_reducible first | exact HB.out | apply below_alloc | apply pw_below_drewN | apply below_drew1) | exact HB.out)⟩
              · rw [if_neg c11] at H
                have c11b0 : (t117 == 13832806255468478464) = false := beq_eq_false_iff_ne.mpr c11
                have c11b1 : (t117 != 13832806255468478464) = true := bne_iff_ne.mpr c11
                obtain rfl := Option.some.inj H
                go_enter Try.func13, Try.ntmps13
                go_wp2_with (first | ((with_reducible refine gate_callee (f := 14) rfl ?_); refine goesL_ (some 10) rfl rfl Try.func14 (by kernel_rfl) rfl #[.int .u64 4607182418800017408] rfl (by (try simp only [List.map_toArray, List.map_cons, List.map_nil]); first | done | rfl | (simp only [List.length_drop, List.length_take]; rfl)) ?_; (with_reducible refine (f64_Split.calls k 4607182418800017408 false t112 t113 t114 _ A1.out).mono ?_); rintro e w' ⟨rfl, ⟨nd, rfl⟩⟩; refine ⟨_, rfl, ?_⟩) | ((with_reducible refine gate_callee (f := 22) rfl ?_); refine goesL_ (some 16) rfl rfl Try.func22 (by kernel_rfl) rfl #[.int .u64 4607182418800017408] rfl (by (try simp only [List.map_toArray, List.map_cons, List.map_nil]); first | done | rfl | (simp only [List.length_drop, List.length_take]; rfl)) ?_; (with_reducible refine (f64_Next.calls k 4607182418800017408 t115 t116 _ A2.out).mono ?_); rintro e w' ⟨rfl, ⟨nd, rfl⟩⟩; refine ⟨_, rfl, ?_⟩) | ((with_reducible refine gate_callee (f := 11) rfl ?_); refine goesL_ (some 20) rfl rfl Try.func11 (by kernel_rfl) rfl #[.bool true, .int .u64 3, .int .i64 (-1)] rfl (by (try simp only [List.map_toArray, List.map_cons, List.map_nil]); first | done | rfl | (simp only [List.length_drop, List.length_take]; rfl)) ?_; (with_reducible refine (f64_Join.calls k true 3 (-1) t117 t118 _ A3.out).mono ?_); rintro e w13 ⟨rfl, hb⟩; refine ⟨_, rfl, ?_⟩; have n0_ := Aside0.mk (below_step (by repeat (first | (with_reducible first | exact HB.out | apply below_alloc | apply pw_below_drewN | apply below_drew1) | exact HB.out)) hb); clear HB; have HB := n0_; clear n0_; (try clear hb); (try clear hb2); (try clear hk); (try clear hi)))
                go_ret
                exact ⟨by first | rfl | (simp [errW_none, errW_some] <;> rfl) | (simp [*, errW_none, errW_some] <;> rfl), by repeat (first | (with_reducible first | exact HB.out | apply below_alloc | apply pw_below_drewN | apply below_drew1) | exact HB.out)⟩
            · rw [if_neg c10] at H
              have c10b0 : (t116 == 0) = false := beq_eq_false_iff_ne.mpr c10
              have c10b1 : (t116 != 0) = true := bne_iff_ne.mpr c10
              obtain rfl := Option.some.inj H
              go_enter Try.func13, Try.ntmps13
              go_wp2_with (first | ((with_reducible refine gate_callee (f := 14) rfl ?_); refine goesL_ (some 10) rfl rfl Try.func14 (by kernel_rfl) rfl #[.int .u64 4607182418800017408] rfl (by (try simp only [List.map_toArray, List.map_cons, List.map_nil]); first | done | rfl | (simp only [List.length_drop, List.length_take]; rfl)) ?_; (with_reducible refine (f64_Split.calls k 4607182418800017408 false t112 t113 t114 _ A1.out).mono ?_); rintro e w' ⟨rfl, ⟨nd, rfl⟩⟩; refine ⟨_, rfl, ?_⟩) | ((with_reducible refine gate_callee (f := 22) rfl ?_); refine goesL_ (some 16) rfl rfl Try.func22 (by kernel_rfl) rfl #[.int .u64 4607182418800017408] rfl (by (try simp only [List.map_toArray, List.map_cons, List.map_nil]); first | done | rfl | (simp only [List.length_drop, List.length_take]; rfl)) ?_; (with_reducible refine (f64_Next.calls k 4607182418800017408 t115 t116 _ A2.out).mono ?_); rintro e w' ⟨rfl, ⟨nd, rfl⟩⟩; refine ⟨_, rfl, ?_⟩) | ((with_reducible refine gate_callee (f := 11) rfl ?_); refine goesL_ (some 20) rfl rfl Try.func11 (by kernel_rfl) rfl #[.bool true, .int .u64 3, .int .i64 (-1)] rfl (by (try simp only [List.map_toArray, List.map_cons, List.map_nil]); first | done | rfl | (simp only [List.length_drop, List.length_take]; rfl)) ?_; (with_reducible refine (f64_Join.calls k true 3 (-1) t117 t118 _ A3.out).mono ?_); rintro e w14 ⟨rfl, hb⟩; refine ⟨_, rfl, ?_⟩; have n0_ := Aside0.mk (below_step (by repeat (first | (with_reducible first | exact HB.out | apply below_alloc | apply pw_below_drewN | apply below_drew1) | exact HB.out)) hb); clear HB; have HB := n0_; clear n0_; (try clear hb); (try clear hb2); (try clear hk); (try clear hi)))
              go_ret
              exact ⟨by first | rfl | (simp [errW_none, errW_some] <;> rfl) | (simp [*, errW_none, errW_some] <;> rfl), by repeat (first | (with_reducible first | exact HB.out | apply below_alloc | apply pw_below_drewN | apply below_drew1) | exact HB.out)⟩
          · rw [if_neg c9] at H
            have c9b0 : (t115 == 4607182418800017409) = false := beq_eq_false_iff_ne.mpr c9
            have c9b1 : (t115 != 4607182418800017409) = true := bne_iff_ne.mpr c9
            obtain rfl := Option.some.inj H
            go_enter Try.func13, Try.ntmps13
            go_wp2_with (first | ((with_reducible refine gate_callee (f := 14) rfl ?_); refine goesL_ (some 10) rfl rfl Try.func14 (by kernel_rfl) rfl #[.int .u64 4607182418800017408] rfl (by (try simp only [List.map_toArray, List.map_cons, List.map_nil]); first | done | rfl | (simp only [List.length_drop, List.length_take]; rfl)) ?_; (with_reducible refine (f64_Split.calls k 4607182418800017408 false t112 t113 t114 _ A1.out).mono ?_); rintro e w' ⟨rfl, ⟨nd, rfl⟩⟩; refine ⟨_, rfl, ?_⟩) | ((with_reducible refine gate_callee (f := 22) rfl ?_); refine goesL_ (some 16) rfl rfl Try.func22 (by kernel_rfl) rfl #[.int .u64 4607182418800017408] rfl (by (try simp only [List.map_toArray, List.map_cons, List.map_nil]); first | done | rfl | (simp only [List.length_drop, List.length_take]; rfl)) ?_; (with_reducible refine (f64_Next.calls k 4607182418800017408 t115 t116 _ A2.out).mono ?_); rintro e w' ⟨rfl, ⟨nd, rfl⟩⟩; refine ⟨_, rfl, ?_⟩) | ((with_reducible refine gate_callee (f := 11) rfl ?_); refine goesL_ (some 20) rfl rfl Try.func11 (by kernel_rfl) rfl #[.bool true, .int .u64 3, .int .i64 (-1)] rfl (by (try simp only [List.map_toArray, List.map_cons, List.map_nil]); first | done | rfl | (simp only [List.length_drop, List.length_take]; rfl)) ?_; (with_reducible refine (f64_Join.calls k true 3 (-1) t117 t118 _ A3.out).mono ?_); rintro e w15 ⟨rfl, hb⟩; refine ⟨_, rfl, ?_⟩; have n0_ := Aside0.mk (below_step (by repeat (first | (with_reducible first | exact HB.out | apply below_alloc | apply pw_below_drewN | apply below_drew1) | exact HB.out)) hb); clear HB; have HB := n0_; clear n0_; (try clear hb); (try clear hb2); (try clear hk); (try clear hi)))
            go_ret
            exact ⟨by first | rfl | (simp [errW_none, errW_some] <;> rfl) | (simp [*, errW_none, errW_some] <;> rfl), by repeat (first | (with_reducible first | exact HB.out | apply below_alloc | apply pw_below_drewN | apply below_drew1) | exact HB.out)⟩
        · rw [if_neg c8] at H
          have c8b0 : (t114 == 0) = false := beq_eq_false_iff_ne.mpr c8
          have c8b1 : (t114 != 0) = true := bne_iff_ne.mpr c8
          obtain rfl := Option.some.inj H
          go_enter Try.func13, Try.ntmps13
          go_wp2_with (first | ((with_reducible refine gate_callee (f := 14) rfl ?_); refine goesL_ (some 10) rfl rfl Try.func14 (by kernel_rfl) rfl #[.int .u64 4607182418800017408] rfl (by (try simp only [List.map_toArray, List.map_cons, List.map_nil]); first | done | rfl | (simp only [List.length_drop, List.length_take]; rfl)) ?_; (with_reducible refine (f64_Split.calls k 4607182418800017408 false t112 t113 t114 _ A1.out).mono ?_); rintro e w' ⟨rfl, ⟨nd, rfl⟩⟩; refine ⟨_, rfl, ?_⟩) | ((with_reducible refine gate_callee (f := 22) rfl ?_); refine goesL_ (some 16) rfl rfl Try.func22 (by kernel_rfl) rfl #[.int .u64 4607182418800017408] rfl (by (try simp only [List.map_toArray, List.map_cons, List.map_nil]); first | done | rfl | (simp only [List.length_drop, List.length_take]; rfl)) ?_; (with_reducible refine (f64_Next.calls k 4607182418800017408 t115 t116 _ A2.out).mono ?_); rintro e w' ⟨rfl, ⟨nd, rfl⟩⟩; refine ⟨_, rfl, ?_⟩) | ((with_reducible refine gate_callee (f := 11) rfl ?_); refine goesL_ (some 20) rfl rfl Try.func11 (by kernel_rfl) rfl #[.bool true, .int .u64 3, .int .i64 (-1)] rfl (by (try simp only [List.map_toArray, List.map_cons, List.map_nil]); first | done | rfl | (simp only [List.length_drop, List.length_take]; rfl)) ?_; (with_reducible refine (f64_Join.calls k true 3 (-1) t117 t118 _ A3.out).mono ?_); rintro e w16 ⟨rfl, hb⟩; refine ⟨_, rfl, ?_⟩; have n0_ := Aside0.mk (below_step (by repeat (first | (with_reducible first | exact HB.out | apply below_alloc | apply pw_below_drewN | apply below_drew1) | exact HB.out)) hb); clear HB; have HB := n0_; clear n0_; (try clear hb); (try clear hb2); (try clear hk); (try clear hi)))
          go_ret
          exact ⟨by first | rfl | (simp [errW_none, errW_some] <;> rfl) | (simp [*, errW_none, errW_some] <;> rfl), by repeat (first | (with_reducible first | exact HB.out | apply below_alloc | apply pw_below_drewN | apply below_drew1) | exact HB.out)⟩
      · rw [if_neg c7] at H
        have c7b0 : (t113 == (-52)) = false := beq_eq_false_iff_ne.mpr c7
        have c7b1 : (t113 != (-52)) = true := bne_iff_ne.mpr c7
        obtain rfl := Option.some.inj H
        go_enter Try.func13, Try.ntmps13
        go_wp2_with (first | ((with_reducible refine gate_callee (f := 14) rfl ?_); refine goesL_ (some 10) rfl rfl Try.func14 (by kernel_rfl) rfl #[.int .u64 4607182418800017408] rfl (by (try simp only [List.map_toArray, List.map_cons, List.map_nil]); first | done | rfl | (simp only [List.length_drop, List.length_take]; rfl)) ?_; (with_reducible refine (f64_Split.calls k 4607182418800017408 false t112 t113 t114 _ A1.out).mono ?_); rintro e w' ⟨rfl, ⟨nd, rfl⟩⟩; refine ⟨_, rfl, ?_⟩) | ((with_reducible refine gate_callee (f := 22) rfl ?_); refine goesL_ (some 16) rfl rfl Try.func22 (by kernel_rfl) rfl #[.int .u64 4607182418800017408] rfl (by (try simp only [List.map_toArray, List.map_cons, List.map_nil]); first | done | rfl | (simp only [List.length_drop, List.length_take]; rfl)) ?_; (with_reducible refine (f64_Next.calls k 4607182418800017408 t115 t116 _ A2.out).mono ?_); rintro e w' ⟨rfl, ⟨nd, rfl⟩⟩; refine ⟨_, rfl, ?_⟩) | ((with_reducible refine gate_callee (f := 11) rfl ?_); refine goesL_ (some 20) rfl rfl Try.func11 (by kernel_rfl) rfl #[.bool true, .int .u64 3, .int .i64 (-1)] rfl (by (try simp only [List.map_toArray, List.map_cons, List.map_nil]); first | done | rfl | (simp only [List.length_drop, List.length_take]; rfl)) ?_; (with_reducible refine (f64_Join.calls k true 3 (-1) t117 t118 _ A3.out).mono ?_); rintro e w17 ⟨rfl, hb⟩; refine ⟨_, rfl, ?_⟩; have n0_ := Aside0.mk (below_step (by repeat (first | (with_reducible first | exact HB.out | apply below_alloc | apply pw_below_drewN | apply below_drew1) | exact HB.out)) hb); clear HB; have HB := n0_; clear n0_; (try clear hb); (try clear hb2); (try clear hk); (try clear hi)))
        go_ret
        exact ⟨by first | rfl | (simp [errW_none, errW_some] <;> rfl) | (simp [*, errW_none, errW_some] <;> rfl), by repeat (first | (with_reducible first | exact HB.out | apply below_alloc | apply pw_below_drewN | apply below_drew1) | exact HB.out)⟩
    · rw [if_neg c6] at H
      have c6b0 : (t112 == 4503599627370496) = false := beq_eq_false_iff_ne.mpr c6
      have c6b1 : (t112 != 4503599627370496) = true := bne_iff_ne.mpr c6
      obtain rfl := Option.some.inj H
      go_enter Try.func13, Try.ntmps13
      go_wp2_with (first | ((with_reducible refine gate_callee (f := 14) rfl ?_); refine goesL_ (some 10) rfl rfl Try.func14 (by kernel_rfl) rfl #[.int .u64 4607182418800017408] rfl (by (try simp only [List.map_toArray, List.map_cons, List.map_nil]); first | done | rfl | (simp only [List.length_drop, List.length_take]; rfl)) ?_; (with_reducible refine (f64_Split.calls k 4607182418800017408 false t112 t113 t114 _ A1.out).mono ?_); rintro e w' ⟨rfl, ⟨nd, rfl⟩⟩; refine ⟨_, rfl, ?_⟩) | ((with_reducible refine gate_callee (f := 22) rfl ?_); refine goesL_ (some 16) rfl rfl Try.func22 (by kernel_rfl) rfl #[.int .u64 4607182418800017408] rfl (by (try simp only [List.map_toArray, List.map_cons, List.map_nil]); first | done | rfl | (simp only [List.length_drop, List.length_take]; rfl)) ?_; (with_reducible refine (f64_Next.calls k 4607182418800017408 t115 t116 _ A2.out).mono ?_); rintro e w' ⟨rfl, ⟨nd, rfl⟩⟩; refine ⟨_, rfl, ?_⟩) | ((with_reducible refine gate_callee (f := 11) rfl ?_); refine goesL_ (some 20) rfl rfl Try.func11 (by kernel_rfl) rfl #[.bool true, .int .u64 3, .int .i64 (-1)] rfl (by (try simp only [List.map_toArray, List.map_cons, List.map_nil]); first | done | rfl | (simp only [List.length_drop, List.length_take]; rfl)) ?_; (with_reducible refine (f64_Join.calls k true 3 (-1) t117 t118 _ A3.out).mono ?_); rintro e w18 ⟨rfl, hb⟩; refine ⟨_, rfl, ?_⟩; have n0_ := Aside0.mk (below_step (by repeat (first | (with_reducible first | exact HB.out | apply below_alloc | apply pw_below_drewN | apply below_drew1) | exact HB.out)) hb); clear HB; have HB := n0_; clear n0_; (try clear hb); (try clear hb2); (try clear hk); (try clear hi)))
      go_ret
      exact ⟨by first | rfl | (simp [errW_none, errW_some] <;> rfl) | (simp [*, errW_none, errW_some] <;> rfl), by repeat (first | (with_reducible first | exact HB.out | apply below_alloc | apply pw_below_drewN | apply below_drew1) | exact HB.out)⟩

/-! ### plumbref06_fields: function 38 -/
def plumbref06_fields.f (a0 : Int) : Option (Bool × Int × Int) := some (((a0 / 9223372036854775808) == 1), wrap64 (Go.bits .and .u64 (a0 / 4503599627370496) 2047), Go.bits .and .u64 a0 4503599627370495)
set_option maxHeartbeats 8000000 in
set_option maxRecDepth 100000 in
theorem plumbref06_fields.calls (a0 : Int) (r1 : Bool) (r2 : Int) (r3 : Int) (w : World) (h : plumbref06_fields.f a0 = some (r1, r2, r3)) :
    Calls Try.prog 38 #[.int .u64 a0] w fun e w' => e = .returned (.tuple #[.bool r1, .int .i64 r2, .int .u64 r3]) ∧ Drawn0 w w' := by
  have H : (some (((a0 / 9223372036854775808) == 1), wrap64 (Go.bits .and .u64 (a0 / 4503599627370496) 2047), Go.bits .and .u64 a0 4503599627370495)) = some (r1, r2, r3) := h
  clear h
  simp only [Option.some.injEq, Prod.mk.injEq] at H
  obtain ⟨rfl, rfl, rfl⟩ := H
  go_enter Try.func38, Try.ntmps38
  go_wp2
  go_ret3
  exact ⟨by first | rfl | (simp; done) | (simp [*]; done), by repeat (first | exact Drawn0.refl _ | apply Drawn0.step)⟩

/-! ### plumbref06_Split: function 15 -/
def plumbref06_Split.f (a0 : Int) : Option (Bool × Int × Int × Int) := (plumbref06_fields.f a0).bind fun bt119 => (if bt119.2.1 = 2047 then (some (false, 0, 0, 60)) else (if bt119.2.1 = 0 then (some (bt119.1, bt119.2.2, (-1074), 0)) else (some (bt119.1, IntKind.u64.wrap (4503599627370496 + bt119.2.2), wrap64 (bt119.2.1 - 1075), 0))))
set_option maxHeartbeats 8000000 in
set_option maxRecDepth 100000 in
theorem plumbref06_Split.calls (a0 : Int) (r1 : Bool) (r2 : Int) (r3 : Int) (r4 : Int) (w : World) (h : plumbref06_Split.f a0 = some (r1, r2, r3, r4)) :
    Calls Try.prog 15 #[.int .u64 a0] w fun e w' => e = .returned (.tuple #[.bool r1, .int .u64 r2, .int .i64 r3, .int .i64 r4]) ∧ Drawn0 w w' := by
  have H : ((plumbref06_fields.f a0).bind fun bt119 => (if bt119.2.1 = 2047 then (some (false, 0, 0, 60)) else (if bt119.2.1 = 0 then (some (bt119.1, bt119.2.2, (-1074), 0)) else (some (bt119.1, IntKind.u64.wrap (4503599627370496 + bt119.2.2), wrap64 (bt119.2.1 - 1075), 0))))) = some (r1, r2, r3, r4) := h
  clear h
  replace H := Option.bind_eq_some_iff.mp H
  obtain ⟨⟨t119, t120, t121⟩, A20, H⟩ := H
  replace H : (if t120 = 2047 then (some (false, 0, 0, 60)) else (if t120 = 0 then (some (t119, t121, (-1074), 0)) else (some (t119, IntKind.u64.wrap (4503599627370496 + t121), wrap64 (t120 - 1075), 0)))) = some (r1, r2, r3, r4) := H
  have A2 := Aside0.mk A20
  clear A20
  by_cases c3 : t120 = 2047
  · rw [if_pos c3] at H
    have c3b0 : (t120 == 2047) = true := beq_iff_eq.mpr c3
    have c3b1 : (t120 != 2047) = false := bne_eq_false_iff_eq.mpr c3
    clear c3
    simp only [Option.some.injEq, Prod.mk.injEq] at H
    obtain ⟨rfl, rfl, rfl, rfl⟩ := H
    go_enter Try.func15, Try.ntmps15
    go_wp2_with (first | ((with_reducible refine gate_callee (f := 38) rfl ?_); refine goesL_ (some 11) rfl rfl Try.func38 (by kernel_rfl) rfl #[.int .u64 a0] rfl (by (try simp only [List.map_toArray, List.map_cons, List.map_nil]); first | done | rfl | (simp only [List.length_drop, List.length_take]; rfl)) ?_; (with_reducible refine (plumbref06_fields.calls a0 t119 t120 t121 _ A2.out).mono ?_); rintro e w' ⟨rfl, ⟨nd, rfl⟩⟩; refine ⟨_, rfl, ?_⟩))
    refine bodyPost_ret (results_list (rs := [.tmp 2, .tmp 3, .tmp 4, .tmp 5]) rfl (by simp) (.tmp (.tmp (.tmp (.tmp .nil))))) rfl ?_
    exact ⟨by first | rfl | (simp; done) | (simp [*]; done), by repeat (first | exact Drawn0.refl _ | apply Drawn0.step)⟩
  · rw [if_neg c3] at H
    have c3b0 : (t120 == 2047) = false := beq_eq_false_iff_ne.mpr c3
    have c3b1 : (t120 != 2047) = true := bne_iff_ne.mpr c3
    by_cases c4 : t120 = 0
    · rw [if_pos c4] at H
      have c4b0 : (t120 == 0) = true := beq_iff_eq.mpr c4
      have c4b1 : (t120 != 0) = false := bne_eq_false_iff_eq.mpr c4
      clear c4
      simp only [Option.some.injEq, Prod.mk.injEq] at H
      obtain ⟨rfl, rfl, rfl, rfl⟩ := H
      go_enter Try.func15, Try.ntmps15
      go_wp2_with (first | ((with_reducible refine gate_callee (f := 38) rfl ?_); refine goesL_ (some 11) rfl rfl Try.func38 (by kernel_rfl) rfl #[.int .u64 a0] rfl (by (try simp only [List.map_toArray, List.map_cons, List.map_nil]); first | done | rfl | (simp only [List.length_drop, List.length_take]; rfl)) ?_; (with_reducible refine (plumbref06_fields.calls a0 t119 t120 t121 _ A2.out).mono ?_); rintro e w' ⟨rfl, ⟨nd, rfl⟩⟩; refine ⟨_, rfl, ?_⟩))
      refine bodyPost_ret (results_list (rs := [.tmp 2, .tmp 3, .tmp 4, .tmp 5]) rfl (by simp) (.tmp (.tmp (.tmp (.tmp .nil))))) rfl ?_
      exact ⟨by first | rfl | (simp; done) | (simp [*]; done), by repeat (first | exact Drawn0.refl _ | apply Drawn0.step)⟩
    · rw [if_neg c4] at H
      have c4b0 : (t120 == 0) = false := beq_eq_false_iff_ne.mpr c4
      have c4b1 : (t120 != 0) = true := bne_iff_ne.mpr c4
      simp only [Option.some.injEq, Prod.mk.injEq] at H
      obtain ⟨rfl, rfl, rfl, rfl⟩ := H
      go_enter Try.func15, Try.ntmps15
      go_wp2_with (first | ((with_reducible refine gate_callee (f := 38) rfl ?_); refine goesL_ (some 11) rfl rfl Try.func38 (by kernel_rfl) rfl #[.int .u64 a0] rfl (by (try simp only [List.map_toArray, List.map_cons, List.map_nil]); first | done | rfl | (simp only [List.length_drop, List.length_take]; rfl)) ?_; (with_reducible refine (plumbref06_fields.calls a0 t119 t120 t121 _ A2.out).mono ?_); rintro e w' ⟨rfl, ⟨nd, rfl⟩⟩; refine ⟨_, rfl, ?_⟩))
      refine bodyPost_ret (results_list (rs := [.tmp 2, .tmp 3, .tmp 4, .tmp 5]) rfl (by simp) (.tmp (.tmp (.tmp (.tmp .nil))))) rfl ?_
      exact ⟨by first | rfl | (simp; done) | (simp [*]; done), by repeat (first | exact Drawn0.refl _ | apply Drawn0.step)⟩

/-! ### plumbref06_Class: function 17 -/
def plumbref06_Class.j0 : Nat → Int → Int → Bool → Option (Int)
  | 0, _, _, _ => none
  | k + 1, x4, x5, x17 => if x17 = true then (some 4) else (if x4 = 2047 then (some 3) else (if x4 > 0 then (some 2) else (if x5 > 0 then (some 1) else (some 0))))
def plumbref06_Class.f (k : Nat) (a0 : Int) : Option (Int) := (plumbref06_fields.f a0).bind fun bt122 => (if bt122.2.1 = 2047 then (plumbref06_Class.j0 k bt122.2.1 bt122.2.2 (bt122.2.2 != 0)) else (plumbref06_Class.j0 k bt122.2.1 bt122.2.2 false))
theorem plumbref06_Class.mono_l : ∀ k, (∀ y0 y1 y2, LeO (plumbref06_Class.j0 k y0 y1 y2) (plumbref06_Class.j0 (k + 1) y0 y1 y2))
  | 0 => fun _ _ _ r h => by simp [plumbref06_Class.j0] at h
  | k + 1 => by
    have ih0 := plumbref06_Class.mono_l k
    · intro y0 y1 y2
      unfold plumbref06_Class.j0
      repeat' first
      | (with_reducible exact ih0 _ _ _)
      | (with_reducible exact LeO.refl _)
      | (with_reducible exact LeO.none _)
      | (with_reducible refine LeO.ite ?_ ?_)
      | (with_reducible refine LeO.bind ?_ (fun _ => ?_))
      | exact ih0 _ _ _
      | exact LeO.none _
      | refine LeO.ite ?_ ?_
      | refine LeO.bind ?_ (fun _ => ?_)
theorem plumbref06_Class.mono : ∀ a0 k, LeO (plumbref06_Class.f k a0) (plumbref06_Class.f (k + 1) a0) := by
  intro a0 k
  have ih0 := plumbref06_Class.mono_l k
  unfold plumbref06_Class.f
  repeat' first
      | (with_reducible exact ih0 _ _ _)
      | (with_reducible exact LeO.refl _)
      | (with_reducible exact LeO.none _)
      | (with_reducible refine LeO.ite ?_ ?_)
      | (with_reducible refine LeO.bind ?_ (fun _ => ?_))
      | exact ih0 _ _ _
      | exact LeO.none _
      | refine LeO.ite ?_ ?_
      | refine LeO.bind ?_ (fun _ => ?_)
set_option maxHeartbeats 8000000 in
set_option maxRecDepth 100000 in
theorem plumbref06_Class.calls (k : Nat) (a0 : Int) (r : Int) (w : World) (h : plumbref06_Class.f k a0 = some r) :
    Calls Try.prog 17 #[.int .u64 a0] w fun e w' => e = .returned (.int .i64 r) ∧ Drawn0 w w' := by
  have H : ((plumbref06_fields.f a0).bind fun bt122 => (if bt122.2.1 = 2047 then (plumbref06_Class.j0 k bt122.2.1 bt122.2.2 (bt122.2.2 != 0)) else (plumbref06_Class.j0 k bt122.2.1 bt122.2.2 false))) = some r := h
  clear h
  replace H := Option.bind_eq_some_iff.mp H
  obtain ⟨⟨t122, t123, t124⟩, A20, H⟩ := H
  replace H : (if t123 = 2047 then (plumbref06_Class.j0 k t123 t124 (t124 != 0)) else (plumbref06_Class.j0 k t123 t124 false)) = some r := H
  have A2 := Aside0.mk A20
  clear A20
  have HC3 := Aside0.mk H
  clear H
  go_enter Try.func17, Try.ntmps17
  go_upto_region 2 with (first | ((with_reducible refine gate_callee (f := 38) rfl ?_); refine goesL_ (some 8) rfl rfl Try.func38 (by kernel_rfl) rfl #[.int .u64 a0] rfl (by (try simp only [List.map_toArray, List.map_cons, List.map_nil]); first | done | rfl | (simp only [List.length_drop, List.length_take]; rfl)) ?_; (with_reducible refine (plumbref06_fields.calls a0 t122 t123 t124 _ A2.out).mono ?_); rintro e w' ⟨rfl, ⟨nd, rfl⟩⟩; refine ⟨_, rfl, ?_⟩))
  (try simp only [Act.put, List.setIfInBounds_toArray, List.set_cons_zero, List.set_cons_succ])
  go_cut [17] (fun v17 wc => ∃ (kq : Nat) (x17_2 : Bool), v17 = .bool x17_2 ∧ Aside0 (plumbref06_Class.j0 kq t123 t124 x17_2 = some r) ∧ Aside0 (kq ≤ k) ∧ Drawn0 w wc)
  case first =>
    have H := HC3.out
    clear HC3
    by_cases c4 : t123 = 2047
    · rw [if_pos c4] at H
      have c4b0 : (t123 == 2047) = true := beq_iff_eq.mpr c4
      have c4b1 : (t123 != 2047) = false := bne_eq_false_iff_eq.mpr c4
      clear c4
      (first | rw [c4b0] | (simp only [i64_w, i32_w]; rw [c4b0]) | skip)
      have H' := Aside0.mk H
      clear H
      go_wp2
      go_meet
      case rel => exact ⟨_, ((t124 != 0)), (by first | rfl | (simp; done) | (simp [*]; done)), H', ⟨by first | omega | exact Nat.le_refl _⟩, by repeat (first | exact Drawn0.refl _ | apply Drawn0.step)⟩
    · rw [if_neg c4] at H
      have c4b0 : (t123 == 2047) = false := beq_eq_false_iff_ne.mpr c4
      have c4b1 : (t123 != 2047) = true := bne_iff_ne.mpr c4
      (first | rw [c4b0] | (simp only [i64_w, i32_w]; rw [c4b0]) | skip)
      have H' := Aside0.mk H
      clear H
      go_wp2
      go_meet
      case rel => exact ⟨_, (false), (by first | rfl | (simp; done) | (simp [*]; done)), H', ⟨by first | omega | exact Nat.le_refl _⟩, by repeat (first | exact Drawn0.refl _ | apply Drawn0.step)⟩
  case rest =>
    clear HC3
    try clear c1
    try clear p2
    try clear c3
    try clear c4
    try clear c4b0
    try clear c4b1
    obtain ⟨kq, x17_2, rfl, HA, HJ2, ⟨mc2, rfl⟩⟩ := hcut
    cases kq with
    | zero => exact absurd HA.out (by simp [plumbref06_Class.j0])
    | succ kj2 =>
      have H := HA.out
      clear HA
      simp only [plumbref06_Class.j0] at H
      by_cases c5 : x17_2 = true
      · subst c5
        have H1 : (some 4) = some r := by rw [if_pos rfl] at H; exact H
        clear H
        have H := H1
        clear H1
        obtain rfl := Option.some.inj H
        go_wp2
        go_ret
        exact ⟨by first | rfl | (simp; done) | (simp [*]; done), by repeat (first | exact Drawn0.refl _ | apply Drawn0.step)⟩
      · replace c5 := Bool.eq_false_iff.mpr c5
        subst c5
        have H1 : (if t123 = 2047 then (some 3) else (if t123 > 0 then (some 2) else (if t124 > 0 then (some 1) else (some 0)))) = some r := by rw [if_neg (show ¬ (false = true) by decide)] at H; exact H
        clear H
        have H := H1
        clear H1
        by_cases c6 : t123 = 2047
        · rw [if_pos c6] at H
          have c6b0 : (t123 == 2047) = true := beq_iff_eq.mpr c6
          have c6b1 : (t123 != 2047) = false := bne_eq_false_iff_eq.mpr c6
          clear c6
          obtain rfl := Option.some.inj H
          go_wp2
          go_ret
          exact ⟨by first | rfl | (simp; done) | (simp [*]; done), by repeat (first | exact Drawn0.refl _ | apply Drawn0.step)⟩
        · rw [if_neg c6] at H
          have c6b0 : (t123 == 2047) = false := beq_eq_false_iff_ne.mpr c6
          have c6b1 : (t123 != 2047) = true := bne_iff_ne.mpr c6
          by_cases c7 : t123 > 0
          · rw [if_pos c7] at H
            have c7b0 : decide (0 < t123) = true := decide_eq_true c7
            clear c7
            obtain rfl := Option.some.inj H
            go_wp2
            go_ret
            exact ⟨by first | rfl | (simp; done) | (simp [*]; done), by repeat (first | exact Drawn0.refl _ | apply Drawn0.step)⟩
          · rw [if_neg c7] at H
            have c7b0 : decide (0 < t123) = false := decide_eq_false c7
            clear c7
            by_cases c8 : t124 > 0
            · rw [if_pos c8] at H
              have c8b0 : decide (0 < t124) = true := decide_eq_true c8
              clear c8
              obtain rfl := Option.some.inj H
              go_wp2
              go_ret
              exact ⟨by first | rfl | (simp; done) | (simp [*]; done), by repeat (first | exact Drawn0.refl _ | apply Drawn0.step)⟩
            · rw [if_neg c8] at H
              have c8b0 : decide (0 < t124) = false := decide_eq_false c8
              clear c8
              obtain rfl := Option.some.inj H
              go_wp2
              go_ret
              exact ⟨by first | rfl | (simp; done) | (simp [*]; done), by repeat (first | exact Drawn0.refl _ | apply Drawn0.step)⟩

/-! ### f64_Neg: function 18 -/
def f64_Neg.f (a0 : Int) : Option (Int) := some (Go.bits .xor .u64 a0 9223372036854775808)
set_option maxHeartbeats 8000000 in
set_option maxRecDepth 100000 in
theorem f64_Neg.calls (a0 : Int) (r : Int) (w : World) (h : f64_Neg.f a0 = some r) :
    Calls Try.prog 18 #[.int .u64 a0] w fun e w' => e = .returned (.int .u64 r) ∧ Drawn0 w w' := by
  have H : (some (Go.bits .xor .u64 a0 9223372036854775808)) = some r := h
  clear h
  obtain rfl := Option.some.inj H
  go_enter Try.func18, Try.ntmps18
  go_wp2
  go_ret
  exact ⟨by first | rfl | (simp; done) | (simp [*]; done), by repeat (first | exact Drawn0.refl _ | apply Drawn0.step)⟩

/-! ### plumbref06_Neg: function 19 -/
def plumbref06_Neg.f (a0 : Int) : Option (Int) := if a0 ≥ 9223372036854775808 then (some (IntKind.u64.wrap (a0 - 9223372036854775808))) else (some (IntKind.u64.wrap (a0 + 9223372036854775808)))
set_option maxHeartbeats 8000000 in
set_option maxRecDepth 100000 in
theorem plumbref06_Neg.calls (a0 : Int) (r : Int) (w : World) (h : plumbref06_Neg.f a0 = some r) :
    Calls Try.prog 19 #[.int .u64 a0] w fun e w' => e = .returned (.int .u64 r) ∧ Drawn0 w w' := by
  have H : (if a0 ≥ 9223372036854775808 then (some (IntKind.u64.wrap (a0 - 9223372036854775808))) else (some (IntKind.u64.wrap (a0 + 9223372036854775808)))) = some r := h
  clear h
  by_cases c2 : a0 ≥ 9223372036854775808
  · rw [if_pos c2] at H
    have c2b0 : decide (9223372036854775808 ≤ a0) = true := decide_eq_true c2
    clear c2
    obtain rfl := Option.some.inj H
    go_enter Try.func19, Try.ntmps19
    go_wp2
    go_ret
    exact ⟨by first | rfl | (simp; done) | (simp [*]; done), by repeat (first | exact Drawn0.refl _ | apply Drawn0.step)⟩
  · rw [if_neg c2] at H
    have c2b0 : decide (9223372036854775808 ≤ a0) = false := decide_eq_false c2
    clear c2
    obtain rfl := Option.some.inj H
    go_enter Try.func19, Try.ntmps19
    go_wp2
    go_ret
    exact ⟨by first | rfl | (simp; done) | (simp [*]; done), by repeat (first | exact Drawn0.refl _ | apply Drawn0.step)⟩

/-! ### plumblaw06_F64Fields: function 4 -/
def plumblaw06_F64Fields.f (k : Nat) (a0 : Int) : Option (Bool) := (f64_Split.f k a0).bind fun bt125 => ((plumbref06_Split.f a0).bind fun bt129 => ((plumblaw06_alive.f k).bind fun t133 => (if t133 = true then (if (bt125.1 == bt129.1) = true then (if bt125.2.1 = bt129.2.1 then (if bt125.2.2.1 = bt129.2.2.1 then (if bt125.2.2.2 = bt129.2.2.2 then ((f64_Class.f k a0).bind fun t134 => ((plumbref06_Class.f k a0).bind fun t135 => (if t134 = t135 then ((f64_Neg.f a0).bind fun t136 => ((plumbref06_Neg.f a0).bind fun t137 => (some (t136 == t137)))) else (some false)))) else (some false)) else (some false)) else (some false)) else (some false)) else (some false))))
theorem plumblaw06_F64Fields.mono : ∀ a0 k, LeO (plumblaw06_F64Fields.f k a0) (plumblaw06_F64Fields.f (k + 1) a0) := by
  intro a0 k
  unfold plumblaw06_F64Fields.f
  repeat' first
      | (with_reducible exact f64_Class.mono _ _)
      | (with_reducible exact f64_Split.mono _ _)
      | (with_reducible exact plumblaw06_alive.mono _)
      | (with_reducible exact plumbref06_Class.mono _ _)
      | (with_reducible exact LeO.refl _)
      | (with_reducible exact LeO.none _)
      | (with_reducible refine LeO.ite ?_ ?_)
      | (with_reducible refine LeO.bind ?_ (fun _ => ?_))
      | exact f64_Class.mono _ _
      | exact f64_Split.mono _ _
      | exact plumblaw06_alive.mono _
      | exact plumbref06_Class.mono _ _
      | exact LeO.none _
      | refine LeO.ite ?_ ?_
      | refine LeO.bind ?_ (fun _ => ?_)
set_option maxHeartbeats 8000000 in
set_option maxRecDepth 100000 in
theorem plumblaw06_F64Fields.calls (k : Nat) (a0 : Int) (r : Bool) (w : World) (h : plumblaw06_F64Fields.f k a0 = some r) :
    Calls Try.prog 4 #[.int .u64 a0] w fun e w' => e = .returned (.bool r) ∧ Below w.heap.size w w' := by
  have HB := Aside0.mk (Below.refl w.heap.size w)
  have H : ((f64_Split.f k a0).bind fun bt125 => ((plumbref06_Split.f a0).bind fun bt129 => ((plumblaw06_alive.f k).bind fun t133 => (if t133 = true then (if (bt125.1 == bt129.1) = true then (if bt125.2.1 = bt129.2.1 then (if bt125.2.2.1 = bt129.2.2.1 then (if bt125.2.2.2 = bt129.2.2.2 then ((f64_Class.f k a0).bind fun t134 => ((plumbref06_Class.f k a0).bind fun t135 => (if t134 = t135 then ((f64_Neg.f a0).bind fun t136 => ((plumbref06_Neg.f a0).bind fun t137 => (some (t136 == t137)))) else (some false)))) else (some false)) else (some false)) else (some false)) else (some false)) else (some false))))) = some r := h
  clear h
  replace H := Option.bind_eq_some_iff.mp H
  obtain ⟨⟨t125, t126, t127, t128⟩, A20, H⟩ := H
  replace H : ((plumbref06_Split.f a0).bind fun bt129 => ((plumblaw06_alive.f k).bind fun t133 => (if t133 = true then (if (t125 == bt129.1) = true then (if t126 = bt129.2.1 then (if t127 = bt129.2.2.1 then (if t128 = bt129.2.2.2 then ((f64_Class.f k a0).bind fun t134 => ((plumbref06_Class.f k a0).bind fun t135 => (if t134 = t135 then ((f64_Neg.f a0).bind fun t136 => ((plumbref06_Neg.f a0).bind fun t137 => (some (t136 == t137)))) else (some false)))) else (some false)) else (some false)) else (some false)) else (some false)) else (some false)))) = some r := H
  have A2 := Aside0.mk A20
  clear A20
  replace H := Option.bind_eq_some_iff.mp H
  obtain ⟨⟨t129, t130, t131, t132⟩, A30, H⟩ := H
  replace H : ((plumblaw06_alive.f k).bind fun t133 => (if t133 = true then (if (t125 == t129) = true then (if t126 = t130 then (if t127 = t131 then (if t128 = t132 then ((f64_Class.f k a0).bind fun t134 => ((plumbref06_Class.f k a0).bind fun t135 => (if t134 = t135 then ((f64_Neg.f a0).bind fun t136 => ((plumbref06_Neg.f a0).bind fun t137 => (some (t136 == t137)))) else (some false)))) else (some false)) else (some false)) else (some false)) else (some false)) else (some false))) = some r := H
  have A3 := Aside0.mk A30
  clear A30
  replace H := Option.bind_eq_some_iff.mp H
  obtain ⟨t133, A40, H⟩ := H
  replace H : (if t133 = true then (if (t125 == t129) = true then (if t126 = t130 then (if t127 = t131 then (if t128 = t132 then ((f64_Class.f k a0).bind fun t134 => ((plumbref06_Class.f k a0).bind fun t135 => (if t134 = t135 then ((f64_Neg.f a0).bind fun t136 => ((plumbref06_Neg.f a0).bind fun t137 => (some (t136 == t137)))) else (some false)))) else (some false)) else (some false)) else (some false)) else (some false)) else (some false)) = some r := H
  have A4 := Aside0.mk A40
  clear A40
  by_cases c5 : t133 = true
  · subst c5
    have H1 : (if (t125 == t129) = true then (if t126 = t130 then (if t127 = t131 then (if t128 = t132 then ((f64_Class.f k a0).bind fun t134 => ((plumbref06_Class.f k a0).bind fun t135 => (if t134 = t135 then ((f64_Neg.f a0).bind fun t136 => ((plumbref06_Neg.f a0).bind fun t137 => (some (t136 == t137)))) else (some false)))) else (some false)) else (some false)) else (some false)) else (some false)) = some r := by rw [if_pos rfl] at H; exact H
    clear H
    have H := H1
    clear H1
    by_cases c6 : (t125 == t129) = true
    · rw [if_pos c6] at H
      have c6b0 : (t125 == t129) = true := c6
      (try (have c6b1 : decide (t125 = t129) = true := by simpa using c6))
      (try (have c6b2 : (t125 == t129) = true := by simpa using c6))
      clear c6
      by_cases c7 : t126 = t130
      · rw [if_pos c7] at H
        have c7b0 : (t126 == t130) = true := beq_iff_eq.mpr c7
        have c7b1 : (t126 != t130) = false := bne_eq_false_iff_eq.mpr c7
        clear c7
        by_cases c8 : t127 = t131
        · rw [if_pos c8] at H
          have c8b0 : (t127 == t131) = true := beq_iff_eq.mpr c8
          have c8b1 : (t127 != t131) = false := bne_eq_false_iff_eq.mpr c8
          clear c8
          by_cases c9 : t128 = t132
          · rw [if_pos c9] at H
            have c9b0 : (t128 == t132) = true := beq_iff_eq.mpr c9
            have c9b1 : (t128 != t132) = false := bne_eq_false_iff_eq.mpr c9
            clear c9
            replace H := Option.bind_eq_some_iff.mp H
            obtain ⟨t134, A100, H⟩ := H
            replace H : ((plumbref06_Class.f k a0).bind fun t135 => (if t134 = t135 then ((f64_Neg.f a0).bind fun t136 => ((plumbref06_Neg.f a0).bind fun t137 => (some (t136 == t137)))) else (some false))) = some r := H
            have A10 := Aside0.mk A100
            clear A100
            replace H := Option.bind_eq_some_iff.mp H
            obtain ⟨t135, A110, H⟩ := H
            replace H : (if t134 = t135 then ((f64_Neg.f a0).bind fun t136 => ((plumbref06_Neg.f a0).bind fun t137 => (some (t136 == t137)))) else (some false)) = some r := H
            have A11 := Aside0.mk A110
            clear A110
            by_cases c12 : t134 = t135
            · rw [if_pos c12] at H
              have c12b0 : (t134 == t135) = true := beq_iff_eq.mpr c12
              have c12b1 : (t134 != t135) = false := bne_eq_false_iff_eq.mpr c12
              clear c12
              replace H := Option.bind_eq_some_iff.mp H
              obtain ⟨t136, A130, H⟩ := H
              replace H : ((plumbref06_Neg.f a0).bind fun t137 => (some (t136 == t137))) = some r := H
              have A13 := Aside0.mk A130
              clear A130
              replace H := Option.bind_eq_some_iff.mp H
              obtain ⟨t137, A140, H⟩ := H
              replace H : (some (t136 == t137)) = some r := H
              have A14 := Aside0.mk A140
              clear A140
              obtain rfl := Option.some.inj H
              go_enter Try.func4, Try.ntmps4
              go_wp2_with (first | ((with_reducible refine gate_callee (f := 14) rfl ?_); refine goesL_ (some 13) rfl rfl Try.func14 (by kernel_rfl) rfl #[.int .u64 a0] rfl (by (try simp only [List.map_toArray, List.map_cons, List.map_nil]); first | done | rfl | (simp only [List.length_drop, List.length_take]; rfl)) ?_; (with_reducible refine (f64_Split.calls k a0 t125 t126 t127 t128 _ A2.out).mono ?_); rintro e w' ⟨rfl, ⟨nd, rfl⟩⟩; refine ⟨_, rfl, ?_⟩) | ((with_reducible refine gate_callee (f := 15) rfl ?_); refine goesL_ (some 20) rfl rfl Try.func15 (by kernel_rfl) rfl #[.int .u64 a0] rfl (by (try simp only [List.map_toArray, List.map_cons, List.map_nil]); first | done | rfl | (simp only [List.length_drop, List.length_take]; rfl)) ?_; (with_reducible refine (plumbref06_Split.calls a0 t129 t130 t131 t132 _ A3.out).mono ?_); rintro e w' ⟨rfl, ⟨nd, rfl⟩⟩; refine ⟨_, rfl, ?_⟩) | ((with_reducible refine gate_callee (f := 13) rfl ?_); refine goesL_ (some 25) rfl rfl Try.func13 (by kernel_rfl) rfl #[] rfl (by (try simp only [List.map_toArray, List.map_cons, List.map_nil]); first | done | rfl | (simp only [List.length_drop, List.length_take]; rfl)) ?_; (with_reducible refine (plumblaw06_alive.calls k  true _ A4.out).mono ?_); rintro e w15 ⟨rfl, hb⟩; refine ⟨_, rfl, ?_⟩; have n0_ := Aside0.mk (below_step (by repeat (first | (with_reducible first | exact HB.out | apply below_alloc | apply pw_below_drewN | apply below_drew1) | exact HB.out)) hb); clear HB; have HB := n0_; clear n0_; (try clear hb); (try clear hb2); (try clear hk); (try clear hi)) | (go_at_call 16; (with_reducible refine (f64_Class.calls k a0 t134 _ A10.out).mono ?_); rintro e w' ⟨rfl, ⟨nd, rfl⟩⟩) | (go_at_call 17; (with_reducible refine (plumbref06_Class.calls k a0 t135 _ A11.out).mono ?_); rintro e w' ⟨rfl, ⟨nd, rfl⟩⟩) | (go_at_call 18; (with_reducible refine (f64_Neg.calls a0 t136 _ A13.out).mono ?_); rintro e w' ⟨rfl, ⟨nd, rfl⟩⟩) | (go_at_call 19; (with_reducible refine (plumbref06_Neg.calls a0 t137 _ A14.out).mono ?_); rintro e w' ⟨rfl, ⟨nd, rfl⟩⟩))
              go_ret
              exact ⟨by first | rfl | (simp [errW_none, errW_some] <;> rfl) | (simp [*, errW_none, errW_some] <;> rfl), by repeat (first | (with_reducible first | exact HB.out | apply below_alloc | apply pw_below_drewN | apply below_drew1) | exact HB.out)⟩
            · rw [if_neg c12] at H
              have c12b0 : (t134 == t135) = false := beq_eq_false_iff_ne.mpr c12
              have c12b1 : (t134 != t135) = true := bne_iff_ne.mpr c12
              obtain rfl := Option.some.inj H
              go_enter Try.func4, Try.ntmps4
              go_wp2_with (first | ((with_reducible refine gate_callee (f := 14) rfl ?_); refine goesL_ (some 13) rfl rfl Try.func14 (by kernel_rfl) rfl #[.int .u64 a0] rfl (by (try simp only [List.map_toArray, List.map_cons, List.map_nil]); first | done | rfl | (simp only [List.length_drop, List.length_take]; rfl)) ?_; (with_reducible refine (f64_Split.calls k a0 t125 t126 t127 t128 _ A2.out).mono ?_); rintro e w' ⟨rfl, ⟨nd, rfl⟩⟩; refine ⟨_, rfl, ?_⟩) | ((with_reducible refine gate_callee (f := 15) rfl ?_); refine goesL_ (some 20) rfl rfl Try.func15 (by kernel_rfl) rfl #[.int .u64 a0] rfl (by (try simp only [List.map_toArray, List.map_cons, List.map_nil]); first | done | rfl | (simp only [List.length_drop, List.length_take]; rfl)) ?_; (with_reducible refine (plumbref06_Split.calls a0 t129 t130 t131 t132 _ A3.out).mono ?_); rintro e w' ⟨rfl, ⟨nd, rfl⟩⟩; refine ⟨_, rfl, ?_⟩) | ((with_reducible refine gate_callee (f := 13) rfl ?_); refine goesL_ (some 25) rfl rfl Try.func13 (by kernel_rfl) rfl #[] rfl (by (try simp only [List.map_toArray, List.map_cons, List.map_nil]); first | done | rfl | (simp only [List.length_drop, List.length_take]; rfl)) ?_; (with_reducible refine (plumblaw06_alive.calls k  true _ A4.out).mono ?_); rintro e w16 ⟨rfl, hb⟩; refine ⟨_, rfl, ?_⟩; have n0_ := Aside0.mk (below_step (by repeat (first | (with_reducible first | exact HB.out | apply below_alloc | apply pw_below_drewN | apply below_drew1) | exact HB.out)) hb); clear HB; have HB := n0_; clear n0_; (try clear hb); (try clear hb2); (try clear hk); (try clear hi)) | (go_at_call 16; (with_reducible refine (f64_Class.calls k a0 t134 _ A10.out).mono ?_); rintro e w' ⟨rfl, ⟨nd, rfl⟩⟩) | (go_at_call 17; (with_reducible refine (plumbref06_Class.calls k a0 t135 _ A11.out).mono ?_); rintro e w' ⟨rfl, ⟨nd, rfl⟩⟩))
              go_ret
              exact ⟨by first | rfl | (simp [errW_none, errW_some] <;> rfl) | (simp [*, errW_none, errW_some] <;> rfl), by repeat (first | (with_reducible first | exact HB.out | apply below_alloc | apply pw_below_drewN | apply below_drew1) | exact HB.out)⟩
          · rw [if_neg c9] at H
            have c9b0 : (t128 == t132) = false := beq_eq_false_iff_ne.mpr c9
            have c9b1 : (t128 != t132) = true := bne_iff_ne.mpr c9
            obtain rfl := Option.some.inj H
            go_enter Try.func4, Try.ntmps4
            go_wp2_with (first | ((with_reducible refine gate_callee (f := 14) rfl ?_); refine goesL_ (some 13) rfl rfl Try.func14 (by kernel_rfl) rfl #[.int .u64 a0] rfl (by (try simp only [List.map_toArray, List.map_cons, List.map_nil]); first | done | rfl | (simp only [List.length_drop, List.length_take]; rfl)) ?_; (with_reducible refine (f64_Split.calls k a0 t125 t126 t127 t128 _ A2.out).mono ?_); rintro e w' ⟨rfl, ⟨nd, rfl⟩⟩; refine ⟨_, rfl, ?_⟩) | ((with_reducible refine gate_callee (f := 15) rfl ?_); refine goesL_ (some 20) rfl rfl Try.func15 (by kernel_rfl) rfl #[.int .u64 a0] rfl (by (try simp only [List.map_toArray, List.map_cons, List.map_nil]); first | done | rfl | (simp only [List.length_drop, List.length_take]; rfl)) ?_; (with_reducible refine (plumbref06_Split.calls a0 t129 t130 t131 t132 _ A3.out).mono ?_); rintro e w' ⟨rfl, ⟨nd, rfl⟩⟩; refine ⟨_, rfl, ?_⟩) | ((with_reducible refine gate_callee (f := 13) rfl ?_); refine goesL_ (some 25) rfl rfl Try.func13 (by kernel_rfl) rfl #[] rfl (by (try simp only [List.map_toArray, List.map_cons, List.map_nil]); first | done | rfl | (simp only [List.length_drop, List.length_take]; rfl)) ?_; (with_reducible refine (plumblaw06_alive.calls k  true _ A4.out).mono ?_); rintro e w17 ⟨rfl, hb⟩; refine ⟨_, rfl, ?_⟩; have n0_ := Aside0.mk (below_step (by repeat (first | (with_reducible first | exact HB.out | apply below_alloc | apply pw_below_drewN | apply below_drew1) | exact HB.out)) hb); clear HB; have HB := n0_; clear n0_; (try clear hb); (try clear hb2); (try clear hk); (try clear hi)))
            go_ret
            exact ⟨by first | rfl | (simp [errW_none, errW_some] <;> rfl) | (simp [*, errW_none, errW_some] <;> rfl), by repeat (first | (with_reducible first | exact HB.out | apply below_alloc | apply pw_below_drewN | apply below_drew1) | exact HB.out)⟩
        · rw [if_neg c8] at H
          have c8b0 : (t127 == t131) = false := beq_eq_false_iff_ne.mpr c8
          have c8b1 : (t127 != t131) = true := bne_iff_ne.mpr c8
          obtain rfl := Option.some.inj H
          go_enter Try.func4, Try.ntmps4
          go_wp2_with (first | ((with_reducible refine gate_callee (f := 14) rfl ?_); refine goesL_ (some 13) rfl rfl Try.func14 (by kernel_rfl) rfl #[.int .u64 a0] rfl (by (try simp only [List.map_toArray, List.map_cons, List.map_nil]); first | done | rfl | (simp only [List.length_drop, List.length_take]; rfl)) ?_; (with_reducible refine (f64_Split.calls k a0 t125 t126 t127 t128 _ A2.out).mono ?_); rintro e w' ⟨rfl, ⟨nd, rfl⟩⟩; refine ⟨_, rfl, ?_⟩) | ((with_reducible refine gate_callee (f := 15) rfl ?_); refine goesL_ (some 20) rfl rfl Try.func15 (by kernel_rfl) rfl #[.int .u64 a0] rfl (by (try simp only [List.map_toArray, List.map_cons, List.map_nil]); first | done | rfl | (simp only [List.length_drop, List.length_take]; rfl)) ?_; (with_reducible refine (plumbref06_Split.calls a0 t129 t130 t131 t132 _ A3.out).mono ?_); rintro e w' ⟨rfl, ⟨nd, rfl⟩⟩; refine ⟨_, rfl, ?_⟩) | ((with_reducible refine gate_callee (f := 13) rfl ?_); refine goesL_ (some 25) rfl rfl Try.func13 (by kernel_rfl) rfl #[] rfl (by (try simp only [List.map_toArray, List.map_cons, List.map_nil]); first | done | rfl | (simp only [List.length_drop, List.length_take]; rfl)) ?_; (with_reducible refine (plumblaw06_alive.calls k  true _ A4.out).mono ?_); rintro e w18 ⟨rfl, hb⟩; refine ⟨_, rfl, ?_⟩; have n0_ := Aside0.mk (below_step (by repeat (first | (with_reducible first | exact HB.out | apply below_alloc | apply pw_below_drewN | apply below_drew1) | exact HB.out)) hb); clear HB; have HB := n0_; clear n0_; (try clear hb); (try clear hb2); (try clear hk); (try clear hi)))
          go_ret
          exact ⟨by first | rfl | (simp [errW_none, errW_some] <;> rfl) | (simp [*, errW_none, errW_some] <;> rfl), by repeat (first | (with_reducible first | exact HB.out | apply below_alloc | apply pw_below_drewN | apply below_drew1) | exact HB.out)⟩
      · rw [if_neg c7] at H
        have c7b0 : (t126 == t130) = false := beq_eq_false_iff_ne.mpr c7
        have c7b1 : (t126 != t130) = true := bne_iff_ne.mpr c7
        obtain rfl := Option.some.inj H
        go_enter Try.func4, Try.ntmps4
        go_wp2_with (first | ((with_reducible refine gate_callee (f := 14) rfl ?_); refine goesL_ (some 13) rfl rfl Try.func14 (by kernel_rfl) rfl #[.int .u64 a0] rfl (by (try simp only [List.map_toArray, List.map_cons, List.map_nil]); first | done | rfl | (simp only [List.length_drop, List.length_take]; rfl)) ?_; (with_reducible refine (f64_Split.calls k a0 t125 t126 t127 t128 _ A2.out).mono ?_); rintro e w' ⟨rfl, ⟨nd, rfl⟩⟩; refine ⟨_, rfl, ?_⟩) | ((with_reducible refine gate_callee (f := 15) rfl ?_); refine goesL_ (some 20) rfl rfl Try.func15 (by kernel_rfl) rfl #[.int .u64 a0] rfl (by (try simp only [List.map_toArray, List.map_cons, List.map_nil]); first | done | rfl | (simp only [List.length_drop, List.length_take]; rfl)) ?_; (with_reducible refine (plumbref06_Split.calls a0 t129 t130 t131 t132 _ A3.out).mono ?_); rintro e w' ⟨rfl, ⟨nd, rfl⟩⟩; refine ⟨_, rfl, ?_⟩) | ((with_reducible refine gate_callee (f := 13) rfl ?_); refine goesL_ (some 25) rfl rfl Try.func13 (by kernel_rfl) rfl #[] rfl (by (try simp only [List.map_toArray, List.map_cons, List.map_nil]); first | done | rfl | (simp only [List.length_drop, List.length_take]; rfl)) ?_; (with_reducible refine (plumblaw06_alive.calls k  true _ A4.out).mono ?_); rintro e w19 ⟨rfl, hb⟩; refine ⟨_, rfl, ?_⟩; have n0_ := Aside0.mk (below_step (by repeat (first | (with_reducible first | exact HB.out | apply below_alloc | apply pw_below_drewN | apply below_drew1) | exact HB.out)) hb); clear HB; have HB := n0_; clear n0_; (try clear hb); (try clear hb2); (try clear hk); (try clear hi)))
        go_ret
        exact ⟨by first | rfl | (simp [errW_none, errW_some] <;> rfl) | (simp [*, errW_none, errW_some] <;> rfl), by repeat (first | (with_reducible first | exact HB.out | apply below_alloc | apply pw_below_drewN | apply below_drew1) | exact HB.out)⟩
    · rw [if_neg c6] at H
      have c6b0 : (t125 == t129) = false := by simpa using c6
      (try (have c6b1 : decide (t125 = t129) = false := by simpa using c6))
      (try (have c6b2 : (t125 == t129) = false := by simpa using c6))
      (try (have c6b3 : ¬ (t125 = t129) := by simpa using c6))
      clear c6
      obtain rfl := Option.some.inj H
      go_enter Try.func4, Try.ntmps4
      go_wp2_with (first | ((with_reducible refine gate_callee (f := 14) rfl ?_); refine goesL_ (some 13) rfl rfl Try.func14 (by kernel_rfl) rfl #[.int .u64 a0] rfl (by (try simp only [List.map_toArray, List.map_cons, List.map_nil]); first | done | rfl | (simp only [List.length_drop, List.length_take]; rfl)) ?_; (with_reducible refine (f64_Split.calls k a0 t125 t126 t127 t128 _ A2.out).mono ?_); rintro e w' ⟨rfl, ⟨nd, rfl⟩⟩; refine ⟨_, rfl, ?_⟩) | ((with_reducible refine gate_callee (f := 15) rfl ?_); refine goesL_ (some 20) rfl rfl Try.func15 (by kernel_rfl) rfl #[.int .u64 a0] rfl (by (try simp only [List.map_toArray, List.map_cons, List.map_nil]); first | done | rfl | (simp only [List.length_drop, List.length_take]; rfl)) ?_; (with_reducible refine (plumbref06_Split.calls a0 t129 t130 t131 t132 _ A3.out).mono ?_); rintro e w' ⟨rfl, ⟨nd, rfl⟩⟩; refine ⟨_, rfl, ?_⟩) | ((with_reducible refine gate_callee (f := 13) rfl ?_); refine goesL_ (some 25) rfl rfl Try.func13 (by kernel_rfl) rfl #[] rfl (by (try simp only [List.map_toArray, List.map_cons, List.map_nil]); first | done | rfl | (simp only [List.length_drop, List.length_take]; rfl)) ?_; (with_reducible refine (plumblaw06_alive.calls k  true _ A4.out).mono ?_); rintro e w20 ⟨rfl, hb⟩; refine ⟨_, rfl, ?_⟩; have n0_ := Aside0.mk (below_step (by repeat (first | (with_reducible first | exact HB.out | apply below_alloc | apply pw_below_drewN | apply below_drew1) | exact HB.out)) hb); clear HB; have HB := n0_; clear n0_; (try clear hb); (try clear hb2); (try clear hk); (try clear hi)))
      go_ret
      exact ⟨by first | rfl | (simp [errW_none, errW_some] <;> rfl) | (simp [*, errW_none, errW_some] <;> rfl), by repeat (first | (with_reducible first | exact HB.out | apply below_alloc | apply pw_below_drewN | apply below_drew1) | exact HB.out)⟩
  · replace c5 := Bool.eq_false_iff.mpr c5
    subst c5
    have H1 : (some false) = some r := by rw [if_neg (show ¬ (false = true) by decide)] at H; exact H
    clear H
    have H := H1
    clear H1
    obtain rfl := Option.some.inj H
    go_enter Try.func4, Try.ntmps4
    go_wp2_with (first | ((with_reducible refine gate_callee (f := 14) rfl ?_); refine goesL_ (some 13) rfl rfl Try.func14 (by kernel_rfl) rfl #[.int .u64 a0] rfl (by (try simp only [List.map_toArray, List.map_cons, List.map_nil]); first | done | rfl | (simp only [List.length_drop, List.length_take]; rfl)) ?_; (with_reducible refine (f64_Split.calls k a0 t125 t126 t127 t128 _ A2.out).mono ?_); rintro e w' ⟨rfl, ⟨nd, rfl⟩⟩; refine ⟨_, rfl, ?_⟩) | ((with_reducible refine gate_callee (f := 15) rfl ?_); refine goesL_ (some 20) rfl rfl Try.func15 (by kernel_rfl) rfl #[.int .u64 a0] rfl (by (try simp only [List.map_toArray, List.map_cons, List.map_nil]); first | done | rfl | (simp only [List.length_drop, List.length_take]; rfl)) ?_; (with_reducible refine (plumbref06_Split.calls a0 t129 t130 t131 t132 _ A3.out).mono ?_); rintro e w' ⟨rfl, ⟨nd, rfl⟩⟩; refine ⟨_, rfl, ?_⟩) | ((with_reducible refine gate_callee (f := 13) rfl ?_); refine goesL_ (some 25) rfl rfl Try.func13 (by kernel_rfl) rfl #[] rfl (by (try simp only [List.map_toArray, List.map_cons, List.map_nil]); first | done | rfl | (simp only [List.length_drop, List.length_take]; rfl)) ?_; (with_reducible refine (plumblaw06_alive.calls k  false _ A4.out).mono ?_); rintro e w21 ⟨rfl, hb⟩; refine ⟨_, rfl, ?_⟩; have n0_ := Aside0.mk (below_step (by repeat (first | (with_reducible first | exact HB.out | apply below_alloc | apply pw_below_drewN | apply below_drew1) | exact HB.out)) hb); clear HB; have HB := n0_; clear n0_; (try clear hb); (try clear hb2); (try clear hk); (try clear hi)))
    go_ret
    exact ⟨by first | rfl | (simp [errW_none, errW_some] <;> rfl) | (simp [*, errW_none, errW_some] <;> rfl), by repeat (first | (with_reducible first | exact HB.out | apply below_alloc | apply pw_below_drewN | apply below_drew1) | exact HB.out)⟩

/-- THE ONE PURE STATEMENT of plumblaw06_F64Fields: yours. -/
def plumblaw06_F64Fields.Pure : Prop := ∀ (a0 : Int), (Lit.int .u64 a0).wf = true → ∃ k, plumblaw06_F64Fields.f k a0 = some true
theorem plumblaw06_F64Fields.walk (P : plumblaw06_F64Fields.Pure) (a0 : Int) (w : World) (w0 : (Lit.int .u64 a0).wf = true) :
    Calls Try.prog 4 #[.int .u64 a0] w fun e w' => e = .returned (.bool true) ∧ Below w.heap.size w w' := by
  obtain ⟨k, h⟩ := P a0 w0
  refine (plumblaw06_F64Fields.calls k a0 true w h).mono ?_
  rintro e w' ⟨rfl, hd⟩
  exact ⟨rfl, hd⟩

end Go.Proofs.Ytpnndhbeahajkaa.PF64Fields
