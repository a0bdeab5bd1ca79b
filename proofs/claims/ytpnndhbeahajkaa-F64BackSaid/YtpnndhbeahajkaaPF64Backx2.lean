/- Go functions as Lean functions and their contracts: each call comes to what the Lean function says; or a law's row out of them. No conditions. Written by this session's wip/hprint.py (the kit's print with contracts and repairs of my own). -/
import Derived.Test.YtpnndhbeahajkaaPF64Backx0
import Derived.Test.YtpnndhbeahajkaaPF64Backx1
namespace Go.Proofs.Ytpnndhbeahajkaa.PF64Back
open Go.RowKit Go.Proofs.YtpnndhbeahajkaaW.PrintWords Go.Proofs.YtpnndhbeahajkaaW.PrintLast Go.Proofs.YtpnndhbeahajkaaW.PrintMore
attribute [local go_sem] max2_int min2_int max_two min_two max_three min_three max_four min_four   -- for this text's walks alone
set_option linter.unusedVariables false
set_option linter.unusedSimpArgs false

/-! ### plumblaw06_alive: function 13 -/
def plumblaw06_alive.f (k : Nat)  : Option (Bool) := (f64_Split.f k 4607182418800017408).bind fun bt111 => ((f64_Next.f k 4607182418800017408).bind fun bt115 => ((f64_Join.f k true 3 (-1)).bind fun bt117 => (if bt111.1 = true then (some false) else (if bt111.2.1 = 4503599627370496 then (if bt111.2.2.1 = (-52) then (if bt111.2.2.2 = 0 then (if bt115.1 = 4607182418800017409 then (if bt115.2 = 0 then (if bt117.1 = 13832806255468478464 then (some (bt117.2 == 0)) else (some false)) else (some false)) else (some false)) else (some false)) else (some false)) else (some false)))))
theorem plumblaw06_alive.mono : ∀ k, LeO (plumblaw06_alive.f k ) (plumblaw06_alive.f (k + 1) ) := by
  intro  k
  unfold plumblaw06_alive.f
  repeat' first
      | (with_reducible exact f64_Join.mono _ _ _ _)
      | (with_reducible exact f64_Next.mono _ _)
      | (with_reducible exact f64_Split.mono _ _)
      | (with_reducible exact LeO.refl _)
      | (with_reducible exact LeO.none _)
      | (with_reducible refine LeO.ite ?_ ?_)
      | (with_reducible refine LeO.bind ?_ (fun _ => ?_))
      | exact f64_Join.mono _ _ _ _
      | exact f64_Next.mono _ _
      | exact f64_Split.mono _ _
      | exact LeO.none _
      | refine LeO.ite ?_ ?_
      | refine LeO.bind ?_ (fun _ => ?_)
set_option maxHeartbeats 8000000 in
set_option maxRecDepth 100000 in
theorem plumblaw06_alive.calls (k : Nat)  (r : Bool) (w : World) (h : plumblaw06_alive.f k  = some r) :
    Calls Try.prog 13 #[] w fun e w' => e = .returned (.bool r) ∧ Below w.heap.size w w' := by
  have HB := Aside0.mk (Below.refl w.heap.size w)
  have H : ((f64_Split.f k 4607182418800017408).bind fun bt111 => ((f64_Next.f k 4607182418800017408).bind fun bt115 => ((f64_Join.f k true 3 (-1)).bind fun bt117 => (if bt111.1 = true then (some false) else (if bt111.2.1 = 4503599627370496 then (if bt111.2.2.1 = (-52) then (if bt111.2.2.2 = 0 then (if bt115.1 = 4607182418800017409 then (if bt115.2 = 0 then (if bt117.1 = 13832806255468478464 then (some (bt117.2 == 0)) else (some false)) else (some false)) else (some false)) else (some false)) else (some false)) else (some false)))))) = some r := h
  clear h
  replace H := Option.bind_eq_some_iff.mp H
  obtain ⟨⟨t111, t112, t113, t114⟩, A10, H⟩ := H
  replace H : ((f64_Next.f k 4607182418800017408).bind fun bt115 => ((f64_Join.f k true 3 (-1)).bind fun bt117 => (if t111 = true then (some false) else (if t112 = 4503599627370496 then (if t113 = (-52) then (if t114 = 0 then (if bt115.1 = 4607182418800017409 then (if bt115.2 = 0 then (if bt117.1 = 13832806255468478464 then (some (bt117.2 == 0)) else (some false)) else (some false)) else (some false)) else (some false)) else (some false)) else (some false))))) = some r := H
  have A1 := Aside0.mk A10
  clear A10
  replace H := Option.bind_eq_some_iff.mp H
  obtain ⟨⟨t115, t116⟩, A20, H⟩ := H
  replace H : ((f64_Join.f k true 3 (-1)).bind fun bt117 => (if t111 = true then (some false) else (if t112 = 4503599627370496 then (if t113 = (-52) then (if t114 = 0 then (if t115 = 4607182418800017409 then (if t116 = 0 then (if bt117.1 = 13832806255468478464 then (some (bt117.2 == 0)) else (some false)) else (some false)) else (some false)) else (some false)) else (some false)) else (some false)))) = some r := H
  have A2 := Aside0.mk A20
  clear A20
  replace H := Option.bind_eq_some_iff.mp H
  obtain ⟨⟨t117, t118⟩, A30, H⟩ := H
  replace H : (if t111 = true then (some false) else (if t112 = 4503599627370496 then (if t113 = (-52) then (if t114 = 0 then (if t115 = 4607182418800017409 then (if t116 = 0 then (if t117 = 13832806255468478464 then (some (t118 == 0)) else (some false)) else (some false)) else (some false)) else (some false)) else (some false)) else (some false))) = some r := H
  have A3 := Aside0.mk A30
  clear A30
  by_cases c4 : t111 = true
  · subst c4
    have H1 : (some false) = some r := by rw [if_pos rfl] at H; exact H
    clear H
    have H := H1
    clear H1
    obtain rfl := Option.some.inj H
    go_enter Try.func13, Try.ntmps13
    go_wp2_with (first | ((with_reducible refine gate_callee (f := 14) rfl ?_); refine goesL_ (some 10) rfl rfl Try.func14 (by kernel_rfl) rfl #[.int .u64 4607182418800017408] rfl (by (try simp only [List.map_toArray, List.map_cons, List.map_nil]); first | done | rfl | (simp only [List.length_drop, List.length_take]; rfl)) ?_; (with_reducible refine (f64_Split.calls k 4607182418800017408 true t112 t113 t114 _ A1.out).mono ?_); rintro e w' ⟨rfl, ⟨nd, rfl⟩⟩; refine ⟨_, rfl, ?_⟩) | ((with_reducible refine gate_callee (f := 22) rfl ?_); refine goesL_ (some 16) rfl rfl Try.func22 (by kernel_rfl) rfl #[.int .u64 4607182418800017408] rfl (by (try simp only [List.map_toArray, List.map_cons, List.map_nil]); first | done | rfl | (simp only [List.length_drop, List.length_take]; rfl)) ?_; (with_reducible refine (f64_Next.calls k 4607182418800017408 t115 t116 _ A2.out).mono ?_); rintro e w' ⟨rfl, ⟨nd, rfl⟩⟩; refine ⟨_, rfl, ?_⟩) | ((with_reducible refine gate_callee (f := 11) rfl ?_); refine goesL_ (some 20) rfl rfl Try.func11 (by kernel_rfl) rfl #[.bool true, .int .u64 3, .int .i64 (-1)] rfl (by (try simp only [List.map_toArray, List.map_cons, List.map_nil]); first | done | rfl | (simp only [List.length_drop, List.length_take]; rfl)) ?_; (with_reducible refine (f64_Join.calls k true 3 (-1) t117 t118 _ A3.out).mono ?_); rintro e w5 ⟨rfl, hb⟩; refine ⟨_, rfl, ?_⟩; have n0_ := Aside0.mk (below_step (by repeat (first | (with_reducible first | exact HB.out | apply below_alloc | apply pw_below_drewN | apply below_drew1) | exact HB.out)) hb); clear HB; have HB := n0_; clear n0_; (try clear hb); (try clear hb2); (try clear hk); (try clear hi)))
    go_ret
    exact ⟨by first | rfl | (simp [errW_none, errW_some] <;> rfl) | (simp [*, errW_none, errW_some] <;> rfl), by repeat (first | (with_reducible first | exact HB.out | apply below_alloc | apply pw_below_drewN | apply below_drew1) | exact HB.out)⟩
  · replace c4 := Bool.eq_false_iff.mpr c4
    subst c4
    have H1 : (if t112 = 4503599627370496 then (if t113 = (-52) then (if t114 = 0 then (if t115 = 4607182418800017409 then (if t116 = 0 then (if t117 = 13832806255468478464 then (some (t118 == 0)) else (some false)) else (some false)) else (some false)) else (some false)) else (some false)) else (some false)) = some r := by rw [if_neg (show ¬ (false = true) by decide)] at H; exact H
    clear H
    have H := H1
    clear H1
    by_cases c6 : t112 = 4503599627370496
    · rw [if_pos c6] at H
      have c6b0 : (t112 == 4503599627370496) = true := beq_iff_eq.mpr c6
      have c6b1 : (t112 != 4503599627370496) = false := bne_eq_false_iff_eq.mpr c6
      clear c6
      by_cases c7 : t113 = (-52)
      · rw [if_pos c7] at H
        have c7b0 : (t113 == (-52)) = true := beq_iff_eq.mpr c7
        have c7b1 : (t113 != (-52)) = false := bne_eq_false_iff_eq.mpr c7
        clear c7
        by_cases c8 : t114 = 0
        · rw [if_pos c8] at H
          have c8b0 : (t114 == 0) = true := beq_iff_eq.mpr c8
          have c8b1 : (t114 != 0) = false := bne_eq_false_iff_eq.mpr c8
          clear c8
          by_cases c9 : t115 = 4607182418800017409
          · rw [if_pos c9] at H
            have c9b0 : (t115 == 4607182418800017409) = true := beq_iff_eq.mpr c9
            have c9b1 : (t115 != 4607182418800017409) = false := bne_eq_false_iff_eq.mpr c9
            clear c9
            by_cases c10 : t116 = 0
            · rw [if_pos c10] at H
              have c10b0 : (t116 == 0) = true := beq_iff_eq.mpr c10
              have c10b1 : (t116 != 0) = false := bne_eq_false_iff_eq.mpr c10
              clear c10
              by_cases c11 : t117 = 13832806255468478464
              · rw [if_pos c11] at H
                have c11b0 : (t117 == 13832806255468478464) = true := beq_iff_eq.mpr c11
                have c11b1 : (t117 != 13832806255468478464) = false := bne_eq_false_iff_eq.mpr c11
                clear c11
                obtain rfl := Option.some.inj H
                go_enter Try.func13, Try.ntmps13
                go_wp2_with (first | ((with_reducible refine gate_callee (f := 14) rfl ?_); refine goesL_ (some 10) rfl rfl Try.func14 (by kernel_rfl) rfl #[.int .u64 4607182418800017408] rfl (by (try simp only [List.map_toArray, List.map_cons, List.map_nil]); first | done | rfl | (simp only [List.length_drop, List.length_take]; rfl)) ?_; (with_reducible refine (f64_Split.calls k 4607182418800017408 false t112 t113 t114 _ A1.out).mono ?_); rintro e w' ⟨rfl, ⟨nd, rfl⟩⟩; refine ⟨_, rfl, ?_⟩) | ((with_reducible refine gate_callee (f := 22) rfl ?_); refine goesL_ (some 16) rfl rfl Try.func22 (by kernel_rfl) rfl #[.int .u64 4607182418800017408] rfl (by (try simp only [List.map_toArray, List.map_cons, List.map_nil]); first | done | rfl | (simp only [List.length_drop, List.length_take]; rfl)) ?_; (with_reducible refine (f64_Next.calls k 4607182418800017408 t115 t116 _ A2.out).mono ?_); rintro e w' ⟨rfl, ⟨nd, rfl⟩⟩; refine ⟨_, rfl, ?_⟩) | ((with_reducible refine gate_callee (f := 11) rfl ?_); refine goesL_ (some 20) rfl rfl Try.func11 (by kernel_rfl) rfl #[.bool true, .int .u64 3, .int .i64 (-1)] rfl (by (try simp only [List.map_toArray, List.map_cons, List.map_nil]); first | done | rfl | (simp only [List.length_drop, List.length_take]; rfl)) ?_; (with_reducible refine (f64_Join.calls k true 3 (-1) t117 t118 _ A3.out).mono ?_); rintro e w12 ⟨rfl, hb⟩; refine ⟨_, rfl, ?_⟩; have n0_ := Aside0.mk (below_step (by repeat (first | (with_reducible first | exact HB.out | apply below_alloc | apply pw_below_drewN | apply below_drew1) | exact HB.out)) hb); clear HB; have HB := n0_; clear n0_; (try clear hb); (try clear hb2); (try clear hk); (try clear hi)))
                go_ret
                exact ⟨by first | rfl | (simp [errW_none, errW_some] <;> rfl) | (simp [*, errW_none, errW_some] <;> rfl), by repeat (first | (with_reducible first | exact HB.out | apply below_alloc | apply pw_below_drewN | apply below_drew1) | exact HB.out)⟩
              · rw [if_neg c11] at H
                have c11b0 : (t117 == 13832806255468478464) = false := beq_eq_false_iff_ne.mpr c11
                have c11b1 : (t117 != 13832806255468478464) = true := bne_iff_ne.mpr c11
                obtain rfl := Option.some.inj H
                go_enter Try.func13, Try.ntmps13
                go_wp2_with (first | ((with_reducible refine gate_callee (f := 14) rfl ?_); refine goesL_ (some 10) rfl rfl Try.func14 (by kernel_rfl) rfl #[.int .u64 4607182418800017408] rfl (by (try simp only [List.map_toArray, List.map_cons, List.map_nil]); first | done | rfl | (simp only [List.length_drop, List.length_take]; rfl)) ?_; (with_reducible refine (f64_Split.calls k 4607182418800017408 false t112 t113 t114 _ A1.out).mono ?_); rintro e w' ⟨rfl, ⟨nd, rfl⟩⟩; refine ⟨_, rfl, ?_⟩) | ((with_reducible refine gate_callee (f := 22) rfl ?_); refine goesL_ (some 16) rfl rfl Try.func22 (by kernel_rfl) rfl #[.int .u64 4607182418800017408] rfl (by (try simp only [List.map_toArray, List.map_cons, List.map_nil]); first | done | rfl | (simp only [List.length_drop, List.length_take]; rfl)) ?_; (with_reducible refine (f64_Next.calls k 4607182418800017408 t115 t116 _ A2.out).mono ?_); rintro e w' ⟨rfl, ⟨nd, rfl⟩⟩; refine ⟨_, rfl, ?_⟩) | ((with_reducible refine gate_callee (f := 11) rfl ?_); refine goesL_ (some 20) rfl rfl Try.func11 (by kernel_rfl) rfl #[.bool true, .int .u64 3, .int .i64 (-1)] rfl (by (try simp only [List.map_toArray, List.map_cons, List.map_nil]); first | done | rfl | (simp only [List.length_drop, List.length_take]; rfl)) ?_; (with_reducible refine (f64_Join.calls k true 3 (-1) t117 t118 _ A3.out).mono ?_); rintro e w13 ⟨rfl, hb⟩; refine ⟨_, rfl, ?_⟩; have n0_ := Aside0.mk (below_step (by repeat (first | (with_reducible first | exact HB.out | apply below_alloc | apply pw_below_drewN | apply below_drew1) | exact HB.out)) hb); clear HB; have HB := n0_; clear n0_; (try clear hb); (try clear hb2); (try clear hk); (try clear hi)))
                go_ret
                exact ⟨by first | rfl | (simp [errW_none, errW_some] <;> rfl) | (simp [*, errW_none, errW_some] <;> rfl), by repeat (first | (with_reducible first | exact HB.out | apply below_alloc | apply pw_below_drewN | apply below_drew1) | exact HB.out)⟩
            · rw [if_neg c10] at H
              have c10b0 : (t116 == 0) = false := beq_eq_false_iff_ne.mpr c10
              have c10b1 : (t116 != 0) = true := bne_iff_ne.mpr c10
              obtain rfl := Option.some.inj H
              go_enter Try.func13, Try.ntmps13
              go_wp2_with (first | ((with_reducible refine gate_callee (f := 14) rfl ?_); refine goesL_ (some 10) rfl rfl Try.func14 (by kernel_rfl) rfl #[.int .u64 4607182418800017408] rfl (by (try simp only [List.map_toArray, List.map_cons, List.map_nil]); first | done | rfl | (simp only [List.length_drop, List.length_take]; rfl)) ?_; (with_reducible refine (f64_Split.calls k 4607182418800017408 false t112 t113 t114 _ A1.out).mono ?_); rintro e w' ⟨rfl, ⟨nd, rfl⟩⟩; refine ⟨_, rfl, ?_⟩) | ((with_reducible refine gate_callee (f := 22) rfl ?_); refine goesL_ (some 16) rfl rfl Try.func22 (by kernel_rfl) rfl #[.int .u64 4607182418800017408] rfl (by (try simp only [List.map_toArray, List.map_cons, List.map_nil]); first | done | rfl | (simp only [List.length_drop, List.length_take]; rfl)) ?_; (with_reducible refine (f64_Next.calls k 4607182418800017408 t115 t116 _ A2.out).mono ?_); rintro e w' ⟨rfl, ⟨nd, rfl⟩⟩; refine ⟨_, rfl, ?_⟩) | ((with_reducible refine gate_callee (f := 11) rfl ?_); refine goesL_ (some 20) rfl rfl Try.func11 (by kernel_rfl) rfl #[.bool true, .int .u64 3, .int .i64 (-1)] rfl (by (try simp only [List.map_toArray, List.map_cons, List.map_nil]); first | done | rfl | (simp only [List.length_drop, List.length_take]; rfl)) ?_; (with_reducible refine (f64_Join.calls k true 3 (-1) t117 t118 _ A3.out).mono ?_); rintro e w14 ⟨rfl, hb⟩; refine ⟨_, rfl, ?_⟩; have n0_ := Aside0.mk (below_step (by repeat (first | (with_reducible first | exact HB.out | apply below_alloc | apply pw_below_drewN | apply below_drew1) | exact HB.out)) hb); clear HB; have HB := n0_; clear n0_; (try clear hb); (try clear hb2); (try clear hk); (try clear hi)))
              go_ret
              exact ⟨by first | rfl | (simp [errW_none, errW_some] <;> rfl) | (simp [*, errW_none, errW_some] <;> rfl), by repeat (first | (with_reducible first | exact HB.out | apply below_alloc | apply pw_below_drewN | apply below_drew1) | exact HB.out)⟩
          · rw [if_neg c9] at H
            have c9b0 : (t115 == 4607182418800017409) = false := beq_eq_false_iff_ne.mpr c9
            have c9b1 : (t115 != 4607182418800017409) = true := bne_iff_ne.mpr c9
            obtain rfl := Option.some.inj H
            go_enter Try.func13, Try.ntmps13
            go_wp2_with (first | ((with_reducible refine gate_callee (f := 14) rfl ?_); refine goesL_ (some 10) rfl rfl Try.func14 (by kernel_rfl) rfl #[.int .u64 4607182418800017408] rfl (by (try simp only [List.map_toArray, List.map_cons, List.map_nil]); first | done | rfl | (simp only [List.length_drop, List.length_take]; rfl)) ?_; (with_reducible refine (f64_Split.calls k 4607182418800017408 false t112 t113 t114 _ A1.out).mono ?_); rintro e w' ⟨rfl, ⟨nd, rfl⟩⟩; refine ⟨_, rfl, ?_⟩) | ((with_reducible refine gate_callee (f := 22) rfl ?_); refine goesL_ (some 16) rfl rfl Try.func22 (by kernel_rfl) rfl #[.int .u64 4607182418800017408] rfl (by (try simp only [List.map_toArray, List.map_cons, List.map_nil]); first | done | rfl | (simp only [List.length_drop, List.length_take]; rfl)) ?_; (with_reducible refine (f64_Next.calls k 4607182418800017408 t115 t116 _ A2.out).mono ?_); rintro e w' ⟨rfl, ⟨nd, rfl⟩⟩; refine ⟨_, rfl, ?_⟩) | ((with_reducible refine gate_callee (f := 11) rfl ?_); refine goesL_ (some 20) rfl rfl Try.func11 (by kernel_rfl) rfl #[.bool true, .int .u64 3, .int .i64 (-1)] rfl (by (try simp only [List.map_toArray, List.map_cons, List.map_nil]); first | done | rfl | (simp only [List.length_drop, List.length_take]; rfl)) ?_; (with_reducible refine (f64_Join.calls k true 3 (-1) t117 t118 _ A3.out).mono ?_); rintro e w15 ⟨rfl, hb⟩; refine ⟨_, rfl, ?_⟩; have n0_ := Aside0.mk (below_step (by repeat (first | (with_reducible first | exact HB.out | apply below_alloc | apply pw_below_drewN | apply below_drew1) | exact HB.out)) hb); clear HB; have HB := n0_; clear n0_; (try clear hb); (try clear hb2); (try clear hk); (try clear hi)))
            go_ret
            exact ⟨by first | rfl | (simp [errW_none, errW_some] <;> rfl) | (simp [*, errW_none, errW_some] <;> rfl), by repeat (first | (with_reducible first | exact HB.out | apply below_alloc | apply pw_below_drewN | apply below_drew1) | exact HB.out)⟩
        · rw [if_neg c8] at H
          have c8b0 : (t114 == 0) = false := beq_eq_false_iff_ne.mpr c8
          have c8b1 : (t114 != 0) = true := bne_iff_ne.mpr c8
          obtain rfl := Option.some.inj H
          go_enter Try.func13, Try.ntmps13
          go_wp2_with (first | ((with_reducible refine gate_callee (f := 14) rfl ?_); refine goesL_ (some 10) rfl rfl Try.func14 (by kernel_rfl) rfl #[.int .u64 4607182418800017408] rfl (by (try simp only [List.map_toArray, List.map_cons, List.map_nil]); first | done | rfl | (simp only [List.length_drop, List.length_take]; rfl)) ?_; (with_reducible refine (f64_Split.calls k 4607182418800017408 false t112 t113 t114 _ A1.out).mono ?_); rintro e w' ⟨rfl, ⟨nd, rfl⟩⟩; refine ⟨_, rfl, ?_⟩) | ((with_reducible refine gate_callee (f := 22) rfl ?_); refine goesL_ (some 16) rfl rfl Try.func22 (by kernel_rfl) rfl #[.int .u64 4607182418800017408] rfl (by (try simp only [List.map_toArray, List.map_cons, List.map_nil]); first | done | rfl | (simp only [List.length_drop, List.length_take]; rfl)) ?_; (with_reducible refine (f64_Next.calls k 4607182418800017408 t115 t116 _ A2.out).mono ?_); rintro e w' ⟨rfl, ⟨nd, rfl⟩⟩; refine ⟨_, rfl, ?_⟩) | ((with_reducible refine gate_callee (f := 11) rfl ?_); refine goesL_ (some 20) rfl rfl Try.func11 (by kernel_rfl) rfl #[.bool true, .int .u64 3, .int .i64 (-1)] rfl (by (try simp only [List.map_toArray, List.map_cons, List.map_nil]); first | done | rfl | (simp only [List.length_drop, List.length_take]; rfl)) ?_; (with_reducible refine (f64_Join.calls k true 3 (-1) t117 t118 _ A3.out).mono ?_); rintro e w16 ⟨rfl, hb⟩; refine ⟨_, rfl, ?_⟩; have n0_ := Aside0.mk (below_step (by repeat (first | (with_reducible first | exact HB.out | apply below_alloc | apply pw_below_drewN | apply below_drew1) | exact HB.out)) hb); clear HB; have HB := n0_; clear n0_; (try clear hb); (try clear hb2); (try clear hk); (try clear hi)))
          go_ret
          exact ⟨by first | rfl | (simp [errW_none, errW_some] <;> rfl) | (simp [*, errW_none, errW_some] <;> rfl), by repeat (first | (with_reducible first | exact HB.out | apply below_alloc | apply pw_below_drewN | apply below_drew1) | exact HB.out)⟩
      · rw [if_neg c7] at H
        have c7b0 : (t113 == (-52)) = false := beq_eq_false_iff_ne.mpr c7
        have c7b1 : (t113 != (-52)) = true := bne_iff_ne.mpr c7
        obtain rfl := Option.some.inj H
        go_enter Try.func13, Try.ntmps13
        go_wp2_with (first | ((with_reducible refine gate_callee (f := 14) rfl ?_); refine goesL_ (some 10) rfl rfl Try.func14 (by kernel_rfl) rfl #[.int .u64 4607182418800017408] rfl (by (try simp only [List.map_toArray, List.map_cons, List.map_nil]); first | done | rfl | (simp only [List.length_drop, List.length_take]; rfl)) ?_; (with_reducible refine (f64_Split.calls k 4607182418800017408 false t112 t113 t114 _ A1.out).mono ?_); rintro e w' ⟨rfl, ⟨nd, rfl⟩⟩; refine ⟨_, rfl, ?_⟩) | ((with_reducible refine gate_callee (f := 22) rfl ?_); refine goesL_ (some 16) rfl rfl Try.func22 (by kernel_rfl) rfl #[.int .u64 4607182418800017408] rfl (by (try simp only [List.map_toArray, List.map_cons, List.map_nil]); first | done | rfl | (simp only [List.length_drop, List.length_take]; rfl)) ?_; (with_reducible refine (f64_Next.calls k 4607182418800017408 t115 t116 _ A2.out).mono ?_); rintro e w' ⟨rfl, ⟨nd, rfl⟩⟩; refine ⟨_, rfl, ?_⟩) | ((with_reducible refine gate_callee (f := 11) rfl ?_); refine goesL_ (some 20) rfl rfl Try.func11 (by kernel_rfl) rfl #[.bool true, .int .u64 3, .int .i64 (-1)] rfl (by (try simp only [List.map_toArray, List.map_cons, List.map_nil]); first | done | rfl | (simp only [List.length_drop, List.length_take]; rfl)) ?_; (with_reducible refine (f64_Join.calls k true 3 (-1) t117 t118 _ A3.out).mono ?_); rintro e w17 ⟨rfl, hb⟩; refine ⟨_, rfl, ?_⟩; have n0_ := Aside0.mk (below_step (by repeat (first | (with_reducible first | exact HB.out | apply below_alloc | apply pw_below_drewN | apply below_drew1) | exact HB.out)) hb); clear HB; have HB := n0_; clear n0_; (try clear hb); (try clear hb2); (try clear hk); (try clear hi)))
        go_ret
        exact ⟨by first | rfl | (simp [errW_none, errW_some] <;> rfl) | (simp [*, errW_none, errW_some] <;> rfl), by repeat (first | (with_reducible first | exact HB.out | apply below_alloc | apply pw_below_drewN | apply below_drew1) | exact HB.out)⟩
    · rw [if_neg c6] at H
      have c6b0 : (t112 == 4503599627370496) = false := beq_eq_false_iff_ne.mpr c6
      have c6b1 : (t112 != 4503599627370496) = true := bne_iff_ne.mpr c6
      obtain rfl := Option.some.inj H
      go_enter Try.func13, Try.ntmps13
      go_wp2_with (first | ((with_reducible refine gate_callee (f := 14) rfl ?_); refine goesL_ (some 10) rfl rfl Try.func14 (by kernel_rfl) rfl #[.int .u64 4607182418800017408] rfl (by (try simp only [List.map_toArray, List.map_cons, List.map_nil]); first | done | rfl | (simp only [List.length_drop, List.length_take]; rfl)) ?_; (with_reducible refine (f64_Split.calls k 4607182418800017408 false t112 t113 t114 _ A1.out).mono ?_); rintro e w' ⟨rfl, ⟨nd, rfl⟩⟩; refine ⟨_, rfl, ?_⟩) | ((with_reducible refine gate_callee (f := 22) rfl ?_); refine goesL_ (some 16) rfl rfl Try.func22 (by kernel_rfl) rfl #[.int .u64 4607182418800017408] rfl (by (try simp only [List.map_toArray, List.map_cons, List.map_nil]); first | done | rfl | (simp only [List.length_drop, List.length_take]; rfl)) ?_; (with_reducible refine (f64_Next.calls k 4607182418800017408 t115 t116 _ A2.out).mono ?_); rintro e w' ⟨rfl, ⟨nd, rfl⟩⟩; refine ⟨_, rfl, ?_⟩) | ((with_reducible refine gate_callee (f := 11) rfl ?_); refine goesL_ (some 20) rfl rfl Try.func11 (by kernel_rfl) rfl #[.bool true, .int .u64 3, .int .i64 (-1)] rfl (by (try simp only [List.map_toArray, List.map_cons, List.map_nil]); first | done | rfl | (simp only [List.length_drop, List.length_take]; rfl)) ?_; (with_reducible refine (f64_Join.calls k true 3 (-1) t117 t118 _ A3.out).mono ?_); rintro e w18 ⟨rfl, hb⟩; refine ⟨_, rfl, ?_⟩; have n0_ := Aside0.mk (below_step (by repeat (first | (with_reducible first | exact HB.out | apply below_alloc | apply pw_below_drewN | apply below_drew1) | exact HB.out)) hb); clear HB; have HB := n0_; clear n0_; (try clear hb); (try clear hb2); (try clear hk); (try clear hi)))
      go_ret
      exact ⟨by first | rfl | (simp [errW_none, errW_some] <;> rfl) | (simp [*, errW_none, errW_some] <;> rfl), by repeat (first | (with_reducible first | exact HB.out | apply below_alloc | apply pw_below_drewN | apply below_drew1) | exact HB.out)⟩

/-! ### f64_Rank: function 20 -/
def f64_Rank.f (k : Nat) (a0 : Int) : Option (Int × Int) := (f64_finite.f k a0).bind fun t119 => (if t119 = true then (if (Go.bits .and .u64 a0 9223372036854775808) = 0 then (some (wrap64 (Go.bits .andNot .u64 a0 9223372036854775808), 0)) else (some (wrap64 (-(wrap64 (Go.bits .andNot .u64 a0 9223372036854775808))), 0))) else (some (0, 60)))
theorem f64_Rank.mono : ∀ a0 k, LeO (f64_Rank.f k a0) (f64_Rank.f (k + 1) a0) := by
  intro a0 k
  unfold f64_Rank.f
  repeat' first
      | (with_reducible exact f64_finite.mono _ _)
      | (with_reducible exact LeO.refl _)
      | (with_reducible exact LeO.none _)
      | (with_reducible refine LeO.ite ?_ ?_)
      | (with_reducible refine LeO.bind ?_ (fun _ => ?_))
      | exact f64_finite.mono _ _
      | exact LeO.none _
      | refine LeO.ite ?_ ?_
      | refine LeO.bind ?_ (fun _ => ?_)
set_option maxHeartbeats 8000000 in
set_option maxRecDepth 100000 in
theorem f64_Rank.calls (k : Nat) (a0 : Int) (r1 : Int) (r2 : Int) (w : World) (h : f64_Rank.f k a0 = some (r1, r2)) :
    Calls Try.prog 20 #[.int .u64 a0] w fun e w' => e = .returned (.tuple #[.int .i64 r1, .int .i64 r2]) ∧ Drawn0 w w' := by
  have H : ((f64_finite.f k a0).bind fun t119 => (if t119 = true then (if (Go.bits .and .u64 a0 9223372036854775808) = 0 then (some (wrap64 (Go.bits .andNot .u64 a0 9223372036854775808), 0)) else (some (wrap64 (-(wrap64 (Go.bits .andNot .u64 a0 9223372036854775808))), 0))) else (some (0, 60)))) = some (r1, r2) := h
  clear h
  replace H := Option.bind_eq_some_iff.mp H
  obtain ⟨t119, A20, H⟩ := H
  replace H : (if t119 = true then (if (Go.bits .and .u64 a0 9223372036854775808) = 0 then (some (wrap64 (Go.bits .andNot .u64 a0 9223372036854775808), 0)) else (some (wrap64 (-(wrap64 (Go.bits .andNot .u64 a0 9223372036854775808))), 0))) else (some (0, 60))) = some (r1, r2) := H
  have A2 := Aside0.mk A20
  clear A20
  by_cases c3 : t119 = true
  · subst c3
    have H1 : (if (Go.bits .and .u64 a0 9223372036854775808) = 0 then (some (wrap64 (Go.bits .andNot .u64 a0 9223372036854775808), 0)) else (some (wrap64 (-(wrap64 (Go.bits .andNot .u64 a0 9223372036854775808))), 0))) = some (r1, r2) := by rw [if_pos rfl] at H; exact H
    clear H
    have H := H1
    clear H1
    by_cases c4 : (Go.bits .and .u64 a0 9223372036854775808) = 0
    · rw [if_pos c4] at H
      have c4b0 : ((Go.bits .and .u64 a0 9223372036854775808) == 0) = true := beq_iff_eq.mpr c4
      have c4b1 : ((Go.bits .and .u64 a0 9223372036854775808) != 0) = false := bne_eq_false_iff_eq.mpr c4
      clear c4
      simp only [Option.some.injEq, Prod.mk.injEq] at H
      obtain ⟨rfl, rfl⟩ := H
      go_enter Try.func20, Try.ntmps20
      go_wp2_with (first | ((with_reducible refine gate_callee (f := 39) rfl ?_); refine goesL_ (some 6) rfl rfl Try.func39 (by kernel_rfl) rfl #[.int .u64 a0] rfl (by (try simp only [List.map_toArray, List.map_cons, List.map_nil]); first | done | rfl | (simp only [List.length_drop, List.length_take]; rfl)) ?_; (with_reducible refine (f64_finite.calls k a0 true _ A2.out).mono ?_); rintro e w' ⟨rfl, ⟨nd, rfl⟩⟩; refine ⟨_, rfl, ?_⟩))
      go_ret2
      exact ⟨by first | rfl | (simp; done) | (simp [*]; done), by repeat (first | exact Drawn0.refl _ | apply Drawn0.step)⟩
    · rw [if_neg c4] at H
      have c4b0 : ((Go.bits .and .u64 a0 9223372036854775808) == 0) = false := beq_eq_false_iff_ne.mpr c4
      have c4b1 : ((Go.bits .and .u64 a0 9223372036854775808) != 0) = true := bne_iff_ne.mpr c4
      simp only [Option.some.injEq, Prod.mk.injEq] at H
      obtain ⟨rfl, rfl⟩ := H
      go_enter Try.func20, Try.ntmps20
      go_wp2_with (first | ((with_reducible refine gate_callee (f := 39) rfl ?_); refine goesL_ (some 6) rfl rfl Try.func39 (by kernel_rfl) rfl #[.int .u64 a0] rfl (by (try simp only [List.map_toArray, List.map_cons, List.map_nil]); first | done | rfl | (simp only [List.length_drop, List.length_take]; rfl)) ?_; (with_reducible refine (f64_finite.calls k a0 true _ A2.out).mono ?_); rintro e w' ⟨rfl, ⟨nd, rfl⟩⟩; refine ⟨_, rfl, ?_⟩))
      go_ret2
      exact ⟨by first | rfl | (simp; done) | (simp [*]; done), by repeat (first | exact Drawn0.refl _ | apply Drawn0.step)⟩
  · replace c3 := Bool.eq_false_iff.mpr c3
    subst c3
    have H1 : (some (0, 60)) = some (r1, r2) := by rw [if_neg (show ¬ (false = true) by decide)] at H; exact H
    clear H
    have H := H1
    clear H1
    simp only [Option.some.injEq, Prod.mk.injEq] at H
    obtain ⟨rfl, rfl⟩ := H
    go_enter Try.func20, Try.ntmps20
    go_wp2_with (first | ((with_reducible refine gate_callee (f := 39) rfl ?_); refine goesL_ (some 6) rfl rfl Try.func39 (by kernel_rfl) rfl #[.int .u64 a0] rfl (by (try simp only [List.map_toArray, List.map_cons, List.map_nil]); first | done | rfl | (simp only [List.length_drop, List.length_take]; rfl)) ?_; (with_reducible refine (f64_finite.calls k a0 false _ A2.out).mono ?_); rintro e w' ⟨rfl, ⟨nd, rfl⟩⟩; refine ⟨_, rfl, ?_⟩))
    go_ret2
    exact ⟨by first | rfl | (simp; done) | (simp [*]; done), by repeat (first | exact Drawn0.refl _ | apply Drawn0.step)⟩

/-! ### f64_At: function 21 -/
def f64_At.j0 : Nat → Int → Bool → Option (Int × Int)
  | 0, _, _ => none
  | k + 1, x0, x4 => if x4 = true then (some (0, 62)) else (if x0 < 0 then (some (Go.bits .or .u64 (IntKind.u64.wrap (wrap64 (-x0))) 9223372036854775808, 0)) else (some (IntKind.u64.wrap (x0), 0)))
def f64_At.f (k : Nat) (a0 : Int) : Option (Int × Int) := if a0 < (-9218868437227405311) then (f64_At.j0 k a0 true) else (f64_At.j0 k a0 (decide (a0 > 9218868437227405311)))
theorem f64_At.mono_l : ∀ k, (∀ y0 y1, LeO (f64_At.j0 k y0 y1) (f64_At.j0 (k + 1) y0 y1))
  | 0 => fun _ _ r h => by simp [f64_At.j0] at h
  | k + 1 => by
    have ih0 := f64_At.mono_l k
    · intro y0 y1
      unfold f64_At.j0
      repeat' first
      | (with_reducible exact ih0 _ _)
      | (with_reducible exact LeO.refl _)
      | (with_reducible exact LeO.none _)
      | (with_reducible refine LeO.ite ?_ ?_)
      | (with_reducible refine LeO.bind ?_ (fun _ => ?_))
      | exact ih0 _ _
      | exact LeO.none _
      | refine LeO.ite ?_ ?_
      | refine LeO.bind ?_ (fun _ => ?_)
theorem f64_At.mono : ∀ a0 k, LeO (f64_At.f k a0) (f64_At.f (k + 1) a0) := by
  intro a0 k
  have ih0 := f64_At.mono_l k
  unfold f64_At.f
  repeat' first
      | (with_reducible exact ih0 _ _)
      | (with_reducible exact LeO.refl _)
      | (with_reducible exact LeO.none _)
      | (with_reducible refine LeO.ite ?_ ?_)
      | (with_reducible refine LeO.bind ?_ (fun _ => ?_))
      | exact ih0 _ _
      | exact LeO.none _
      | refine LeO.ite ?_ ?_
      | refine LeO.bind ?_ (fun _ => ?_)
set_option maxHeartbeats 8000000 in
set_option maxRecDepth 100000 in
theorem f64_At.calls (k : Nat) (a0 : Int) (r1 : Int) (r2 : Int) (w : World) (h : f64_At.f k a0 = some (r1, r2)) :
    Calls Try.prog 21 #[.int .i64 a0] w fun e w' => e = .returned (.tuple #[.int .u64 r1, .int .i64 r2]) ∧ Drawn0 w w' := by
  have H : (if a0 < (-9218868437227405311) then (f64_At.j0 k a0 true) else (f64_At.j0 k a0 (decide (a0 > 9218868437227405311)))) = some (r1, r2) := h
  clear h
  have HC2 := Aside0.mk H
  clear H
  go_enter Try.func21, Try.ntmps21
  go_upto_region 1 with (fail)
  go_cut [4] (fun v4 wc => ∃ (kq : Nat) (x4_1 : Bool), v4 = .bool x4_1 ∧ Aside0 (f64_At.j0 kq a0 x4_1 = some (r1, r2)) ∧ Aside0 (kq ≤ k) ∧ Drawn0 w wc)
  case first =>
    have H := HC2.out
    clear HC2
    by_cases c3 : a0 < (-9218868437227405311)
    · rw [if_pos c3] at H
      have c3b0 : decide (a0 < (-9218868437227405311)) = true := decide_eq_true c3
      clear c3
      (first | rw [c3b0] | (simp only [i64_w, i32_w]; rw [c3b0]) | skip)
      have H' := Aside0.mk H
      clear H
      go_wp2
      go_meet
      case rel => exact ⟨_, (true), (by first | rfl | (simp; done) | (simp [*]; done)), H', ⟨by first | omega | exact Nat.le_refl _⟩, by repeat (first | exact Drawn0.refl _ | apply Drawn0.step)⟩
    · rw [if_neg c3] at H
      have c3b0 : decide (a0 < (-9218868437227405311)) = false := decide_eq_false c3
      clear c3
      (first | rw [c3b0] | (simp only [i64_w, i32_w]; rw [c3b0]) | skip)
      have H' := Aside0.mk H
      clear H
      go_wp2
      go_meet
      case rel => exact ⟨_, (decide (a0 > 9218868437227405311)), (by first | rfl | (simp; done) | (simp [*]; done)), H', ⟨by first | omega | exact Nat.le_refl _⟩, by repeat (first | exact Drawn0.refl _ | apply Drawn0.step)⟩
  case rest =>
    clear HC2
    try clear c2
    try clear p2
    try clear c3
    try clear c3b0
    obtain ⟨kq, x4_1, rfl, HA, HJ1, ⟨mc1, rfl⟩⟩ := hcut
    cases kq with
    | zero => exact absurd HA.out (by simp [f64_At.j0])
    | succ kj1 =>
      have H := HA.out
      clear HA
      simp only [f64_At.j0] at H
      by_cases c4 : x4_1 = true
      · subst c4
        have H1 : (some (0, 62)) = some (r1, r2) := by rw [if_pos rfl] at H; exact H
        clear H
        have H := H1
        clear H1
        simp only [Option.some.injEq, Prod.mk.injEq] at H
        obtain ⟨rfl, rfl⟩ := H
        go_wp2
        go_ret2
        exact ⟨by first | rfl | (simp; done) | (simp [*]; done), by repeat (first | exact Drawn0.refl _ | apply Drawn0.step)⟩
      · replace c4 := Bool.eq_false_iff.mpr c4
        subst c4
        have H1 : (if a0 < 0 then (some (Go.bits .or .u64 (IntKind.u64.wrap (wrap64 (-a0))) 9223372036854775808, 0)) else (some (IntKind.u64.wrap (a0), 0))) = some (r1, r2) := by rw [if_neg (show ¬ (false = true) by decide)] at H; exact H
        clear H
        have H := H1
        clear H1
        by_cases c5 : a0 < 0
        · rw [if_pos c5] at H
          have c5b0 : decide (a0 < 0) = true := decide_eq_true c5
          clear c5
          simp only [Option.some.injEq, Prod.mk.injEq] at H
          obtain ⟨rfl, rfl⟩ := H
          go_wp2
          go_ret2
          exact ⟨by first | rfl | (simp; done) | (simp [*]; done), by repeat (first | exact Drawn0.refl _ | apply Drawn0.step)⟩
        · rw [if_neg c5] at H
          have c5b0 : decide (a0 < 0) = false := decide_eq_false c5
          clear c5
          simp only [Option.some.injEq, Prod.mk.injEq] at H
          obtain ⟨rfl, rfl⟩ := H
          go_wp2
          go_ret2
          exact ⟨by first | rfl | (simp; done) | (simp [*]; done), by repeat (first | exact Drawn0.refl _ | apply Drawn0.step)⟩

/-! ### plumblaw06_F64Back: function 5 -/
def plumblaw06_F64Back.j0 : Nat → Int → Int → Bool → Int → Int → Int → Int → Int → Int → Bool → Option (Bool)
  | 0, _, _, _, _, _, _, _, _, _, _ => none
  | k + 1, x0, x1, x5, x6, x7, x8, x9, x10, x11, x45 => if x45 = true then (some false) else (if x8 = 0 then (if 0 ≤ (wrap64 (Int.tmod (IntKind.u64.wrap (x1)) 11)) then ((f64_Join.f k x5 (shl .u64 x6 (wrap64 (Int.tmod (IntKind.u64.wrap (x1)) 11))) (wrap64 (x7 - (wrap64 (Int.tmod (IntKind.u64.wrap (x1)) 11))))).bind fun bt128 => ((f64_At.f k x9).bind fun bt130 => (if x0 = 9223372036854775808 then (if bt128.1 = x0 then (if bt128.2 = 0 then (if bt130.1 = 0 then (if bt130.2 = 0 then (some (x11 == 0)) else (some false)) else (some false)) else (some false)) else (some false)) else (if bt128.1 = x0 then (if bt128.2 = 0 then (if bt130.1 = x0 then (if bt130.2 = 0 then (if (x5 == (decide (x0 ≥ 9223372036854775808))) = true then (some ((x11 == 0) == (x6 == 0))) else (some false)) else (some false)) else (some false)) else (some false)) else (some false))))) else (none)) else (if x8 = 60 then (if x10 = 60 then (if x6 = 0 then (if x7 = 0 then (some (x9 == 0)) else (some false)) else (some false)) else (some false)) else (some false)))
def plumblaw06_F64Back.f (k : Nat) (a0 : Int) (a1 : Int) : Option (Bool) := (f64_Split.f k a0).bind fun bt120 => ((f64_Rank.f k a0).bind fun bt124 => ((f64_Class.f k a0).bind fun t126 => ((plumblaw06_alive.f k).bind fun t127 => (if t127 = true then (if ((decide (t126 ≥ 3)) != (bt120.2.2.2 != 0)) = true then (plumblaw06_F64Back.j0 k a0 a1 bt120.1 bt120.2.1 bt120.2.2.1 bt120.2.2.2 bt124.1 bt124.2 t126 true) else (plumblaw06_F64Back.j0 k a0 a1 bt120.1 bt120.2.1 bt120.2.2.1 bt120.2.2.2 bt124.1 bt124.2 t126 ((bt120.2.2.2 != 0) != (bt124.2 != 0)))) else (plumblaw06_F64Back.j0 k a0 a1 bt120.1 bt120.2.1 bt120.2.2.1 bt120.2.2.2 bt124.1 bt124.2 t126 true)))))
theorem plumblaw06_F64Back.mono_l : ∀ k, (∀ y0 y1 y2 y3 y4 y5 y6 y7 y8 y9, LeO (plumblaw06_F64Back.j0 k y0 y1 y2 y3 y4 y5 y6 y7 y8 y9) (plumblaw06_F64Back.j0 (k + 1) y0 y1 y2 y3 y4 y5 y6 y7 y8 y9))
  | 0 => fun _ _ _ _ _ _ _ _ _ _ r h => by simp [plumblaw06_F64Back.j0] at h
  | k + 1 => by
    have ih0 := plumblaw06_F64Back.mono_l k
    · intro y0 y1 y2 y3 y4 y5 y6 y7 y8 y9
      unfold plumblaw06_F64Back.j0
      repeat' first
      | (with_reducible exact ih0 _ _ _ _ _ _ _ _ _ _)
      | (with_reducible exact f64_At.mono _ _)
      | (with_reducible exact f64_Class.mono _ _)
      | (with_reducible exact f64_Join.mono _ _ _ _)
      | (with_reducible exact f64_Rank.mono _ _)
      | (with_reducible exact f64_Split.mono _ _)
      | (with_reducible exact plumblaw06_alive.mono _)
      | (with_reducible exact LeO.refl _)
      | (with_reducible exact LeO.none _)
      | (with_reducible refine LeO.ite ?_ ?_)
      | (with_reducible refine LeO.bind ?_ (fun _ => ?_))
      | exact ih0 _ _ _ _ _ _ _ _ _ _
      | exact f64_At.mono _ _
      | exact f64_Class.mono _ _
      | exact f64_Join.mono _ _ _ _
      | exact f64_Rank.mono _ _
      | exact f64_Split.mono _ _
      | exact plumblaw06_alive.mono _
      | exact LeO.none _
      | refine LeO.ite ?_ ?_
      | refine LeO.bind ?_ (fun _ => ?_)
theorem plumblaw06_F64Back.mono : ∀ a0 a1 k, LeO (plumblaw06_F64Back.f k a0 a1) (plumblaw06_F64Back.f (k + 1) a0 a1) := by
  intro a0 a1 k
  have ih0 := plumblaw06_F64Back.mono_l k
  unfold plumblaw06_F64Back.f
  repeat' first
      | (with_reducible exact ih0 _ _ _ _ _ _ _ _ _ _)
      | (with_reducible exact f64_At.mono _ _)
      | (with_reducible exact f64_Class.mono _ _)
      | (with_reducible exact f64_Join.mono _ _ _ _)
      | (with_reducible exact f64_Rank.mono _ _)
      | (with_reducible exact f64_Split.mono _ _)
      | (with_reducible exact plumblaw06_alive.mono _)
      | (with_reducible exact LeO.refl _)
      | (with_reducible exact LeO.none _)
      | (with_reducible refine LeO.ite ?_ ?_)
      | (with_reducible refine LeO.bind ?_ (fun _ => ?_))
      | exact ih0 _ _ _ _ _ _ _ _ _ _
      | exact f64_At.mono _ _
      | exact f64_Class.mono _ _
      | exact f64_Join.mono _ _ _ _
      | exact f64_Rank.mono _ _
      | exact f64_Split.mono _ _
      | exact plumblaw06_alive.mono _
      | exact LeO.none _
      | refine LeO.ite ?_ ?_
      | refine LeO.bind ?_ (fun _ => ?_)
set_option maxHeartbeats 8000000 in
set_option maxRecDepth 100000 in
theorem plumblaw06_F64Back.calls (k : Nat) (a0 : Int) (a1 : Int) (r : Bool) (w : World) (h : plumblaw06_F64Back.f k a0 a1 = some r) :
    Calls Try.prog 5 #[.int .u64 a0, .int .i64 a1] w fun e w' => e = .returned (.bool r) ∧ Below w.heap.size w w' := by
  have HB := Aside0.mk (Below.refl w.heap.size w)
  have H : ((f64_Split.f k a0).bind fun bt120 => ((f64_Rank.f k a0).bind fun bt124 => ((f64_Class.f k a0).bind fun t126 => ((plumblaw06_alive.f k).bind fun t127 => (if t127 = true then (if ((decide (t126 ≥ 3)) != (bt120.2.2.2 != 0)) = true then (plumblaw06_F64Back.j0 k a0 a1 bt120.1 bt120.2.1 bt120.2.2.1 bt120.2.2.2 bt124.1 bt124.2 t126 true) else (plumblaw06_F64Back.j0 k a0 a1 bt120.1 bt120.2.1 bt120.2.2.1 bt120.2.2.2 bt124.1 bt124.2 t126 ((bt120.2.2.2 != 0) != (bt124.2 != 0)))) else (plumblaw06_F64Back.j0 k a0 a1 bt120.1 bt120.2.1 bt120.2.2.1 bt120.2.2.2 bt124.1 bt124.2 t126 true)))))) = some r := h
  clear h
  replace H := Option.bind_eq_some_iff.mp H
  obtain ⟨⟨t120, t121, t122, t123⟩, A30, H⟩ := H
  replace H : ((f64_Rank.f k a0).bind fun bt124 => ((f64_Class.f k a0).bind fun t126 => ((plumblaw06_alive.f k).bind fun t127 => (if t127 = true then (if ((decide (t126 ≥ 3)) != (t123 != 0)) = true then (plumblaw06_F64Back.j0 k a0 a1 t120 t121 t122 t123 bt124.1 bt124.2 t126 true) else (plumblaw06_F64Back.j0 k a0 a1 t120 t121 t122 t123 bt124.1 bt124.2 t126 ((t123 != 0) != (bt124.2 != 0)))) else (plumblaw06_F64Back.j0 k a0 a1 t120 t121 t122 t123 bt124.1 bt124.2 t126 true))))) = some r := H
  have A3 := Aside0.mk A30
  clear A30
  replace H := Option.bind_eq_some_iff.mp H
  obtain ⟨⟨t124, t125⟩, A40, H⟩ := H
  replace H : ((f64_Class.f k a0).bind fun t126 => ((plumblaw06_alive.f k).bind fun t127 => (if t127 = true then (if ((decide (t126 ≥ 3)) != (t123 != 0)) = true then (plumblaw06_F64Back.j0 k a0 a1 t120 t121 t122 t123 t124 t125 t126 true) else (plumblaw06_F64Back.j0 k a0 a1 t120 t121 t122 t123 t124 t125 t126 ((t123 != 0) != (t125 != 0)))) else (plumblaw06_F64Back.j0 k a0 a1 t120 t121 t122 t123 t124 t125 t126 true)))) = some r := H
  have A4 := Aside0.mk A40
  clear A40
  replace H := Option.bind_eq_some_iff.mp H
  obtain ⟨t126, A50, H⟩ := H
  replace H : ((plumblaw06_alive.f k).bind fun t127 => (if t127 = true then (if ((decide (t126 ≥ 3)) != (t123 != 0)) = true then (plumblaw06_F64Back.j0 k a0 a1 t120 t121 t122 t123 t124 t125 t126 true) else (plumblaw06_F64Back.j0 k a0 a1 t120 t121 t122 t123 t124 t125 t126 ((t123 != 0) != (t125 != 0)))) else (plumblaw06_F64Back.j0 k a0 a1 t120 t121 t122 t123 t124 t125 t126 true))) = some r := H
  have A5 := Aside0.mk A50
  clear A50
  have HC6 := Aside0.mk H
  clear H
  go_enter Try.func5, Try.ntmps5
  go_upto_region 4 with (first | ((with_reducible refine gate_callee (f := 14) rfl ?_); refine goesL_ (some 18) rfl rfl Try.func14 (by kernel_rfl) rfl #[.int .u64 a0] rfl (by (try simp only [List.map_toArray, List.map_cons, List.map_nil]); first | done | rfl | (simp only [List.length_drop, List.length_take]; rfl)) ?_; (with_reducible refine (f64_Split.calls k a0 t120 t121 t122 t123 _ A3.out).mono ?_); rintro e w' ⟨rfl, ⟨nd, rfl⟩⟩; refine ⟨_, rfl, ?_⟩) | ((with_reducible refine gate_callee (f := 20) rfl ?_); refine goesL_ (some 25) rfl rfl Try.func20 (by kernel_rfl) rfl #[.int .u64 a0] rfl (by (try simp only [List.map_toArray, List.map_cons, List.map_nil]); first | done | rfl | (simp only [List.length_drop, List.length_take]; rfl)) ?_; (with_reducible refine (f64_Rank.calls k a0 t124 t125 _ A4.out).mono ?_); rintro e w' ⟨rfl, ⟨nd, rfl⟩⟩; refine ⟨_, rfl, ?_⟩) | ((with_reducible refine gate_callee (f := 16) rfl ?_); refine goesL_ (some 29) rfl rfl Try.func16 (by kernel_rfl) rfl #[.int .u64 a0] rfl (by (try simp only [List.map_toArray, List.map_cons, List.map_nil]); first | done | rfl | (simp only [List.length_drop, List.length_take]; rfl)) ?_; (with_reducible refine (f64_Class.calls k a0 t126 _ A5.out).mono ?_); rintro e w' ⟨rfl, ⟨nd, rfl⟩⟩; refine ⟨_, rfl, ?_⟩))
  (try simp only [Act.put, List.setIfInBounds_toArray, List.set_cons_zero, List.set_cons_succ])
  go_cut [45] (fun v45 wc => ∃ (kq : Nat) (x45_5 : Bool), v45 = .bool x45_5 ∧ Aside0 (plumblaw06_F64Back.j0 kq a0 a1 t120 t121 t122 t123 t124 t125 t126 x45_5 = some r) ∧ Aside0 (kq ≤ k) ∧ Aside0 (Below w.heap.size w wc))
  case first =>
    have H := HC6.out
    clear HC6
    replace H := Option.bind_eq_some_iff.mp H
    obtain ⟨t127, A70, H⟩ := H
    replace H : (if t127 = true then (if ((decide (t126 ≥ 3)) != (t123 != 0)) = true then (plumblaw06_F64Back.j0 k a0 a1 t120 t121 t122 t123 t124 t125 t126 true) else (plumblaw06_F64Back.j0 k a0 a1 t120 t121 t122 t123 t124 t125 t126 ((t123 != 0) != (t125 != 0)))) else (plumblaw06_F64Back.j0 k a0 a1 t120 t121 t122 t123 t124 t125 t126 true)) = some r := H
    have A7 := Aside0.mk A70
    clear A70
    by_cases c8 : t127 = true
    · subst c8
      have H1 : (if ((decide (t126 ≥ 3)) != (t123 != 0)) = true then (plumblaw06_F64Back.j0 k a0 a1 t120 t121 t122 t123 t124 t125 t126 true) else (plumblaw06_F64Back.j0 k a0 a1 t120 t121 t122 t123 t124 t125 t126 ((t123 != 0) != (t125 != 0)))) = some r := by rw [if_pos rfl] at H; exact H
      clear H
      have H := H1
      clear H1
      by_cases c9 : ((decide (t126 ≥ 3)) != (t123 != 0)) = true
      · rw [if_pos c9] at H
        have c9b0 : ((decide (t126 ≥ 3)) != (t123 != 0)) = true := c9
        (try (have c9b1 : decide ((decide (t126 ≥ 3)) = (t123 != 0)) = false := by simpa using c9))
        (try (have c9b2 : ((decide (t126 ≥ 3)) == (t123 != 0)) = false := by simpa using c9))
        (try (have c9b3 : ¬ ((decide (t126 ≥ 3)) = (t123 != 0)) := by simpa using c9))
        clear c9
        (first | rw [c9b0] | (simp only [i64_w, i32_w]; rw [c9b0]) | skip)
        have H' := Aside0.mk H
        clear H
        go_wp2_with (first | ((with_reducible refine gate_callee (f := 13) rfl ?_); refine goesL_ (some 30) rfl rfl Try.func13 (by kernel_rfl) rfl #[] rfl (by (try simp only [List.map_toArray, List.map_cons, List.map_nil]); first | done | rfl | (simp only [List.length_drop, List.length_take]; rfl)) ?_; (with_reducible refine (plumblaw06_alive.calls k  true _ A7.out).mono ?_); rintro e w10 ⟨rfl, hb⟩; refine ⟨_, rfl, ?_⟩; have n0_ := Aside0.mk (below_step (by repeat (first | (with_reducible first | exact HB.out | apply below_alloc | apply pw_below_drewN | apply below_drew1) | exact HB.out)) hb); clear HB; have HB := n0_; clear n0_; (try clear hb); (try clear hb2); (try clear hk); (try clear hi)))
        go_meet
        case rel => exact ⟨_, (true), (by first | rfl | (simp; done) | (simp [*]; done)), H', ⟨by first | omega | exact Nat.le_refl _⟩, ⟨by repeat (first | (with_reducible first | exact HB.out | apply below_alloc | apply pw_below_drewN | apply below_drew1) | exact HB.out)⟩⟩
      · rw [if_neg c9] at H
        have c9b0 : ((decide (t126 ≥ 3)) != (t123 != 0)) = false := by simpa using c9
        (try (have c9b1 : decide ((decide (t126 ≥ 3)) = (t123 != 0)) = true := by simpa using c9))
        (try (have c9b2 : ((decide (t126 ≥ 3)) == (t123 != 0)) = true := by simpa using c9))
        clear c9
        (first | rw [c9b0] | (simp only [i64_w, i32_w]; rw [c9b0]) | skip)
        have H' := Aside0.mk H
        clear H
        go_wp2_with (first | ((with_reducible refine gate_callee (f := 13) rfl ?_); refine goesL_ (some 30) rfl rfl Try.func13 (by kernel_rfl) rfl #[] rfl (by (try simp only [List.map_toArray, List.map_cons, List.map_nil]); first | done | rfl | (simp only [List.length_drop, List.length_take]; rfl)) ?_; (with_reducible refine (plumblaw06_alive.calls k  true _ A7.out).mono ?_); rintro e w11 ⟨rfl, hb⟩; refine ⟨_, rfl, ?_⟩; have n0_ := Aside0.mk (below_step (by repeat (first | (with_reducible first | exact HB.out | apply below_alloc | apply pw_below_drewN | apply below_drew1) | exact HB.out)) hb); clear HB; have HB := n0_; clear n0_; (try clear hb); (try clear hb2); (try clear hk); (try clear hi)))
        go_meet
        case rel => exact ⟨_, (((t123 != 0) != (t125 != 0))), (by first | rfl | (simp; done) | (simp [*]; done)), H', ⟨by first | omega | exact Nat.le_refl _⟩, ⟨by repeat (first | (with_reducible first | exact HB.out | apply below_alloc | apply pw_below_drewN | apply below_drew1) | exact HB.out)⟩⟩
    · replace c8 := Bool.eq_false_iff.mpr c8
      subst c8
      have H1 : (plumblaw06_F64Back.j0 k a0 a1 t120 t121 t122 t123 t124 t125 t126 true) = some r := by rw [if_neg (show ¬ (false = true) by decide)] at H; exact H
      clear H
      have H := H1
      clear H1
      have H' := Aside0.mk H
      clear H
      go_wp2_with (first | ((with_reducible refine gate_callee (f := 13) rfl ?_); refine goesL_ (some 30) rfl rfl Try.func13 (by kernel_rfl) rfl #[] rfl (by (try simp only [List.map_toArray, List.map_cons, List.map_nil]); first | done | rfl | (simp only [List.length_drop, List.length_take]; rfl)) ?_; (with_reducible refine (plumblaw06_alive.calls k  false _ A7.out).mono ?_); rintro e w12 ⟨rfl, hb⟩; refine ⟨_, rfl, ?_⟩; have n0_ := Aside0.mk (below_step (by repeat (first | (with_reducible first | exact HB.out | apply below_alloc | apply pw_below_drewN | apply below_drew1) | exact HB.out)) hb); clear HB; have HB := n0_; clear n0_; (try clear hb); (try clear hb2); (try clear hk); (try clear hi)))
      go_meet
      case rel => exact ⟨_, (true), (by first | rfl | (simp; done) | (simp [*]; done)), H', ⟨by first | omega | exact Nat.le_refl _⟩, ⟨by repeat (first | (with_reducible first | exact HB.out | apply below_alloc | apply pw_below_drewN | apply below_drew1) | exact HB.out)⟩⟩
  case rest =>
    clear HC6
    try clear c1
    try clear c2
    try clear p2
    try clear c5
    try clear c8
    try clear c9
    try clear c9b0
    try clear c9b1
    try clear c9b2
    obtain ⟨kq, x45_5, rfl, HA, HJ5, HB⟩ := hcut
    cases kq with
    | zero => exact absurd HA.out (by simp [plumblaw06_F64Back.j0])
    | succ kj5 =>
      have H := HA.out
      clear HA
      simp only [plumblaw06_F64Back.j0] at H
      by_cases c13 : x45_5 = true
      · subst c13
        have H1 : (some false) = some r := by rw [if_pos rfl] at H; exact H
        clear H
        have H := H1
        clear H1
        obtain rfl := Option.some.inj H
        go_wp2
        go_ret
        exact ⟨by first | rfl | (simp [errW_none, errW_some] <;> rfl) | (simp [*, errW_none, errW_some] <;> rfl), by repeat (first | (with_reducible first | exact HB.out | apply below_alloc | apply pw_below_drewN | apply below_drew1) | exact HB.out)⟩
      · replace c13 := Bool.eq_false_iff.mpr c13
        subst c13
        have H1 : (if t123 = 0 then (if 0 ≤ (wrap64 (Int.tmod (IntKind.u64.wrap (a1)) 11)) then ((f64_Join.f kj5 t120 (shl .u64 t121 (wrap64 (Int.tmod (IntKind.u64.wrap (a1)) 11))) (wrap64 (t122 - (wrap64 (Int.tmod (IntKind.u64.wrap (a1)) 11))))).bind fun bt128 => ((f64_At.f kj5 t124).bind fun bt130 => (if a0 = 9223372036854775808 then (if bt128.1 = a0 then (if bt128.2 = 0 then (if bt130.1 = 0 then (if bt130.2 = 0 then (some (t126 == 0)) else (some false)) else (some false)) else (some false)) else (some false)) else (if bt128.1 = a0 then (if bt128.2 = 0 then (if bt130.1 = a0 then (if bt130.2 = 0 then (if (t120 == (decide (a0 ≥ 9223372036854775808))) = true then (some ((t126 == 0) == (t121 == 0))) else (some false)) else (some false)) else (some false)) else (some false)) else (some false))))) else (none)) else (if t123 = 60 then (if t125 = 60 then (if t121 = 0 then (if t122 = 0 then (some (t124 == 0)) else (some false)) else (some false)) else (some false)) else (some false))) = some r := by rw [if_neg (show ¬ (false = true) by decide)] at H; exact H
        clear H
        have H := H1
        clear H1
        by_cases c14 : t123 = 0
        · rw [if_pos c14] at H
          have c14b0 : (t123 == 0) = true := beq_iff_eq.mpr c14
          have c14b1 : (t123 != 0) = false := bne_eq_false_iff_eq.mpr c14
          clear c14
          obtain ⟨ji15, hji15⟩ : ∃ j_ : Int, (wrap64 (Int.tmod (IntKind.u64.wrap (a1)) 11)) = j_ := ⟨_, rfl⟩
          replace H : (if 0 ≤ (ji15) then ((f64_Join.f kj5 t120 (shl .u64 t121 (ji15)) (wrap64 (t122 - (ji15)))).bind fun bt128 => ((f64_At.f kj5 t124).bind fun bt130 => (if a0 = 9223372036854775808 then (if bt128.1 = a0 then (if bt128.2 = 0 then (if bt130.1 = 0 then (if bt130.2 = 0 then (some (t126 == 0)) else (some false)) else (some false)) else (some false)) else (some false)) else (if bt128.1 = a0 then (if bt128.2 = 0 then (if bt130.1 = a0 then (if bt130.2 = 0 then (if (t120 == (decide (a0 ≥ 9223372036854775808))) = true then (some ((t126 == 0) == (t121 == 0))) else (some false)) else (some false)) else (some false)) else (some false)) else (some false))))) else (none)) = some r := by first | (rw [hji15] at H; exact H) | (simp only [hji15] at H ⊢; exact H)
          have hji15w : (IntKind.i64.wrap (Int.tmod (IntKind.u64.wrap (a1)) 11)) = ji15 := (i64_w _).trans hji15
          by_cases c16 : 0 ≤ (ji15)
          · rw [if_pos c16] at H
            have c16b0 := eq_true c16
            have c16b1 : decide (0 ≤ (ji15)) = true := decide_eq_true c16
            clear c16
            obtain ⟨ji17, hji17⟩ : ∃ j_ : Int, (shl .u64 t121 (ji15)) = j_ := ⟨_, rfl⟩
            replace H : ((f64_Join.f kj5 t120 (ji17) (wrap64 (t122 - (ji15)))).bind fun bt128 => ((f64_At.f kj5 t124).bind fun bt130 => (if a0 = 9223372036854775808 then (if bt128.1 = a0 then (if bt128.2 = 0 then (if bt130.1 = 0 then (if bt130.2 = 0 then (some (t126 == 0)) else (some false)) else (some false)) else (some false)) else (some false)) else (if bt128.1 = a0 then (if bt128.2 = 0 then (if bt130.1 = a0 then (if bt130.2 = 0 then (if (t120 == (decide (a0 ≥ 9223372036854775808))) = true then (some ((t126 == 0) == (t121 == 0))) else (some false)) else (some false)) else (some false)) else (some false)) else (some false))))) = some r := by first | (rw [hji17] at H; exact H) | (simp only [hji17] at H ⊢; exact H)
            have hji17_ : (IntKind.u64.wrap (t121 * 2 ^ min (ji15).toNat 64)) = ji17 := hji17
            have hji17z : (ji15) ≤ 64 → (IntKind.u64.wrap (t121 * 2 ^ (ji15).toNat)) = ji17 := shl_small hji17
            replace H := Option.bind_eq_some_iff.mp H
            obtain ⟨⟨t128, t129⟩, A180, H⟩ := H
            replace H : ((f64_At.f kj5 t124).bind fun bt130 => (if a0 = 9223372036854775808 then (if t128 = a0 then (if t129 = 0 then (if bt130.1 = 0 then (if bt130.2 = 0 then (some (t126 == 0)) else (some false)) else (some false)) else (some false)) else (some false)) else (if t128 = a0 then (if t129 = 0 then (if bt130.1 = a0 then (if bt130.2 = 0 then (if (t120 == (decide (a0 ≥ 9223372036854775808))) = true then (some ((t126 == 0) == (t121 == 0))) else (some false)) else (some false)) else (some false)) else (some false)) else (some false)))) = some r := H
            have A18 := Aside0.mk A180
            clear A180
            replace H := Option.bind_eq_some_iff.mp H
            obtain ⟨⟨t130, t131⟩, A190, H⟩ := H
            replace H : (if a0 = 9223372036854775808 then (if t128 = a0 then (if t129 = 0 then (if t130 = 0 then (if t131 = 0 then (some (t126 == 0)) else (some false)) else (some false)) else (some false)) else (some false)) else (if t128 = a0 then (if t129 = 0 then (if t130 = a0 then (if t131 = 0 then (if (t120 == (decide (a0 ≥ 9223372036854775808))) = true then (some ((t126 == 0) == (t121 == 0))) else (some false)) else (some false)) else (some false)) else (some false)) else (some false))) = some r := H
            have A19 := Aside0.mk A190
            clear A190
            by_cases c20 : a0 = 9223372036854775808
            · rw [if_pos c20] at H
              have c20b0 : (a0 == 9223372036854775808) = true := beq_iff_eq.mpr c20
              have c20b1 : (a0 != 9223372036854775808) = false := bne_eq_false_iff_eq.mpr c20
              clear c20
              by_cases c21 : t128 = a0
              · rw [if_pos c21] at H
                have c21b0 : (t128 == a0) = true := beq_iff_eq.mpr c21
                have c21b1 : (t128 != a0) = false := bne_eq_false_iff_eq.mpr c21
                clear c21
                by_cases c22 : t129 = 0
                · rw [if_pos c22] at H
                  have c22b0 : (t129 == 0) = true := beq_iff_eq.mpr c22
                  have c22b1 : (t129 != 0) = false := bne_eq_false_iff_eq.mpr c22
                  clear c22
                  by_cases c23 : t130 = 0
                  · rw [if_pos c23] at H
                    have c23b0 : (t130 == 0) = true := beq_iff_eq.mpr c23
                    have c23b1 : (t130 != 0) = false := bne_eq_false_iff_eq.mpr c23
                    clear c23
                    by_cases c24 : t131 = 0
                    · rw [if_pos c24] at H
                      have c24b0 : (t131 == 0) = true := beq_iff_eq.mpr c24
                      have c24b1 : (t131 != 0) = false := bne_eq_false_iff_eq.mpr c24
                      clear c24
                      obtain rfl := Option.some.inj H
                      go_wp2_with (first | ((with_reducible refine gate_callee (f := 11) rfl ?_); refine goesL_ (some 78) rfl rfl Try.func11 (by kernel_rfl) rfl #[.bool t120, .int .u64 ji17, .int .i64 (wrap64 (t122 - (ji15)))] rfl (by (try simp only [List.map_toArray, List.map_cons, List.map_nil]); first | done | (simp only [hji15, hji17]; rfl) | rfl | (simp only [List.length_drop, List.length_take]; rfl)) ?_; (with_reducible refine (f64_Join.calls kj5 t120 ji17 (wrap64 (t122 - (ji15))) t128 t129 _ A18.out).mono ?_); rintro e w25 ⟨rfl, hb⟩; refine ⟨_, rfl, ?_⟩; have n0_ := Aside0.mk (below_step (by repeat (first | (with_reducible first | exact HB.out | apply below_alloc | apply pw_below_drewN | apply below_drew1) | exact HB.out)) hb); clear HB; have HB := n0_; clear n0_; (try clear hb); (try clear hb2); (try clear hk); (try clear hi)) | ((with_reducible refine gate_callee (f := 21) rfl ?_); refine goesL_ (some 83) rfl rfl Try.func21 (by kernel_rfl) rfl #[.int .i64 t124] rfl (by (try simp only [List.map_toArray, List.map_cons, List.map_nil]); first | done | rfl | (simp only [List.length_drop, List.length_take]; rfl)) ?_; (with_reducible refine (f64_At.calls kj5 t124 t130 t131 _ A19.out).mono ?_); rintro e w' ⟨rfl, ⟨nd, rfl⟩⟩; refine ⟨_, rfl, ?_⟩))
                      go_ret
                      exact ⟨by first | rfl | (simp [errW_none, errW_some] <;> rfl) | (simp only [← hji15, ← hji17]; first | rfl | (simp [errW_none, errW_some] <;> rfl)) | (simp [*, errW_none, errW_some] <;> rfl), by repeat (first | (with_reducible first | exact HB.out | apply below_alloc | apply pw_below_drewN | apply below_drew1) | exact HB.out)⟩
                    · rw [if_neg c24] at H
                      have c24b0 : (t131 == 0) = false := beq_eq_false_iff_ne.mpr c24
                      have c24b1 : (t131 != 0) = true := bne_iff_ne.mpr c24
                      obtain rfl := Option.some.inj H
                      go_wp2_with (first | ((with_reducible refine gate_callee (f := 11) rfl ?_); refine goesL_ (some 78) rfl rfl Try.func11 (by kernel_rfl) rfl #[.bool t120, .int .u64 ji17, .int .i64 (wrap64 (t122 - (ji15)))] rfl (by (try simp only [List.map_toArray, List.map_cons, List.map_nil]); first | done | (simp only [hji15, hji17]; rfl) | rfl | (simp only [List.length_drop, List.length_take]; rfl)) ?_; (with_reducible refine (f64_Join.calls kj5 t120 ji17 (wrap64 (t122 - (ji15))) t128 t129 _ A18.out).mono ?_); rintro e w26 ⟨rfl, hb⟩; refine ⟨_, rfl, ?_⟩; have n0_ := Aside0.mk (below_step (by repeat (first | (with_reducible first | exact HB.out | apply below_alloc | apply pw_below_drewN | apply below_drew1) | exact HB.out)) hb); clear HB; have HB := n0_; clear n0_; (try clear hb); (try clear hb2); (try clear hk); (try clear hi)) | ((with_reducible refine gate_callee (f := 21) rfl ?_); refine goesL_ (some 83) rfl rfl Try.func21 (by kernel_rfl) rfl #[.int .i64 t124] rfl (by (try simp only [List.map_toArray, List.map_cons, List.map_nil]); first | done | rfl | (simp only [List.length_drop, List.length_take]; rfl)) ?_; (with_reducible refine (f64_At.calls kj5 t124 t130 t131 _ A19.out).mono ?_); rintro e w' ⟨rfl, ⟨nd, rfl⟩⟩; refine ⟨_, rfl, ?_⟩))
                      go_ret
                      exact ⟨by first | rfl | (simp [errW_none, errW_some] <;> rfl) | (simp only [← hji15, ← hji17]; first | rfl | (simp [errW_none, errW_some] <;> rfl)) | (simp [*, errW_none, errW_some] <;> rfl), by repeat (first | (with_reducible first | exact HB.out | apply below_alloc | apply pw_below_drewN | apply below_drew1) | exact HB.out)⟩
                  · rw [if_neg c23] at H
                    have c23b0 : (t130 == 0) = false := beq_eq_false_iff_ne.mpr c23
                    have c23b1 : (t130 != 0) = true := bne_iff_ne.mpr c23
                    obtain rfl := Option.some.inj H
                    go_wp2_with (first | ((with_reducible refine gate_callee (f := 11) rfl ?_); refine goesL_ (some 78) rfl rfl Try.func11 (by kernel_rfl) rfl #[.bool t120, .int .u64 ji17, .int .i64 (wrap64 (t122 - (ji15)))] rfl (by (try simp only [List.map_toArray, List.map_cons, List.map_nil]); first | done | (simp only [hji15, hji17]; rfl) | rfl | (simp only [List.length_drop, List.length_take]; rfl)) ?_; (with_reducible refine (f64_Join.calls kj5 t120 ji17 (wrap64 (t122 - (ji15))) t128 t129 _ A18.out).mono ?_); rintro e w27 ⟨rfl, hb⟩; refine ⟨_, rfl, ?_⟩; have n0_ := Aside0.mk (below_step (by repeat (first | (with_reducible first | exact HB.out | apply below_alloc | apply pw_below_drewN | apply below_drew1) | exact HB.out)) hb); clear HB; have HB := n0_; clear n0_; (try clear hb); (try clear hb2); (try clear hk); (try clear hi)) | ((with_reducible refine gate_callee (f := 21) rfl ?_); refine goesL_ (some 83) rfl rfl Try.func21 (by kernel_rfl) rfl #[.int .i64 t124] rfl (by (try simp only [List.map_toArray, List.map_cons, List.map_nil]); first | done | rfl | (simp only [List.length_drop, List.length_take]; rfl)) ?_; (with_reducible refine (f64_At.calls kj5 t124 t130 t131 _ A19.out).mono ?_); rintro e w' ⟨rfl, ⟨nd, rfl⟩⟩; refine ⟨_, rfl, ?_⟩))
                    go_ret
                    exact ⟨by first | rfl | (simp [errW_none, errW_some] <;> rfl) | (simp only [← hji15, ← hji17]; first | rfl | (simp [errW_none, errW_some] <;> rfl)) | (simp [*, errW_none, errW_some] <;> rfl), by repeat (first | (with_reducible first | exact HB.out | apply below_alloc | apply pw_below_drewN | apply below_drew1) | exact HB.out)⟩
                · rw [if_neg c22] at H
                  have c22b0 : (t129 == 0) = false := beq_eq_false_iff_ne.mpr c22
                  have c22b1 : (t129 != 0) = true := bne_iff_ne.mpr c22
                  obtain rfl := Option.some.inj H
                  go_wp2_with (first | ((with_reducible refine gate_callee (f := 11) rfl ?_); refine goesL_ (some 78) rfl rfl Try.func11 (by kernel_rfl) rfl #[.bool t120, .int .u64 ji17, .int .i64 (wrap64 (t122 - (ji15)))] rfl (by (try simp only [List.map_toArray, List.map_cons, List.map_nil]); first | done | (simp only [hji15, hji17]; rfl) | rfl | (simp only [List.length_drop, List.length_take]; rfl)) ?_; (with_reducible refine (f64_Join.calls kj5 t120 ji17 (wrap64 (t122 - (ji15))) t128 t129 _ A18.out).mono ?_); rintro e w28 ⟨rfl, hb⟩; refine ⟨_, rfl, ?_⟩; have n0_ := Aside0.mk (below_step (by repeat (first | (with_reducible first | exact HB.out | apply below_alloc | apply pw_below_drewN | apply below_drew1) | exact HB.out)) hb); clear HB; have HB := n0_; clear n0_; (try clear hb); (try clear hb2); (try clear hk); (try clear hi)) | ((with_reducible refine gate_callee (f := 21) rfl ?_); refine goesL_ (some 83) rfl rfl Try.func21 (by kernel_rfl) rfl #[.int .i64 t124] rfl (by (try simp only [List.map_toArray, List.map_cons, List.map_nil]); first | done | rfl | (simp only [List.length_drop, List.length_take]; rfl)) ?_; (with_reducible refine (f64_At.calls kj5 t124 t130 t131 _ A19.out).mono ?_); rintro e w' ⟨rfl, ⟨nd, rfl⟩⟩; refine ⟨_, rfl, ?_⟩))
                  go_ret
                  exact ⟨by first | rfl | (simp [errW_none, errW_some] <;> rfl) | (simp only [← hji15, ← hji17]; first | rfl | (simp [errW_none, errW_some] <;> rfl)) | (simp [*, errW_none, errW_some] <;> rfl), by repeat (first | (with_reducible first | exact HB.out | apply below_alloc | apply pw_below_drewN | apply below_drew1) | exact HB.out)⟩
              · rw [if_neg c21] at H
                have c21b0 : (t128 == a0) = false := beq_eq_false_iff_ne.mpr c21
                have c21b1 : (t128 != a0) = true := bne_iff_ne.mpr c21
                obtain rfl := Option.some.inj H
                go_wp2_with (first | ((with_reducible refine gate_callee (f := 11) rfl ?_); refine goesL_ (some 78) rfl rfl Try.func11 (by kernel_rfl) rfl #[.bool t120, .int .u64 ji17, .int .i64 (wrap64 (t122 - (ji15)))] rfl (by (try simp only [List.map_toArray, List.map_cons, List.map_nil]); first | done | (simp only [hji15, hji17]; rfl) | rfl | (simp only [List.length_drop, List.length_take]; rfl)) ?_; (with_reducible refine (f64_Join.calls kj5 t120 ji17 (wrap64 (t122 - (ji15))) t128 t129 _ A18.out).mono ?_); rintro e w29 ⟨rfl, hb⟩; refine ⟨_, rfl, ?_⟩; have n0_ := Aside0.mk (below_step (by repeat (first | (with_reducible first | exact HB.out | apply below_alloc | apply pw_below_drewN | apply below_drew1) | exact HB.out)) hb); clear HB; have HB := n0_; clear n0_; (try clear hb); (try clear hb2); (try clear hk); (try clear hi)) | ((with_reducible refine gate_callee (f := 21) rfl ?_); refine goesL_ (some 83) rfl rfl Try.func21 (by kernel_rfl) rfl #[.int .i64 t124] rfl (by (try simp only [List.map_toArray, List.map_cons, List.map_nil]); first | done | rfl | (simp only [List.length_drop, List.length_take]; rfl)) ?_; (with_reducible refine (f64_At.calls kj5 t124 t130 t131 _ A19.out).mono ?_); rintro e w' ⟨rfl, ⟨nd, rfl⟩⟩; refine ⟨_, rfl, ?_⟩))
                go_ret
                exact ⟨by first | rfl | (simp [errW_none, errW_some] <;> rfl) | (simp only [← hji15, ← hji17]; first | rfl | (simp [errW_none, errW_some] <;> rfl)) | (simp [*, errW_none, errW_some] <;> rfl), by repeat (first | (with_reducible first | exact HB.out | apply below_alloc | apply pw_below_drewN | apply below_drew1) | exact HB.out)⟩
            · rw [if_neg c20] at H
              have c20b0 : (a0 == 9223372036854775808) = false := beq_eq_false_iff_ne.mpr c20
              have c20b1 : (a0 != 9223372036854775808) = true := bne_iff_ne.mpr c20
              by_cases c30 : t128 = a0
              · rw [if_pos c30] at H
                have c30b0 : (t128 == a0) = true := beq_iff_eq.mpr c30
                have c30b1 : (t128 != a0) = false := bne_eq_false_iff_eq.mpr c30
                clear c30
                by_cases c31 : t129 = 0
                · rw [if_pos c31] at H
                  have c31b0 : (t129 == 0) = true := beq_iff_eq.mpr c31
                  have c31b1 : (t129 != 0) = false := bne_eq_false_iff_eq.mpr c31
                  clear c31
                  by_cases c32 : t130 = a0
                  · rw [if_pos c32] at H
                    have c32b0 : (t130 == a0) = true := beq_iff_eq.mpr c32
                    have c32b1 : (t130 != a0) = false := bne_eq_false_iff_eq.mpr c32
                    clear c32
                    by_cases c33 : t131 = 0
                    · rw [if_pos c33] at H
                      have c33b0 : (t131 == 0) = true := beq_iff_eq.mpr c33
                      have c33b1 : (t131 != 0) = false := bne_eq_false_iff_eq.mpr c33
                      clear c33
                      by_cases c34 : (t120 == (decide (a0 ≥ 9223372036854775808))) = true
                      · rw [if_pos c34] at H
                        have c34b0 : (t120 == (decide (a0 ≥ 9223372036854775808))) = true := c34
                        (try (have c34b1 : decide (t120 = (decide (a0 ≥ 9223372036854775808))) = true := by simpa using c34))
                        (try (have c34b2 : (t120 == (decide (a0 ≥ 9223372036854775808))) = true := by simpa using c34))
                        clear c34
                        obtain rfl := Option.some.inj H
                        go_wp2_with (first | ((with_reducible refine gate_callee (f := 11) rfl ?_); refine goesL_ (some 78) rfl rfl Try.func11 (by kernel_rfl) rfl #[.bool t120, .int .u64 ji17, .int .i64 (wrap64 (t122 - (ji15)))] rfl (by (try simp only [List.map_toArray, List.map_cons, List.map_nil]); first | done | (simp only [hji15, hji17]; rfl) | rfl | (simp only [List.length_drop, List.length_take]; rfl)) ?_; (with_reducible refine (f64_Join.calls kj5 t120 ji17 (wrap64 (t122 - (ji15))) t128 t129 _ A18.out).mono ?_); rintro e w35 ⟨rfl, hb⟩; refine ⟨_, rfl, ?_⟩; have n0_ := Aside0.mk (below_step (by repeat (first | (with_reducible first | exact HB.out | apply below_alloc | apply pw_below_drewN | apply below_drew1) | exact HB.out)) hb); clear HB; have HB := n0_; clear n0_; (try clear hb); (try clear hb2); (try clear hk); (try clear hi)) | ((with_reducible refine gate_callee (f := 21) rfl ?_); refine goesL_ (some 83) rfl rfl Try.func21 (by kernel_rfl) rfl #[.int .i64 t124] rfl (by (try simp only [List.map_toArray, List.map_cons, List.map_nil]); first | done | rfl | (simp only [List.length_drop, List.length_take]; rfl)) ?_; (with_reducible refine (f64_At.calls kj5 t124 t130 t131 _ A19.out).mono ?_); rintro e w' ⟨rfl, ⟨nd, rfl⟩⟩; refine ⟨_, rfl, ?_⟩))
                        go_ret
                        exact ⟨by first | rfl | (simp [errW_none, errW_some] <;> rfl) | (simp only [← hji15, ← hji17]; first | rfl | (simp [errW_none, errW_some] <;> rfl)) | (simp [*, errW_none, errW_some] <;> rfl), by repeat (first | (with_reducible first | exact HB.out | apply below_alloc | apply pw_below_drewN | apply below_drew1) | exact HB.out)⟩
                      · rw [if_neg c34] at H
                        have c34b0 : (t120 == (decide (a0 ≥ 9223372036854775808))) = false := by simpa using c34
                        (try (have c34b1 : decide (t120 = (decide (a0 ≥ 9223372036854775808))) = false := by simpa using c34))
                        (try (have c34b2 : (t120 == (decide (a0 ≥ 9223372036854775808))) = false := by simpa using c34))
                        (try (have c34b3 : ¬ (t120 = (decide (a0 ≥ 9223372036854775808))) := by simpa using c34))
                        clear c34
                        obtain rfl := Option.some.inj H
                        go_wp2_with (first | ((with_reducible refine gate_callee (f := 11) rfl ?_); refine goesL_ (some 78) rfl rfl Try.func11 (by kernel_rfl) rfl #[.bool t120, .int .u64 ji17, .int .i64 (wrap64 (t122 - (ji15)))] rfl (by (try simp only [List.map_toArray, List.map_cons, List.map_nil]); first | done | (simp only [hji15, hji17]; rfl) | rfl | (simp only [List.length_drop, List.length_take]; rfl)) ?_; (with_reducible refine (f64_Join.calls kj5 t120 ji17 (wrap64 (t122 - (ji15))) t128 t129 _ A18.out).mono ?_); rintro e w36 ⟨rfl, hb⟩; refine ⟨_, rfl, ?_⟩; have n0_ := Aside0.mk (below_step (by repeat (first | (with_reducible first | exact HB.out | apply below_alloc | apply pw_below_drewN | apply below_drew1) | exact HB.out)) hb); clear HB; have HB := n0_; clear n0_; (try clear hb); (try clear hb2); (try clear hk); (try clear hi)) | ((with_reducible refine gate_callee (f := 21) rfl ?_); refine goesL_ (some 83) rfl rfl Try.func21 (by kernel_rfl) rfl #[.int .i64 t124] rfl (by (try simp only [List.map_toArray, List.map_cons, List.map_nil]); first | done | rfl | (simp only [List.length_drop, List.length_take]; rfl)) ?_; (with_reducible refine (f64_At.calls kj5 t124 t130 t131 _ A19.out).mono ?_); rintro e w' ⟨rfl, ⟨nd, rfl⟩⟩; refine ⟨_, rfl, ?_⟩))
                        go_ret
                        exact ⟨by first | rfl | (simp [errW_none, errW_some] <;> rfl) | (simp only [← hji15, ← hji17]; first | rfl | (simp [errW_none, errW_some] <;> rfl)) | (simp [*, errW_none, errW_some] <;> rfl), by repeat (first | (with_reducible first | exact HB.out | apply below_alloc | apply pw_below_drewN | apply below_drew1) | exact HB.out)⟩
                    · rw [if_neg c33] at H
                      have c33b0 : (t131 == 0) = false := beq_eq_false_iff_ne.mpr c33
                      have c33b1 : (t131 != 0) = true := bne_iff_ne.mpr c33
                      obtain rfl := Option.some.inj H
                      go_wp2_with (first | ((with_reducible refine gate_callee (f := 11) rfl ?_); refine goesL_ (some 78) rfl rfl Try.func11 (by kernel_rfl) rfl #[.bool t120, .int .u64 ji17, .int .i64 (wrap64 (t122 - (ji15)))] rfl (by (try simp only [List.map_toArray, List.map_cons, List.map_nil]); first | done | (simp only [hji15, hji17]; rfl) | rfl | (simp only [List.length_drop, List.length_take]; rfl)) ?_; (with_reducible refine (f64_Join.calls kj5 t120 ji17 (wrap64 (t122 - (ji15))) t128 t129 _ A18.out).mono ?_); rintro e w37 ⟨rfl, hb⟩; refine ⟨_, rfl, ?_⟩; have n0_ := Aside0.mk (below_step (by repeat (first | (with_reducible first | exact HB.out | apply below_alloc | apply pw_below_drewN | apply below_drew1) | exact HB.out)) hb); clear HB; have HB := n0_; clear n0_; (try clear hb); (try clear hb2); (try clear hk); (try clear hi)) | ((with_reducible refine gate_callee (f := 21) rfl ?_); refine goesL_ (some 83) rfl rfl Try.func21 (by kernel_rfl) rfl #[.int .i64 t124] rfl (by (try simp only [List.map_toArray, List.map_cons, List.map_nil]); first | done | rfl | (simp only [List.length_drop, List.length_take]; rfl)) ?_; (with_reducible refine (f64_At.calls kj5 t124 t130 t131 _ A19.out).mono ?_); rintro e w' ⟨rfl, ⟨nd, rfl⟩⟩; refine ⟨_, rfl, ?_⟩))
                      go_ret
                      exact ⟨by first | rfl | (simp [errW_none, errW_some] <;> rfl) | (simp only [← hji15, ← hji17]; first | rfl | (simp [errW_none, errW_some] <;> rfl)) | (simp [*, errW_none, errW_some] <;> rfl), by repeat (first | (with_reducible first | exact HB.out | apply below_alloc | apply pw_below_drewN | apply below_drew1) | exact HB.out)⟩
                  · rw [if_neg c32] at H
                    have c32b0 : (t130 == a0) = false := beq_eq_false_iff_ne.mpr c32
                    have c32b1 : (t130 != a0) = true := bne_iff_ne.mpr c32
                    obtain rfl := Option.some.inj H
                    go_wp2_with (first | ((with_reducible refine gate_callee (f := 11) rfl ?_); refine goesL_ (some 78) rfl rfl Try.func11 (by kernel_rfl) rfl #[.bool t120, .int .u64 ji17, .int .i64 (wrap64 (t122 - (ji15)))] rfl (by (try simp only [List.map_toArray, List.map_cons, List.map_nil]); first | done | (simp only [hji15, hji17]; rfl) | rfl | (simp only [List.length_drop, List.length_take]; rfl)) ?_; (with_reducible refine (f64_Join.calls kj5 t120 ji17 (wrap64 (t122 - (ji15))) t128 t129 _ A18.out).mono ?_); rintro e w38 ⟨rfl, hb⟩; refine ⟨_, rfl, ?_⟩; have n0_ := Aside0.mk (below_step (by repeat (first | (with_reducible first | exact HB.out | apply below_alloc | apply pw_below_drewN | apply below_drew1) | exact HB.out)) hb); clear HB; have HB := n0_; clear n0_; (try clear hb); (try clear hb2); (try clear hk); (try clear hi)) | ((with_reducible refine gate_callee (f := 21) rfl ?_); refine goesL_ (some 83) rfl rfl Try.func21 (by kernel_rfl) rfl #[.int .i64 t124] rfl (by (try simp only [List.map_toArray, List.map_cons, List.map_nil]); first | done | rfl | (simp only [List.length_drop, List.length_take]; rfl)) ?_; (with_reducible refine (f64_At.calls kj5 t124 t130 t131 _ A19.out).mono ?_); rintro e w' ⟨rfl, ⟨nd, rfl⟩⟩; refine ⟨_, rfl, ?_⟩))
                    go_ret
                    exact ⟨by first | rfl | (simp [errW_none, errW_some] <;> rfl) | (simp only [← hji15, ← hji17]; first | rfl | (simp [errW_none, errW_some] <;> rfl)) | (simp [*, errW_none, errW_some] <;> rfl), by repeat (first | (with_reducible first | exact HB.out | apply below_alloc | apply pw_below_drewN | apply below_drew1) | exact HB.out)⟩
                · rw [if_neg c31] at H
                  have c31b0 : (t129 == 0) = false := beq_eq_false_iff_ne.mpr c31
                  have c31b1 : (t129 != 0) = true := bne_iff_ne.mpr c31
                  obtain rfl := Option.some.inj H
                  go_wp2_with (first | ((with_reducible refine gate_callee (f := 11) rfl ?_); refine goesL_ (some 78) rfl rfl Try.func11 (by kernel_rfl) rfl #[.bool t120, .int .u64 ji17, .int .i64 (wrap64 (t122 - (ji15)))] rfl (by (try simp only [List.map_toArray, List.map_cons, List.map_nil]); first | done | (simp only [hji15, hji17]; rfl) | rfl | (simp only [List.length_drop, List.length_take]; rfl)) ?_; (with_reducible refine (f64_Join.calls kj5 t120 ji17 (wrap64 (t122 - (ji15))) t128 t129 _ A18.out).mono ?_); rintro e w39 ⟨rfl, hb⟩; refine ⟨_, rfl, ?_⟩; have n0_ := Aside0.mk (below_step (by repeat (first | (with_reducible first | exact HB.out | apply below_alloc | apply pw_below_drewN | apply below_drew1) | exact HB.out)) hb); clear HB; have HB := n0_; clear n0_; (try clear hb); (try clear hb2); (try clear hk); (try clear hi)) | ((with_reducible refine gate_callee (f := 21) rfl ?_); refine goesL_ (some 83) rfl rfl Try.func21 (by kernel_rfl) rfl #[.int .i64 t124] rfl (by (try simp only [List.map_toArray, List.map_cons, List.map_nil]); first | done | rfl | (simp only [List.length_drop, List.length_take]; rfl)) ?_; (with_reducible refine (f64_At.calls kj5 t124 t130 t131 _ A19.out).mono ?_); rintro e w' ⟨rfl, ⟨nd, rfl⟩⟩; refine ⟨_, rfl, ?_⟩))
                  go_ret
                  exact ⟨by first | rfl | (simp [errW_none, errW_some] <;> rfl) | (simp only [← hji15, ← hji17]; first | rfl | (simp [errW_none, errW_some] <;> rfl)) | (simp [*, errW_none, errW_some] <;> rfl), by repeat (first | (with_reducible first | exact HB.out | apply below_alloc | apply pw_below_drewN | apply below_drew1) | exact HB.out)⟩
              · rw [if_neg c30] at H
                have c30b0 : (t128 == a0) = false := beq_eq_false_iff_ne.mpr c30
                have c30b1 : (t128 != a0) = true := bne_iff_ne.mpr c30
                obtain rfl := Option.some.inj H
                go_wp2_with (first | ((with_reducible refine gate_callee (f := 11) rfl ?_); refine goesL_ (some 78) rfl rfl Try.func11 (by kernel_rfl) rfl #[.bool t120, .int .u64 ji17, .int .i64 (wrap64 (t122 - (ji15)))] rfl (by (try simp only [List.map_toArray, List.map_cons, List.map_nil]); first | done | (simp only [hji15, hji17]; rfl) | rfl | (simp only [List.length_drop, List.length_take]; rfl)) ?_; (with_reducible refine (f64_Join.calls kj5 t120 ji17 (wrap64 (t122 - (ji15))) t128 t129 _ A18.out).mono ?_); rintro e w40 ⟨rfl, hb⟩; refine ⟨_, rfl, ?_⟩; have n0_ := Aside0.mk (below_step (by repeat (first | (with_reducible first | exact HB.out | apply below_alloc | apply pw_below_drewN | apply below_drew1) | exact HB.out)) hb); clear HB; have HB := n0_; clear n0_; (try clear hb); (try clear hb2); (try clear hk); (try clear hi)) | ((with_reducible refine gate_callee (f := 21) rfl ?_); refine goesL_ (some 83) rfl rfl Try.func21 (by kernel_rfl) rfl #[.int .i64 t124] rfl (by (try simp only [List.map_toArray, List.map_cons, List.map_nil]); first | done | rfl | (simp only [List.length_drop, List.length_take]; rfl)) ?_; (with_reducible refine (f64_At.calls kj5 t124 t130 t131 _ A19.out).mono ?_); rintro e w' ⟨rfl, ⟨nd, rfl⟩⟩; refine ⟨_, rfl, ?_⟩))
                go_ret
                exact ⟨by first | rfl | (simp [errW_none, errW_some] <;> rfl) | (simp only [← hji15, ← hji17]; first | rfl | (simp [errW_none, errW_some] <;> rfl)) | (simp [*, errW_none, errW_some] <;> rfl), by repeat (first | (with_reducible first | exact HB.out | apply below_alloc | apply pw_below_drewN | apply below_drew1) | exact HB.out)⟩
          · rw [if_neg c16] at H
            exact absurd H (by simp)
        · rw [if_neg c14] at H
          have c14b0 : (t123 == 0) = false := beq_eq_false_iff_ne.mpr c14
          have c14b1 : (t123 != 0) = true := bne_iff_ne.mpr c14
          by_cases c41 : t123 = 60
          · rw [if_pos c41] at H
            have c41b0 : (t123 == 60) = true := beq_iff_eq.mpr c41
            have c41b1 : (t123 != 60) = false := bne_eq_false_iff_eq.mpr c41
            clear c41
            by_cases c42 : t125 = 60
            · rw [if_pos c42] at H
              have c42b0 : (t125 == 60) = true := beq_iff_eq.mpr c42
              have c42b1 : (t125 != 60) = false := bne_eq_false_iff_eq.mpr c42
              clear c42
              by_cases c43 : t121 = 0
              · rw [if_pos c43] at H
                have c43b0 : (t121 == 0) = true := beq_iff_eq.mpr c43
                have c43b1 : (t121 != 0) = false := bne_eq_false_iff_eq.mpr c43
                clear c43
                by_cases c44 : t122 = 0
                · rw [if_pos c44] at H
                  have c44b0 : (t122 == 0) = true := beq_iff_eq.mpr c44
                  have c44b1 : (t122 != 0) = false := bne_eq_false_iff_eq.mpr c44
                  clear c44
                  obtain rfl := Option.some.inj H
                  go_wp2
                  go_ret
                  exact ⟨by first | rfl | (simp [errW_none, errW_some] <;> rfl) | (simp [*, errW_none, errW_some] <;> rfl), by repeat (first | (with_reducible first | exact HB.out | apply below_alloc | apply pw_below_drewN | apply below_drew1) | exact HB.out)⟩
                · rw [if_neg c44] at H
                  have c44b0 : (t122 == 0) = false := beq_eq_false_iff_ne.mpr c44
                  have c44b1 : (t122 != 0) = true := bne_iff_ne.mpr c44
                  obtain rfl := Option.some.inj H
                  go_wp2
                  go_ret
                  exact ⟨by first | rfl | (simp [errW_none, errW_some] <;> rfl) | (simp [*, errW_none, errW_some] <;> rfl), by repeat (first | (with_reducible first | exact HB.out | apply below_alloc | apply pw_below_drewN | apply below_drew1) | exact HB.out)⟩
              · rw [if_neg c43] at H
                have c43b0 : (t121 == 0) = false := beq_eq_false_iff_ne.mpr c43
                have c43b1 : (t121 != 0) = true := bne_iff_ne.mpr c43
                obtain rfl := Option.some.inj H
                go_wp2
                go_ret
                exact ⟨by first | rfl | (simp [errW_none, errW_some] <;> rfl) | (simp [*, errW_none, errW_some] <;> rfl), by repeat (first | (with_reducible first | exact HB.out | apply below_alloc | apply pw_below_drewN | apply below_drew1) | exact HB.out)⟩
            · rw [if_neg c42] at H
              have c42b0 : (t125 == 60) = false := beq_eq_false_iff_ne.mpr c42
              have c42b1 : (t125 != 60) = true := bne_iff_ne.mpr c42
              obtain rfl := Option.some.inj H
              go_wp2
              go_ret
              exact ⟨by first | rfl | (simp [errW_none, errW_some] <;> rfl) | (simp [*, errW_none, errW_some] <;> rfl), by repeat (first | (with_reducible first | exact HB.out | apply below_alloc | apply pw_below_drewN | apply below_drew1) | exact HB.out)⟩
          · rw [if_neg c41] at H
            have c41b0 : (t123 == 60) = false := beq_eq_false_iff_ne.mpr c41
            have c41b1 : (t123 != 60) = true := bne_iff_ne.mpr c41
            obtain rfl := Option.some.inj H
            go_wp2
            go_ret
            exact ⟨by first | rfl | (simp [errW_none, errW_some] <;> rfl) | (simp [*, errW_none, errW_some] <;> rfl), by repeat (first | (with_reducible first | exact HB.out | apply below_alloc | apply pw_below_drewN | apply below_drew1) | exact HB.out)⟩

/-- THE ONE PURE STATEMENT of plumblaw06_F64Back: yours. -/
def plumblaw06_F64Back.Pure : Prop := ∀ (a0 : Int) (a1 : Int), (Lit.int .u64 a0).wf = true → (Lit.int .i64 a1).wf = true → ∃ k, plumblaw06_F64Back.f k a0 a1 = some true
theorem plumblaw06_F64Back.walk (P : plumblaw06_F64Back.Pure) (a0 : Int) (a1 : Int) (w : World) (w0 : (Lit.int .u64 a0).wf = true) (w1 : (Lit.int .i64 a1).wf = true) :
    Calls Try.prog 5 #[.int .u64 a0, .int .i64 a1] w fun e w' => e = .returned (.bool true) ∧ Below w.heap.size w w' := by
  obtain ⟨k, h⟩ := P a0 a1 w0 w1
  refine (plumblaw06_F64Back.calls k a0 a1 true w h).mono ?_
  rintro e w' ⟨rfl, hd⟩
  exact ⟨rfl, hd⟩

end Go.Proofs.Ytpnndhbeahajkaa.PF64Back
