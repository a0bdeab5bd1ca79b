/- Go functions as Lean functions and their contracts: each call comes to what the Lean function says; or a law's row out of them. No conditions. Written by this session's wip/hprint.py (the kit's print with contracts and repairs of my own). -/
import Derived.Test.YthinhdnbhkppgaaPWideDividesx0
import Derived.Test.YthinhdnbhkppgaaPWideDividesx1
namespace Go.Proofs.Ythinhdnbhkppgaa.PWideDivides
open Go.RowKit Go.Proofs.YthinhdnbhkppgaaW.PrintWords Go.Proofs.YthinhdnbhkppgaaW.PrintLast Go.Proofs.YthinhdnbhkppgaaW.PrintMore
attribute [local go_sem] max2_int min2_int max_two min_two max_three min_three max_four min_four   -- for this text's walks alone
set_option linter.unusedVariables false
set_option linter.unusedSimpArgs false

/-! ### plumblaw01_WideDivides: function 13 -/
def plumblaw01_WideDivides.j0 : Nat → Int → Int → Bool → Option (Bool)
  | 0, _, _, _ => none
  | k + 1, x0, x1, x78 => if x78 = true then (some false) else ((wide_Div.f x1 x0 x1).bind fun bt115 => ((wide_Div.f (IntKind.u64.wrap (x1 - 1)) x0 x1).bind fun bt118 => ((plumblaw01_num.f bt115.2.2).bind fun t121 => (if t121 = 11 then ((plumblaw01_num.f bt118.2.2).bind fun t122 => (some (t122 == 0))) else (some false)))))
def plumblaw01_WideDivides.f (k : Nat) (a0 : Int) (a1 : Int) (a2 : Int) : Option (Bool) := if a1 = 0 then ((wide_Div.f a2 a0 a1).bind fun bt101 => ((plumblaw01_num.f bt101.2.2).bind fun t104 => (some (t104 == 10)))) else ((wide_Mul.f a0 a1).bind fun bt105 => ((wide_Add.f bt105.2 (Int.tmod a2 a1) 0).bind fun bt107 => ((wide_Add.f bt105.1 0 bt107.2).bind fun bt109 => (if bt109.2 = 0 then ((wide_Div.f bt109.1 bt107.1 a1).bind fun bt111 => ((plumblaw01_num.f bt111.2.2).bind fun t114 => (if t114 = 0 then (if bt111.1 = a0 then (plumblaw01_WideDivides.j0 k a0 a1 (bt111.2.1 != (Int.tmod a2 a1))) else (plumblaw01_WideDivides.j0 k a0 a1 true)) else (plumblaw01_WideDivides.j0 k a0 a1 true)))) else (some false)))))
theorem plumblaw01_WideDivides.mono_l : ∀ k, (∀ y0 y1 y2, LeO (plumblaw01_WideDivides.j0 k y0 y1 y2) (plumblaw01_WideDivides.j0 (k + 1) y0 y1 y2))
  | 0 => fun _ _ _ r h => by simp [plumblaw01_WideDivides.j0] at h
  | k + 1 => by
    have ih0 := plumblaw01_WideDivides.mono_l k
    · intro y0 y1 y2
      unfold plumblaw01_WideDivides.j0
      repeat' first
      | (with_reducible exact ih0 _ _ _)
      | (with_reducible exact LeO.refl _)
      | (with_reducible exact LeO.none _)
      | (with_reducible refine LeO.ite ?_ ?_)
      | (with_reducible refine LeO.bind ?_ (fun _ => ?_))
      | exact ih0 _ _ _
      | exact LeO.none _
      | refine LeO.ite ?_ ?_
      | refine LeO.bind ?_ (fun _ => ?_)
theorem plumblaw01_WideDivides.mono : ∀ a0 a1 a2 k, LeO (plumblaw01_WideDivides.f k a0 a1 a2) (plumblaw01_WideDivides.f (k + 1) a0 a1 a2) := by
  intro a0 a1 a2 k
  have ih0 := plumblaw01_WideDivides.mono_l k
  unfold plumblaw01_WideDivides.f
  repeat' first
      | (with_reducible exact ih0 _ _ _)
      | (with_reducible exact LeO.refl _)
      | (with_reducible exact LeO.none _)
      | (with_reducible refine LeO.ite ?_ ?_)
      | (with_reducible refine LeO.bind ?_ (fun _ => ?_))
      | exact ih0 _ _ _
      | exact LeO.none _
      | refine LeO.ite ?_ ?_
      | refine LeO.bind ?_ (fun _ => ?_)
set_option maxHeartbeats 8000000 in
set_option maxRecDepth 100000 in
theorem plumblaw01_WideDivides.calls (k : Nat) (a0 : Int) (a1 : Int) (a2 : Int) (r : Bool) (w : World) (h : plumblaw01_WideDivides.f k a0 a1 a2 = some r) :
    Calls Try.prog 13 #[.int .u64 a0, .int .u64 a1, .int .u64 a2] w fun e w' => e = .returned (.bool r) ∧ Below w.heap.size w w' := by
  have HB := Aside0.mk (Below.refl w.heap.size w)
  have H : (if a1 = 0 then ((wide_Div.f a2 a0 a1).bind fun bt101 => ((plumblaw01_num.f bt101.2.2).bind fun t104 => (some (t104 == 10)))) else ((wide_Mul.f a0 a1).bind fun bt105 => ((wide_Add.f bt105.2 (Int.tmod a2 a1) 0).bind fun bt107 => ((wide_Add.f bt105.1 0 bt107.2).bind fun bt109 => (if bt109.2 = 0 then ((wide_Div.f bt109.1 bt107.1 a1).bind fun bt111 => ((plumblaw01_num.f bt111.2.2).bind fun t114 => (if t114 = 0 then (if bt111.1 = a0 then (plumblaw01_WideDivides.j0 k a0 a1 (bt111.2.1 != (Int.tmod a2 a1))) else (plumblaw01_WideDivides.j0 k a0 a1 true)) else (plumblaw01_WideDivides.j0 k a0 a1 true)))) else (some false)))))) = some r := h
  clear h
  by_cases c4 : a1 = 0
  · rw [if_pos c4] at H
    have c4b0 : (a1 == 0) = true := beq_iff_eq.mpr c4
    have c4b1 : (a1 != 0) = false := bne_eq_false_iff_eq.mpr c4
    clear c4
    replace H := Option.bind_eq_some_iff.mp H
    obtain ⟨⟨t101, t102, t103⟩, A50, H⟩ := H
    replace H : ((plumblaw01_num.f t103).bind fun t104 => (some (t104 == 10))) = some r := H
    have A5 := Aside0.mk A50
    clear A50
    replace H := Option.bind_eq_some_iff.mp H
    obtain ⟨t104, A60, H⟩ := H
    replace H : (some (t104 == 10)) = some r := H
    have A6 := Aside0.mk A60
    clear A60
    obtain rfl := Option.some.inj H
    go_enter Try.func13, Try.ntmps13
    go_wp2_with (first | ((with_reducible refine gate_callee (f := 25) rfl ?_); refine goesL_ (some 28) rfl rfl Try.func25 (by kernel_rfl) rfl #[.int .u64 a2, .int .u64 a0, .int .u64 a1] rfl (by (try simp only [List.map_toArray, List.map_cons, List.map_nil]); first | done | rfl | (simp only [List.length_drop, List.length_take]; rfl)) ?_; (with_reducible refine (wide_Div.calls a2 a0 a1 t101 t102 t103 _ A5.out).mono ?_); rintro e w7 ⟨rfl, hb⟩; refine ⟨_, rfl, ?_⟩; have n0_ := Aside0.mk (below_step (by repeat (first | (with_reducible first | exact HB.out | apply below_alloc | apply pw_below_drewN | apply below_drew1) | exact HB.out)) hb); clear HB; have HB := n0_; clear n0_; (try clear hb); (try clear hb2); (try clear hk); (try clear hi)) | ((with_reducible refine gate_callee (f := 27) rfl ?_); refine goesL_ (some 33) rfl rfl Try.func27 (by kernel_rfl) rfl #[.int .i64 t103] rfl (by (try simp only [List.map_toArray, List.map_cons, List.map_nil]); first | done | rfl | (simp only [List.length_drop, List.length_take]; rfl)) ?_; (with_reducible refine (plumblaw01_num.calls t103 t104 _ A6.out).mono ?_); rintro e w' ⟨rfl, ⟨nd, rfl⟩⟩; refine ⟨_, rfl, ?_⟩))
    go_ret
    exact ⟨by first | rfl | (simp [errW_none, errW_some] <;> rfl) | (simp [*, errW_none, errW_some] <;> rfl), by repeat (first | (with_reducible first | exact HB.out | apply below_alloc | apply pw_below_drewN | apply below_drew1) | exact HB.out)⟩
  · rw [if_neg c4] at H
    have c4b0 : (a1 == 0) = false := beq_eq_false_iff_ne.mpr c4
    have c4b1 : (a1 != 0) = true := bne_iff_ne.mpr c4
    replace H := Option.bind_eq_some_iff.mp H
    obtain ⟨⟨t105, t106⟩, A80, H⟩ := H
    replace H : ((wide_Add.f t106 (Int.tmod a2 a1) 0).bind fun bt107 => ((wide_Add.f t105 0 bt107.2).bind fun bt109 => (if bt109.2 = 0 then ((wide_Div.f bt109.1 bt107.1 a1).bind fun bt111 => ((plumblaw01_num.f bt111.2.2).bind fun t114 => (if t114 = 0 then (if bt111.1 = a0 then (plumblaw01_WideDivides.j0 k a0 a1 (bt111.2.1 != (Int.tmod a2 a1))) else (plumblaw01_WideDivides.j0 k a0 a1 true)) else (plumblaw01_WideDivides.j0 k a0 a1 true)))) else (some false)))) = some r := H
    have A8 := Aside0.mk A80
    clear A80
    replace H := Option.bind_eq_some_iff.mp H
    obtain ⟨⟨t107, t108⟩, A90, H⟩ := H
    replace H : ((wide_Add.f t105 0 t108).bind fun bt109 => (if bt109.2 = 0 then ((wide_Div.f bt109.1 t107 a1).bind fun bt111 => ((plumblaw01_num.f bt111.2.2).bind fun t114 => (if t114 = 0 then (if bt111.1 = a0 then (plumblaw01_WideDivides.j0 k a0 a1 (bt111.2.1 != (Int.tmod a2 a1))) else (plumblaw01_WideDivides.j0 k a0 a1 true)) else (plumblaw01_WideDivides.j0 k a0 a1 true)))) else (some false))) = some r := H
    have A9 := Aside0.mk A90
    clear A90
    replace H := Option.bind_eq_some_iff.mp H
    obtain ⟨⟨t109, t110⟩, A100, H⟩ := H
    replace H : (if t110 = 0 then ((wide_Div.f t109 t107 a1).bind fun bt111 => ((plumblaw01_num.f bt111.2.2).bind fun t114 => (if t114 = 0 then (if bt111.1 = a0 then (plumblaw01_WideDivides.j0 k a0 a1 (bt111.2.1 != (Int.tmod a2 a1))) else (plumblaw01_WideDivides.j0 k a0 a1 true)) else (plumblaw01_WideDivides.j0 k a0 a1 true)))) else (some false)) = some r := H
    have A10 := Aside0.mk A100
    clear A100
    by_cases c11 : t110 = 0
    · rw [if_pos c11] at H
      have c11b0 : (t110 == 0) = true := beq_iff_eq.mpr c11
      have c11b1 : (t110 != 0) = false := bne_eq_false_iff_eq.mpr c11
      clear c11
      replace H := Option.bind_eq_some_iff.mp H
      obtain ⟨⟨t111, t112, t113⟩, A120, H⟩ := H
      replace H : ((plumblaw01_num.f t113).bind fun t114 => (if t114 = 0 then (if t111 = a0 then (plumblaw01_WideDivides.j0 k a0 a1 (t112 != (Int.tmod a2 a1))) else (plumblaw01_WideDivides.j0 k a0 a1 true)) else (plumblaw01_WideDivides.j0 k a0 a1 true))) = some r := H
      have A12 := Aside0.mk A120
      clear A120
      have HC13 := Aside0.mk H
      clear H
      go_enter Try.func13, Try.ntmps13
      go_upto_region 11 with (first | ((with_reducible refine gate_callee (f := 18) rfl ?_); refine goesL_ (some 41) rfl rfl Try.func18 (by kernel_rfl) rfl #[.int .u64 a0, .int .u64 a1] rfl (by (try simp only [List.map_toArray, List.map_cons, List.map_nil]); first | done | rfl | (simp only [List.length_drop, List.length_take]; rfl)) ?_; (with_reducible refine (wide_Mul.calls a0 a1 t105 t106 _ A8.out).mono ?_); rintro e w14 ⟨rfl, hb⟩; refine ⟨_, rfl, ?_⟩; have n0_ := Aside0.mk (below_step (by repeat (first | (with_reducible first | exact HB.out | apply below_alloc | apply pw_below_drewN | apply below_drew1) | exact HB.out)) hb); clear HB; have HB := n0_; clear n0_; (try clear hb); (try clear hb2); (try clear hk); (try clear hi)) | ((with_reducible refine gate_callee (f := 14) rfl ?_); refine goesL_ (some 47) rfl rfl Try.func14 (by kernel_rfl) rfl #[.int .u64 t106, .int .u64 (Int.tmod a2 a1), .int .u64 0] rfl (by (try simp only [List.map_toArray, List.map_cons, List.map_nil]); first | done | rfl | (simp only [List.length_drop, List.length_take]; rfl)) ?_; (with_reducible refine (wide_Add.calls t106 (Int.tmod a2 a1) 0 t107 t108 _ A9.out).mono ?_); rintro e w' ⟨rfl, ⟨nd, rfl⟩⟩; refine ⟨_, rfl, ?_⟩) | ((with_reducible refine gate_callee (f := 14) rfl ?_); refine goesL_ (some 53) rfl rfl Try.func14 (by kernel_rfl) rfl #[.int .u64 t105, .int .u64 0, .int .u64 t108] rfl (by (try simp only [List.map_toArray, List.map_cons, List.map_nil]); first | done | rfl | (simp only [List.length_drop, List.length_take]; rfl)) ?_; (with_reducible refine (wide_Add.calls t105 0 t108 t109 t110 _ A10.out).mono ?_); rintro e w' ⟨rfl, ⟨nd, rfl⟩⟩; refine ⟨_, rfl, ?_⟩) | ((with_reducible refine gate_callee (f := 25) rfl ?_); refine goesL_ (some 62) rfl rfl Try.func25 (by kernel_rfl) rfl #[.int .u64 t109, .int .u64 t107, .int .u64 a1] rfl (by (try simp only [List.map_toArray, List.map_cons, List.map_nil]); first | done | rfl | (simp only [List.length_drop, List.length_take]; rfl)) ?_; (with_reducible refine (wide_Div.calls t109 t107 a1 t111 t112 t113 _ A12.out).mono ?_); rintro e w15 ⟨rfl, hb⟩; refine ⟨_, rfl, ?_⟩; have n0_ := Aside0.mk (below_step (by repeat (first | (with_reducible first | exact HB.out | apply below_alloc | apply pw_below_drewN | apply below_drew1) | exact HB.out)) hb); clear HB; have HB := n0_; clear n0_; (try clear hb); (try clear hb2); (try clear hk); (try clear hi)))
      (try simp only [Act.put, List.setIfInBounds_toArray, List.set_cons_zero, List.set_cons_succ])
      go_cut [78] (fun v78 wc => ∃ (kq : Nat) (x78_12 : Bool), v78 = .bool x78_12 ∧ Aside0 (plumblaw01_WideDivides.j0 kq a0 a1 x78_12 = some r) ∧ Aside0 (kq ≤ k) ∧ Aside0 (Below w.heap.size w wc))
      case first =>
        have H := HC13.out
        clear HC13
        replace H := Option.bind_eq_some_iff.mp H
        obtain ⟨t114, A160, H⟩ := H
        replace H : (if t114 = 0 then (if t111 = a0 then (plumblaw01_WideDivides.j0 k a0 a1 (t112 != (Int.tmod a2 a1))) else (plumblaw01_WideDivides.j0 k a0 a1 true)) else (plumblaw01_WideDivides.j0 k a0 a1 true)) = some r := H
        have A16 := Aside0.mk A160
        clear A160
        by_cases c17 : t114 = 0
        · rw [if_pos c17] at H
          have c17b0 : (t114 == 0) = true := beq_iff_eq.mpr c17
          have c17b1 : (t114 != 0) = false := bne_eq_false_iff_eq.mpr c17
          clear c17
          (first | rw [c17b0] | (simp only [i64_w, i32_w]; rw [c17b0]) | skip)
          by_cases c18 : t111 = a0
          · rw [if_pos c18] at H
            have c18b0 : (t111 == a0) = true := beq_iff_eq.mpr c18
            have c18b1 : (t111 != a0) = false := bne_eq_false_iff_eq.mpr c18
            clear c18
            have H' := Aside0.mk H
            clear H
            go_wp2_with (first | ((with_reducible refine gate_callee (f := 27) rfl ?_); refine goesL_ (some 67) rfl rfl Try.func27 (by kernel_rfl) rfl #[.int .i64 t113] rfl (by (try simp only [List.map_toArray, List.map_cons, List.map_nil]); first | done | rfl | (simp only [List.length_drop, List.length_take]; rfl)) ?_; (with_reducible refine (plumblaw01_num.calls t113 t114 _ A16.out).mono ?_); rintro e w' ⟨rfl, ⟨nd, rfl⟩⟩; refine ⟨_, rfl, ?_⟩))
            go_meet
            case rel => exact ⟨_, ((t112 != (Int.tmod a2 a1))), (by first | rfl | (simp; done) | (simp [*]; done)), H', ⟨by first | omega | exact Nat.le_refl _⟩, ⟨by repeat (first | (with_reducible first | exact HB.out | apply below_alloc | apply pw_below_drewN | apply below_drew1) | exact HB.out)⟩⟩
          · rw [if_neg c18] at H
            have c18b0 : (t111 == a0) = false := beq_eq_false_iff_ne.mpr c18
            have c18b1 : (t111 != a0) = true := bne_iff_ne.mpr c18
            have H' := Aside0.mk H
            clear H
            go_wp2_with (first | ((with_reducible refine gate_callee (f := 27) rfl ?_); refine goesL_ (some 67) rfl rfl Try.func27 (by kernel_rfl) rfl #[.int .i64 t113] rfl (by (try simp only [List.map_toArray, List.map_cons, List.map_nil]); first | done | rfl | (simp only [List.length_drop, List.length_take]; rfl)) ?_; (with_reducible refine (plumblaw01_num.calls t113 t114 _ A16.out).mono ?_); rintro e w' ⟨rfl, ⟨nd, rfl⟩⟩; refine ⟨_, rfl, ?_⟩))
            go_meet
            case rel => exact ⟨_, (true), (by first | rfl | (simp; done) | (simp [*]; done)), H', ⟨by first | omega | exact Nat.le_refl _⟩, ⟨by repeat (first | (with_reducible first | exact HB.out | apply below_alloc | apply pw_below_drewN | apply below_drew1) | exact HB.out)⟩⟩
        · rw [if_neg c17] at H
          have c17b0 : (t114 == 0) = false := beq_eq_false_iff_ne.mpr c17
          have c17b1 : (t114 != 0) = true := bne_iff_ne.mpr c17
          (first | rw [c17b0] | (simp only [i64_w, i32_w]; rw [c17b0]) | skip)
          have H' := Aside0.mk H
          clear H
          go_wp2_with (first | ((with_reducible refine gate_callee (f := 27) rfl ?_); refine goesL_ (some 67) rfl rfl Try.func27 (by kernel_rfl) rfl #[.int .i64 t113] rfl (by (try simp only [List.map_toArray, List.map_cons, List.map_nil]); first | done | rfl | (simp only [List.length_drop, List.length_take]; rfl)) ?_; (with_reducible refine (plumblaw01_num.calls t113 t114 _ A16.out).mono ?_); rintro e w' ⟨rfl, ⟨nd, rfl⟩⟩; refine ⟨_, rfl, ?_⟩))
          go_meet
          case rel => exact ⟨_, (true), (by first | rfl | (simp; done) | (simp [*]; done)), H', ⟨by first | omega | exact Nat.le_refl _⟩, ⟨by repeat (first | (with_reducible first | exact HB.out | apply below_alloc | apply pw_below_drewN | apply below_drew1) | exact HB.out)⟩⟩
      case rest =>
        clear HC13
        try clear c1
        try clear c2
        try clear p2
        try clear c4
        try clear c4b0
        try clear c4b1
        try clear c11
        try clear c11b0
        try clear c11b1
        try clear c13
        try clear c14
        try clear c17
        try clear c17b0
        try clear c17b1
        try clear c18
        try clear c18b0
        try clear c18b1
        obtain ⟨kq, x78_12, rfl, HA, HJ12, HB⟩ := hcut
        cases kq with
        | zero => exact absurd HA.out (by simp [plumblaw01_WideDivides.j0])
        | succ kj12 =>
          have H := HA.out
          clear HA
          simp only [plumblaw01_WideDivides.j0] at H
          by_cases c19 : x78_12 = true
          · subst c19
            have H1 : (some false) = some r := by rw [if_pos rfl] at H; exact H
            clear H
            have H := H1
            clear H1
            obtain rfl := Option.some.inj H
            go_wp2
            go_ret
            exact ⟨by first | rfl | (simp [errW_none, errW_some] <;> rfl) | (simp [*, errW_none, errW_some] <;> rfl), by repeat (first | (with_reducible first | exact HB.out | apply below_alloc | apply pw_below_drewN | apply below_drew1) | exact HB.out)⟩
          · replace c19 := Bool.eq_false_iff.mpr c19
            subst c19
            have H1 : ((wide_Div.f a1 a0 a1).bind fun bt115 => ((wide_Div.f (IntKind.u64.wrap (a1 - 1)) a0 a1).bind fun bt118 => ((plumblaw01_num.f bt115.2.2).bind fun t121 => (if t121 = 11 then ((plumblaw01_num.f bt118.2.2).bind fun t122 => (some (t122 == 0))) else (some false))))) = some r := by rw [if_neg (show ¬ (false = true) by decide)] at H; exact H
            clear H
            have H := H1
            clear H1
            replace H := Option.bind_eq_some_iff.mp H
            obtain ⟨⟨t115, t116, t117⟩, A200, H⟩ := H
            replace H : ((wide_Div.f (IntKind.u64.wrap (a1 - 1)) a0 a1).bind fun bt118 => ((plumblaw01_num.f t117).bind fun t121 => (if t121 = 11 then ((plumblaw01_num.f bt118.2.2).bind fun t122 => (some (t122 == 0))) else (some false)))) = some r := H
            have A20 := Aside0.mk A200
            clear A200
            replace H := Option.bind_eq_some_iff.mp H
            obtain ⟨⟨t118, t119, t120⟩, A210, H⟩ := H
            replace H : ((plumblaw01_num.f t117).bind fun t121 => (if t121 = 11 then ((plumblaw01_num.f t120).bind fun t122 => (some (t122 == 0))) else (some false))) = some r := H
            have A21 := Aside0.mk A210
            clear A210
            replace H := Option.bind_eq_some_iff.mp H
            obtain ⟨t121, A220, H⟩ := H
            replace H : (if t121 = 11 then ((plumblaw01_num.f t120).bind fun t122 => (some (t122 == 0))) else (some false)) = some r := H
            have A22 := Aside0.mk A220
            clear A220
            by_cases c23 : t121 = 11
            · rw [if_pos c23] at H
              have c23b0 : (t121 == 11) = true := beq_iff_eq.mpr c23
              have c23b1 : (t121 != 11) = false := bne_eq_false_iff_eq.mpr c23
              clear c23
              replace H := Option.bind_eq_some_iff.mp H
              obtain ⟨t122, A240, H⟩ := H
              replace H : (some (t122 == 0)) = some r := H
              have A24 := Aside0.mk A240
              clear A240
              obtain rfl := Option.some.inj H
              go_wp2_with (first | ((with_reducible refine gate_callee (f := 25) rfl ?_); refine goesL_ (some 83) rfl rfl Try.func25 (by kernel_rfl) rfl #[.int .u64 a1, .int .u64 a0, .int .u64 a1] rfl (by (try simp only [List.map_toArray, List.map_cons, List.map_nil]); first | done | rfl | (simp only [List.length_drop, List.length_take]; rfl)) ?_; (with_reducible refine (wide_Div.calls a1 a0 a1 t115 t116 t117 _ A20.out).mono ?_); rintro e w25 ⟨rfl, hb⟩; refine ⟨_, rfl, ?_⟩; have n0_ := Aside0.mk (below_step (by repeat (first | (with_reducible first | exact HB.out | apply below_alloc | apply pw_below_drewN | apply below_drew1) | exact HB.out)) hb); clear HB; have HB := n0_; clear n0_; (try clear hb); (try clear hb2); (try clear hk); (try clear hi)) | ((with_reducible refine gate_callee (f := 25) rfl ?_); refine goesL_ (some 92) rfl rfl Try.func25 (by kernel_rfl) rfl #[.int .u64 (IntKind.u64.wrap (a1 - 1)), .int .u64 a0, .int .u64 a1] rfl (by (try simp only [List.map_toArray, List.map_cons, List.map_nil]); first | done | rfl | (simp only [List.length_drop, List.length_take]; rfl)) ?_; (with_reducible refine (wide_Div.calls (IntKind.u64.wrap (a1 - 1)) a0 a1 t118 t119 t120 _ A21.out).mono ?_); rintro e w26 ⟨rfl, hb⟩; refine ⟨_, rfl, ?_⟩; have n0_ := Aside0.mk (below_step (by repeat (first | (with_reducible first | exact HB.out | apply below_alloc | apply pw_below_drewN | apply below_drew1) | exact HB.out)) hb); clear HB; have HB := n0_; clear n0_; (try clear hb); (try clear hb2); (try clear hk); (try clear hi)) | ((with_reducible refine gate_callee (f := 27) rfl ?_); refine goesL_ (some 97) rfl rfl Try.func27 (by kernel_rfl) rfl #[.int .i64 t117] rfl (by (try simp only [List.map_toArray, List.map_cons, List.map_nil]); first | done | rfl | (simp only [List.length_drop, List.length_take]; rfl)) ?_; (with_reducible refine (plumblaw01_num.calls t117 t121 _ A22.out).mono ?_); rintro e w' ⟨rfl, ⟨nd, rfl⟩⟩; refine ⟨_, rfl, ?_⟩) | (go_at_call 27; (with_reducible refine (plumblaw01_num.calls t120 t122 _ A24.out).mono ?_); rintro e w' ⟨rfl, ⟨nd, rfl⟩⟩))
              go_ret
              exact ⟨by first | rfl | (simp [errW_none, errW_some] <;> rfl) | (simp [*, errW_none, errW_some] <;> rfl), by repeat (first | (with_reducible first | exact HB.out | apply below_alloc | apply pw_below_drewN | apply below_drew1) | exact HB.out)⟩
            · rw [if_neg c23] at H
              have c23b0 : (t121 == 11) = false := beq_eq_false_iff_ne.mpr c23
              have c23b1 : (t121 != 11) = true := bne_iff_ne.mpr c23
              obtain rfl := Option.some.inj H
              go_wp2_with (first | ((with_reducible refine gate_callee (f := 25) rfl ?_); refine goesL_ (some 83) rfl rfl Try.func25 (by kernel_rfl) rfl #[.int .u64 a1, .int .u64 a0, .int .u64 a1] rfl (by (try simp only [List.map_toArray, List.map_cons, List.map_nil]); first | done | rfl | (simp only [List.length_drop, List.length_take]; rfl)) ?_; (with_reducible refine (wide_Div.calls a1 a0 a1 t115 t116 t117 _ A20.out).mono ?_); rintro e w27 ⟨rfl, hb⟩; refine ⟨_, rfl, ?_⟩; have n0_ := Aside0.mk (below_step (by repeat (first | (with_reducible first | exact HB.out | apply below_alloc | apply pw_below_drewN | apply below_drew1) | exact HB.out)) hb); clear HB; have HB := n0_; clear n0_; (try clear hb); (try clear hb2); (try clear hk); (try clear hi)) | ((with_reducible refine gate_callee (f := 25) rfl ?_); refine goesL_ (some 92) rfl rfl Try.func25 (by kernel_rfl) rfl #[.int .u64 (IntKind.u64.wrap (a1 - 1)), .int .u64 a0, .int .u64 a1] rfl (by (try simp only [List.map_toArray, List.map_cons, List.map_nil]); first | done | rfl | (simp only [List.length_drop, List.length_take]; rfl)) ?_; (with_reducible refine (wide_Div.calls (IntKind.u64.wrap (a1 - 1)) a0 a1 t118 t119 t120 _ A21.out).mono ?_); rintro e w28 ⟨rfl, hb⟩; refine ⟨_, rfl, ?_⟩; have n0_ := Aside0.mk (below_step (by repeat (first | (with_reducible first | exact HB.out | apply below_alloc | apply pw_below_drewN | apply below_drew1) | exact HB.out)) hb); clear HB; have HB := n0_; clear n0_; (try clear hb); (try clear hb2); (try clear hk); (try clear hi)) | ((with_reducible refine gate_callee (f := 27) rfl ?_); refine goesL_ (some 97) rfl rfl Try.func27 (by kernel_rfl) rfl #[.int .i64 t117] rfl (by (try simp only [List.map_toArray, List.map_cons, List.map_nil]); first | done | rfl | (simp only [List.length_drop, List.length_take]; rfl)) ?_; (with_reducible refine (plumblaw01_num.calls t117 t121 _ A22.out).mono ?_); rintro e w' ⟨rfl, ⟨nd, rfl⟩⟩; refine ⟨_, rfl, ?_⟩))
              go_ret
              exact ⟨by first | rfl | (simp [errW_none, errW_some] <;> rfl) | (simp [*, errW_none, errW_some] <;> rfl), by repeat (first | (with_reducible first | exact HB.out | apply below_alloc | apply pw_below_drewN | apply below_drew1) | exact HB.out)⟩
    · rw [if_neg c11] at H
      have c11b0 : (t110 == 0) = false := beq_eq_false_iff_ne.mpr c11
      have c11b1 : (t110 != 0) = true := bne_iff_ne.mpr c11
      obtain rfl := Option.some.inj H
      go_enter Try.func13, Try.ntmps13
      go_wp2_with (first | ((with_reducible refine gate_callee (f := 18) rfl ?_); refine goesL_ (some 41) rfl rfl Try.func18 (by kernel_rfl) rfl #[.int .u64 a0, .int .u64 a1] rfl (by (try simp only [List.map_toArray, List.map_cons, List.map_nil]); first | done | rfl | (simp only [List.length_drop, List.length_take]; rfl)) ?_; (with_reducible refine (wide_Mul.calls a0 a1 t105 t106 _ A8.out).mono ?_); rintro e w29 ⟨rfl, hb⟩; refine ⟨_, rfl, ?_⟩; have n0_ := Aside0.mk (below_step (by repeat (first | (with_reducible first | exact HB.out | apply below_alloc | apply pw_below_drewN | apply below_drew1) | exact HB.out)) hb); clear HB; have HB := n0_; clear n0_; (try clear hb); (try clear hb2); (try clear hk); (try clear hi)) | ((with_reducible refine gate_callee (f := 14) rfl ?_); refine goesL_ (some 47) rfl rfl Try.func14 (by kernel_rfl) rfl #[.int .u64 t106, .int .u64 (Int.tmod a2 a1), .int .u64 0] rfl (by (try simp only [List.map_toArray, List.map_cons, List.map_nil]); first | done | rfl | (simp only [List.length_drop, List.length_take]; rfl)) ?_; (with_reducible refine (wide_Add.calls t106 (Int.tmod a2 a1) 0 t107 t108 _ A9.out).mono ?_); rintro e w' ⟨rfl, ⟨nd, rfl⟩⟩; refine ⟨_, rfl, ?_⟩) | ((with_reducible refine gate_callee (f := 14) rfl ?_); refine goesL_ (some 53) rfl rfl Try.func14 (by kernel_rfl) rfl #[.int .u64 t105, .int .u64 0, .int .u64 t108] rfl (by (try simp only [List.map_toArray, List.map_cons, List.map_nil]); first | done | rfl | (simp only [List.length_drop, List.length_take]; rfl)) ?_; (with_reducible refine (wide_Add.calls t105 0 t108 t109 t110 _ A10.out).mono ?_); rintro e w' ⟨rfl, ⟨nd, rfl⟩⟩; refine ⟨_, rfl, ?_⟩))
      go_ret
      exact ⟨by first | rfl | (simp [errW_none, errW_some] <;> rfl) | (simp [*, errW_none, errW_some] <;> rfl), by repeat (first | (with_reducible first | exact HB.out | apply below_alloc | apply pw_below_drewN | apply below_drew1) | exact HB.out)⟩

/-- THE ONE PURE STATEMENT of plumblaw01_WideDivides: yours. -/
def plumblaw01_WideDivides.Pure : Prop := ∀ (a0 : Int) (a1 : Int) (a2 : Int), (Lit.int .u64 a0).wf = true → (Lit.int .u64 a1).wf = true → (Lit.int .u64 a2).wf = true → ∃ k, plumblaw01_WideDivides.f k a0 a1 a2 = some true
theorem plumblaw01_WideDivides.walk (P : plumblaw01_WideDivides.Pure) (a0 : Int) (a1 : Int) (a2 : Int) (w : World) (w0 : (Lit.int .u64 a0).wf = true) (w1 : (Lit.int .u64 a1).wf = true) (w2 : (Lit.int .u64 a2).wf = true) :
    Calls Try.prog 13 #[.int .u64 a0, .int .u64 a1, .int .u64 a2] w fun e w' => e = .returned (.bool true) ∧ Below w.heap.size w w' := by
  obtain ⟨k, h⟩ := P a0 a1 a2 w0 w1 w2
  refine (plumblaw01_WideDivides.calls k a0 a1 a2 true w h).mono ?_
  rintro e w' ⟨rfl, hd⟩
  exact ⟨rfl, hd⟩

end Go.Proofs.Ythinhdnbhkppgaa.PWideDivides
